/- The walks of the statements on numbers by few bits: first, BitsPuts, BitsGets. -/
import Derived.Test.YtmhmpnbcjcmnnaaRefBitsG
import Derived.Test.YtmhmpnbcjcmnnaaLawEleven
namespace Go.Proofs.Ytmhmpnbcjcmnnaa
open Go.RowKit
set_option linter.unusedSimpArgs false
set_option linter.unusedVariables false

theorem put12a : bitsPut [10, 12, 11] = [20, 2, 24] := by
  unfold bitsPut
  rw [if_neg (by decide), show fold (Lib.minOf [10, 12, 11]) = 20 by decide, nat7_low (by decide)]
  decide +kernel
theorem put12b : (bitsPut [10, 13]).take 2 = [20, 2] := by
  unfold bitsPut
  rw [if_neg (by decide), show fold (Lib.minOf [10, 13]) = 20 by decide, nat7_low (by decide)]
  decide +kernel
theorem ints12 : Ints [10, 12, 11] := by
  intro v hv
  simp at hv
  omega
theorem get12_yes : bitsGet [20, 2, 24] 3 = some [10, 12, 11] := by
  have := bitsGet_put (l := [10, 12, 11]) ints12 (by decide)
  rw [put12a] at this
  exact this
theorem get12_no : bitsGet [20, 3, 24] 2 = none := by
  have hg : natGo 0 0 [20, 3, 24] = some (20, [3, 24]) := by first | decide | decide +kernel
  have hb : getBits [24] (((2 : Int).toNat * (3 : UInt8).toNat : Nat) : Int) = some [false, false, false, true, true, false] := by first | decide | decide +kernel
  have ho : outOf (unfoldN 20) (3 : UInt8).toNat (2 : Int).toNat [false, false, false, true, true, false] = [10, 13] := by first | decide | decide +kernel
  have e : bitsGet [20, 3, 24] 2 = chk [20, 3, 24] [10, 13] := by
    unfold bitsGet
    rw [if_neg (by decide)]
    unfold getN
    rw [if_neg (by decide), hg]
    simp only
    unfold getB
    simp only
    rw [if_neg (by decide), hb]
    simp only
    rw [ho]
  rw [e]
  unfold chk
  rw [if_neg]
  intro h
  have := put12b
  rw [h] at this
  exact absurd this (by decide)
theorem ints_of {L : List Int} (h : ∀ x ∈ L, (Lit.int .i64 x).wf = true) : Ints L := fun x hx => wf_i64_iff (h x hx)
theorem bget_len {b : List UInt8} {n : Int} {l : List Int} (h : bitsGet b n = some l) : l.length ≤ 256 := by
  unfold bitsGet at h
  split at h
  · cases h
  unfold getN at h
  split at h
  · split at h
    · injection h with h; subst h; simp
    · cases h
  · split at h
    · cases h
    · rename_i u r _
      unfold getB at h
      split at h
      · cases h
      · split at h
        · cases h
        · split at h
          · cases h
          · unfold chk at h
            split at h
            · injection h with h; subst h; rw [outOf_length]; omega
            · cases h
theorem bget_put (L : List Int) (n : Nat) (hn : L.length = n) (hw : Ints L) : bitsGet (bitsPut L) (n : Int) = if n ≤ 256 then some L else none := by
  by_cases h : n ≤ 256
  · rw [if_pos h, ← hn]; exact bitsGet_put hw (by omega)
  · rw [if_neg h]; exact bitsGet_long (by omega)

set_option maxRecDepth 100000 in
set_option maxHeartbeats 1000000 in
theorem first12_any (w : World) :
    Calls Try.prog 32 #[] w fun e w' => e = .returned (.bool true) ∧ Keeps No w w' := by
  have kc := fun (w : World) (C : Array Value) (n c : Nat) => Lib.run_convert_bytes_const (P := Try.prog) w 24 5 C n c Try.underlying24 Try.underlying5
  go_enter Try.func32, Try.ntmps32
  go_wp2_with fail
  refine (bget_any _ 3 3 [20, 2, 24] 3 _ (Sl.litF _ #[.int .u8 20, .int .u8 2, .int .u8 24] 5 (3, 4) _ rfl 3 rfl (by decide)) (by omega) (by decide)).mono ?_
  intro e w1 h1
  obtain ⟨a1, c1, rfl, hs1, hk1⟩ := h1.outOk get12_yes
  clear h1
  have hkw1 : Keeps No w w1 := hk1.ofAlloc
  go_wp2_with fail
  refine (bget_any _ 3 3 [20, 3, 24] 2 _ (Sl.litF _ #[.int .u8 20, .int .u8 3, .int .u8 24] 5 (3, 4) _ rfl 3 rfl (by decide)) (by omega) (by decide)).mono ?_
  intro e w2 h2
  obtain ⟨rfl, hk2⟩ := h2.outNo get12_no
  clear h2
  have hkw2 : Keeps No w w2 := hkw1.transNo hk2.ofAlloc
  have hs2 := hs1.kept hk2.ofAlloc
  go_wp2_with fail
  refine (bput_any _ 3 3 [10, 12, 11] _ (Sl.lit _ #[.int .i64 10, .int .i64 12, .int .i64 11] 3 _ rfl 3 rfl (by decide)) ints12 (by omega)).mono ?_
  rintro e w3 ⟨a3, m3, c3, rfl, hs3, -, -, hk3⟩
  rw [put12a] at hs3
  have hkw3 : Keeps No w w3 := hkw2.transNo hk3.ofAlloc
  have hs2' := hs2.kept hk3.ofAlloc
  have hstr := hs3.str (P := Try.prog) 24 9 _ Try.underlying24 Try.underlying5 Try.underlying9
  go_wp2_with fail
  refine (rsame_any _ _ _ [10, 12, 11] _ 3 3 [10, 12, 11] _ (hs2'.kept ((Keeps.refl No w3).alloc _)) (Sl.lit _ #[.int .i64 10, .int .i64 12, .int .i64 11] 3 _ rfl 3 rfl (by decide)) (by decide) (by decide)).mono ?_
  rintro e w4 ⟨rfl, hk4⟩
  go_wp2_with fail
  go_ret
  exact ⟨rfl, hkw3.transNo hk4.ofAlloc⟩

set_option maxRecDepth 100000 in
set_option maxHeartbeats 2000000 in
theorem bitsPuts_any (a : Option Addr) (n c : Nat) (L : List Int) (w : World) (hs : Sl w a n c (L.map intV)) (hw : ∀ x ∈ L, (Lit.int .i64 x).wf = true) (hn : n ≤ 140737488351232) :
    Calls Try.prog 11 #[.slice a n c] w fun e w' => e = .returned (.bool true) ∧ Keeps No w w' := by
  have hlen : L.length = n := by simpa using hs.len
  go_enter Try.func11, Try.ntmps11
  go_wp2_with fail
  refine (first12_any _).mono ?_
  rintro e w1 ⟨rfl, hk1⟩
  by_cases hbig : n ≤ 400
  case neg =>
    go_wp2_with fail
    go_ret
    exact ⟨rfl, hk1⟩
  have hs1 := hs.kept hk1
  replace hw := ints_of hw
  have hgp := bget_put L n hlen hw
  have Hgp := Lib.hid hgp
  have Hlen := Lib.hid hlen
  have Hw := Lib.hid hw
  clear hgp hlen hw
  go_wp2_with fail
  refine (bput_any a n c L _ hs1 Hw.out (by omega)).mono ?_
  rintro e w2 ⟨a2, m2, c2, rfl, hs2, hm2x, -, hk2⟩
  have hm2 : (bitsPut L).length = m2 := by simpa using hs2.len
  have hm2' : m2 ≤ 100000 := by omega
  have Hm2 := Lib.hid hm2
  have hkw2 := hk1.transNo hk2
  have hs1' := hs1.kept hk2
  clear hm2
  go_wp2_with fail
  refine (bget_any a2 m2 c2 (bitsPut L) n _ hs2 hm2' (wf_nat n (by omega))).mono ?_
  intro e w3 h3
  by_cases h256 : n ≤ 256
  · obtain ⟨a3, c3, rfl, hs3, hk3⟩ := h3.outOk (l := L) (by rw [Hgp.out, if_pos h256])
    clear h3
    have hdd : decide ((n : Int) ≤ 256) = decide (n ≤ 256) := by simp; omega
    simp only [h256, decide_true, decide_false] at hdd
    have hs2' := hs2.kept hk3
    have hs1'' := hs1'.kept hk3
    have hstr : ∀ wx, Keeps No w3 wx → (convert 24 9 (.slice a2 m2 c2)).run Try.prog wx = .ok (.string ⟨(bitsPut L).toArray⟩) wx :=
      fun wx hx => (hs2'.kept hx).str (P := Try.prog) 24 9 5 Try.underlying24 Try.underlying5 Try.underlying9
    go_wp2_with fail
    refine wp_region_held_drew (S := fun wx => Keeps No w3 wx) (by kernel_rfl) ((Keeps.refl _ _).drew) (fun hS => ?_)
    refine tk (i := 0) (oi := ⟨some 20, _, _, _, _, _⟩) (v := ?_) rfl (by kernel_rfl) (fun _ _ _ h => h) (by assumption) (by rfl) (fun w hSw => ?_) ?_; rotate_left; (focus (first | (go_simp; done) | (go_simp; with_reducible rfl))); simp only [Act.put, List.setIfInBounds_toArray, List.set_cons_zero, List.set_cons_succ]
    refine tk (i := 1) (oi := ⟨some 21, _, _, _, _, _⟩) (v := ?_) rfl (by kernel_rfl) (fun _ _ _ h => h) (by assumption) (by rfl) (fun w hSw => ?_) ?_; rotate_left; (focus (first | (go_simp; done) | (go_simp; with_reducible rfl))); simp only [Act.put, List.setIfInBounds_toArray, List.set_cons_zero, List.set_cons_succ]
    refine tk (i := 2) (oi := ⟨some 22, _, _, _, _, _⟩) (v := ?_) rfl (by kernel_rfl) (fun _ _ _ h => h) (by assumption) (by rfl) (fun w hSw => ?_) ?_; rotate_left; (focus (first | (go_simp; done) | (go_simp; with_reducible rfl))); simp only [Act.put, List.setIfInBounds_toArray, List.set_cons_zero, List.set_cons_succ]
    refine alone (i := 3) (oi := ⟨some 23, _, _, _, _, _⟩) rfl (by kernel_rfl) (by rfl) (fun K hK => ?_); go_simp
    refine (rbput_any a n c L _ (hs1''.kept hS) Hw.out (by omega)).mono ?_
    rintro e w4 ⟨a4, m4, c4, rfl, hs4, -, hk4⟩
    have hstr4 : ∀ wx, Keeps No w4 wx → (convert 24 9 (.slice a4 m4 c4)).run Try.prog wx = .ok (.string ⟨(bitsPut L).toArray⟩) wx :=
      fun wx hx => (hs4.kept hx).str (P := Try.prog) 24 9 5 Try.underlying24 Try.underlying5 Try.underlying9
    have hk34 := hS.transNo hk4
    refine hK.out (fun wx => Keeps No w4 wx) _ _ (fun _ hx => hS.transNo (Keeps.transNo (hk4) hx)) (Keeps.refl _ _) ?_
    clear hK K hS
    intro hS
    refine tk (i := 4) (oi := ⟨some 24, _, _, _, _, _⟩) (v := ?_) rfl (by kernel_rfl) (fun _ _ _ h => h) (by assumption) (by rfl) (fun w hSw => ?_) ?_; rotate_left; (focus (first | (go_simp; done) | (go_simp; with_reducible rfl))); simp only [Act.put, List.setIfInBounds_toArray, List.set_cons_zero, List.set_cons_succ]
    refine tk (i := 5) (oi := ⟨some 25, _, _, _, _, _⟩) (v := ?_) rfl (by kernel_rfl) (fun _ _ _ h => h) (by assumption) (by rfl) (fun w hSw => ?_) ?_; rotate_left; (focus (first | (go_simp; done) | (go_simp; with_reducible rfl))); simp only [Act.put, List.setIfInBounds_toArray, List.set_cons_zero, List.set_cons_succ]
    refine tk (i := 6) (oi := ⟨some 26, _, _, _, _, _⟩) (v := ?_) rfl (by kernel_rfl) (fun _ _ _ h => h) (by assumption) (by rfl) (fun w hSw => ?_) ?_; rotate_left; (focus (first | (go_simp; done) | (go_simp; with_reducible rfl))); simp only [Act.put, List.setIfInBounds_toArray, List.set_cons_zero, List.set_cons_succ]
    refine tk (i := 7) (oi := ⟨some 27, _, _, _, _, _⟩) (v := ?_) rfl (by kernel_rfl) (fun _ _ _ h => h) (by assumption) (by rfl) (fun w hSw => ?_) ?_; rotate_left; (focus (first | (go_simp; done) | (go_simp; with_reducible rfl))); simp only [Act.put, List.setIfInBounds_toArray, List.set_cons_zero, List.set_cons_succ]
    refine tk (i := 8) (oi := ⟨some 28, _, _, _, _, _⟩) (v := ?_) rfl (by kernel_rfl) (fun _ _ _ h => h) (by assumption) (by rfl) (fun w hSw => ?_) ?_; rotate_left; (focus (first | (go_simp; done) | (go_simp; with_reducible rfl))); simp only [Act.put, List.setIfInBounds_toArray, List.set_cons_zero, List.set_cons_succ]
    refine tk (i := 9) (oi := ⟨some 29, _, _, _, _, _⟩) (v := ?_) rfl (by kernel_rfl) (fun _ _ _ h => h) (by assumption) (by rfl) (fun w hSw => ?_) ?_; rotate_left; (focus (first | (go_simp; done) | (go_simp; with_reducible rfl))); simp only [Act.put, List.setIfInBounds_toArray, List.set_cons_zero, List.set_cons_succ]
    refine tk (i := 10) (oi := ⟨some 30, _, _, _, _, _⟩) (v := ?_) rfl (by kernel_rfl) (fun _ _ _ h => h) (by assumption) (by rfl) (fun w hSw => ?_) ?_; rotate_left; (focus (first | (go_simp; done) | (go_simp; with_reducible rfl))); simp only [Act.put, List.setIfInBounds_toArray, List.set_cons_zero, List.set_cons_succ]
    refine tk (i := 11) (oi := ⟨some 31, _, _, _, _, _⟩) (v := ?_) rfl (by kernel_rfl) (fun _ _ _ h => h) (by assumption) (by rfl) (fun w hSw => ?_) ?_; rotate_left; (focus (first | (go_simp; done) | (go_simp; with_reducible rfl))); simp only [Act.put, List.setIfInBounds_toArray, List.set_cons_zero, List.set_cons_succ]
    refine tk (i := 12) (oi := ⟨some 32, _, _, _, _, _⟩) (v := ?_) rfl (by kernel_rfl) (fun _ _ _ h => h) (by assumption) (by rfl) (fun w hSw => ?_) ?_; rotate_left; (focus (first | (go_simp; done) | (go_simp; with_reducible rfl))); simp only [Act.put, List.setIfInBounds_toArray, List.set_cons_zero, List.set_cons_succ]
    refine tk (i := 13) (oi := ⟨some 33, _, _, _, _, _⟩) (v := ?_) rfl (by kernel_rfl) (fun _ _ _ h => h) (by assumption) (by rfl) (fun w hSw => ?_) ?_; rotate_left; (focus (first | (go_simp; done) | (go_simp; with_reducible rfl))); simp only [Act.put, List.setIfInBounds_toArray, List.set_cons_zero, List.set_cons_succ]
    refine tk (i := 14) (oi := ⟨some 34, _, _, _, _, _⟩) (v := ?_) rfl (by kernel_rfl) (fun _ _ _ h => h) (by assumption) (by rfl) (fun w hSw => ?_) ?_; rotate_left; (focus (first | (go_simp; done) | (go_simp; with_reducible rfl))); simp only [Act.put, List.setIfInBounds_toArray, List.set_cons_zero, List.set_cons_succ]
    refine tk (i := 15) (oi := ⟨some 35, _, _, _, _, _⟩) (v := ?_) rfl (by kernel_rfl) (fun _ _ _ h => h) (by assumption) (by rfl) (fun w hSw => ?_) ?_; rotate_left; (focus (first | (go_simp; done) | (go_simp; with_reducible rfl))); simp only [Act.put, List.setIfInBounds_toArray, List.set_cons_zero, List.set_cons_succ]
    refine tk (i := 16) (oi := ⟨some 36, _, _, _, _, _⟩) (v := ?_) rfl (by kernel_rfl) (fun _ _ _ h => h) (by assumption) (by rfl) (fun w hSw => ?_) ?_; rotate_left; (focus (first | (go_simp; done) | (go_simp; with_reducible rfl))); simp only [Act.put, List.setIfInBounds_toArray, List.set_cons_zero, List.set_cons_succ]
    refine tk (i := 17) (oi := ⟨some 37, _, _, _, _, _⟩) (v := ?_) rfl (by kernel_rfl) (fun _ _ _ h => h) (by assumption) (by rfl) (fun w hSw => ?_) ?_; rotate_left; (focus (first | (go_simp; done) | (go_simp; with_reducible rfl))); simp only [Act.put, List.setIfInBounds_toArray, List.set_cons_zero, List.set_cons_succ]
    refine tk (i := 18) (oi := ⟨some 38, _, _, _, _, _⟩) (v := ?_) rfl (by kernel_rfl) (fun _ _ _ h => h) (by assumption) (by rfl) (fun w hSw => ?_) ?_; rotate_left; (focus (first | (go_simp; done) | (go_simp; with_reducible rfl))); simp only [Act.put, List.setIfInBounds_toArray, List.set_cons_zero, List.set_cons_succ]
    refine alone (i := 19) (oi := ⟨some 39, _, _, _, _, _⟩) rfl (by kernel_rfl) (by rfl) (fun K hK => ?_); go_simp
    refine (rsame_any _ _ _ L a n c L _ (hs3.kept (hk34.transNo hS)) (hs1''.kept (hk34.transNo hS)) (by rw [Hlen.out]; omega) (by omega)).mono ?_
    rintro e w5 ⟨rfl, hk5⟩
    have hk35 := (hk34.transNo hS).transNo hk5
    refine hK.out (fun wx => Keeps No w5 wx) _ _ (fun _ hx => hS.transNo (Keeps.transNo (hk5) hx)) (Keeps.refl _ _) ?_
    clear hK K hS
    intro hS
    refine tk (i := 20) (oi := ⟨some 40, _, _, _, _, _⟩) (v := ?_) rfl (by kernel_rfl) (fun _ _ _ h => h) (by assumption) (by rfl) (fun w hSw => ?_) ?_; rotate_left; (focus (first | (go_simp; done) | (go_simp; with_reducible rfl))); simp only [Act.put, List.setIfInBounds_toArray, List.set_cons_zero, List.set_cons_succ]
    refine tk (i := 21) (oi := ⟨some 41, _, _, _, _, _⟩) (v := ?_) rfl (by kernel_rfl) (fun _ _ _ h => h) (by assumption) (by rfl) (fun w hSw => ?_) ?_; rotate_left; (focus (first | (go_simp; done) | (go_simp; with_reducible rfl))); simp only [Act.put, List.setIfInBounds_toArray, List.set_cons_zero, List.set_cons_succ]
    refine tk (i := 22) (oi := ⟨some 2, _, _, _, _, _⟩) (v := ?_) rfl (by kernel_rfl) (fun _ _ _ h => h) (by assumption) (by rfl) (fun w hSw => ?_) ?_; rotate_left; (focus (first | (go_simp; done) | (go_simp; with_reducible rfl))); simp only [Act.put, List.setIfInBounds_toArray, List.set_cons_zero, List.set_cons_succ]
    refine wpAnyH_done (by kernel_rfl) ?_ _
    go_wp2_with fail
    go_ret
    exact ⟨ret_bool (by simp), (hkw2.transNo hk3).transNo hk35⟩
  · obtain ⟨rfl, hk3⟩ := h3.outNo (by rw [Hgp.out, if_neg h256])
    clear h3
    have hdd : decide ((n : Int) ≤ 256) = decide (n ≤ 256) := by simp; omega
    simp only [h256, decide_true, decide_false] at hdd
    have hs2' := hs2.kept hk3
    have hs1'' := hs1'.kept hk3
    have hstr : ∀ wx, Keeps No w3 wx → (convert 24 9 (.slice a2 m2 c2)).run Try.prog wx = .ok (.string ⟨(bitsPut L).toArray⟩) wx :=
      fun wx hx => (hs2'.kept hx).str (P := Try.prog) 24 9 5 Try.underlying24 Try.underlying5 Try.underlying9
    go_wp2_with fail
    refine wp_region_held_drew (S := fun wx => Keeps No w3 wx) (by kernel_rfl) ((Keeps.refl _ _).drew) (fun hS => ?_)
    refine tk (i := 0) (oi := ⟨some 20, _, _, _, _, _⟩) (v := ?_) rfl (by kernel_rfl) (fun _ _ _ h => h) (by assumption) (by rfl) (fun w hSw => ?_) ?_; rotate_left; (focus (first | (go_simp; done) | (go_simp; with_reducible rfl))); simp only [Act.put, List.setIfInBounds_toArray, List.set_cons_zero, List.set_cons_succ]
    refine tk (i := 1) (oi := ⟨some 21, _, _, _, _, _⟩) (v := ?_) rfl (by kernel_rfl) (fun _ _ _ h => h) (by assumption) (by rfl) (fun w hSw => ?_) ?_; rotate_left; (focus (first | (go_simp; done) | (go_simp; with_reducible rfl))); simp only [Act.put, List.setIfInBounds_toArray, List.set_cons_zero, List.set_cons_succ]
    refine tk (i := 2) (oi := ⟨some 22, _, _, _, _, _⟩) (v := ?_) rfl (by kernel_rfl) (fun _ _ _ h => h) (by assumption) (by rfl) (fun w hSw => ?_) ?_; rotate_left; (focus (first | (go_simp; done) | (go_simp; with_reducible rfl))); simp only [Act.put, List.setIfInBounds_toArray, List.set_cons_zero, List.set_cons_succ]
    refine alone (i := 3) (oi := ⟨some 23, _, _, _, _, _⟩) rfl (by kernel_rfl) (by rfl) (fun K hK => ?_); go_simp
    refine (rbput_any a n c L _ (hs1''.kept hS) Hw.out (by omega)).mono ?_
    rintro e w4 ⟨a4, m4, c4, rfl, hs4, -, hk4⟩
    have hstr4 : ∀ wx, Keeps No w4 wx → (convert 24 9 (.slice a4 m4 c4)).run Try.prog wx = .ok (.string ⟨(bitsPut L).toArray⟩) wx :=
      fun wx hx => (hs4.kept hx).str (P := Try.prog) 24 9 5 Try.underlying24 Try.underlying5 Try.underlying9
    have hk34 := hS.transNo hk4
    refine hK.out (fun wx => Keeps No w4 wx) _ _ (fun _ hx => hS.transNo (Keeps.transNo (hk4) hx)) (Keeps.refl _ _) ?_
    clear hK K hS
    intro hS
    refine tk (i := 4) (oi := ⟨some 24, _, _, _, _, _⟩) (v := ?_) rfl (by kernel_rfl) (fun _ _ _ h => h) (by assumption) (by rfl) (fun w hSw => ?_) ?_; rotate_left; (focus (first | (go_simp; done) | (go_simp; with_reducible rfl))); simp only [Act.put, List.setIfInBounds_toArray, List.set_cons_zero, List.set_cons_succ]
    refine tk (i := 5) (oi := ⟨some 25, _, _, _, _, _⟩) (v := ?_) rfl (by kernel_rfl) (fun _ _ _ h => h) (by assumption) (by rfl) (fun w hSw => ?_) ?_; rotate_left; (focus (first | (go_simp; done) | (go_simp; with_reducible rfl))); simp only [Act.put, List.setIfInBounds_toArray, List.set_cons_zero, List.set_cons_succ]
    refine tk (i := 6) (oi := ⟨some 26, _, _, _, _, _⟩) (v := ?_) rfl (by kernel_rfl) (fun _ _ _ h => h) (by assumption) (by rfl) (fun w hSw => ?_) ?_; rotate_left; (focus (first | (go_simp; done) | (go_simp; with_reducible rfl))); simp only [Act.put, List.setIfInBounds_toArray, List.set_cons_zero, List.set_cons_succ]
    refine tk (i := 7) (oi := ⟨some 27, _, _, _, _, _⟩) (v := ?_) rfl (by kernel_rfl) (fun _ _ _ h => h) (by assumption) (by rfl) (fun w hSw => ?_) ?_; rotate_left; (focus (first | (go_simp; done) | (go_simp; with_reducible rfl))); simp only [Act.put, List.setIfInBounds_toArray, List.set_cons_zero, List.set_cons_succ]
    refine tk (i := 8) (oi := ⟨some 28, _, _, _, _, _⟩) (v := ?_) rfl (by kernel_rfl) (fun _ _ _ h => h) (by assumption) (by rfl) (fun w hSw => ?_) ?_; rotate_left; (focus (first | (go_simp; done) | (go_simp; with_reducible rfl))); simp only [Act.put, List.setIfInBounds_toArray, List.set_cons_zero, List.set_cons_succ]
    refine tk (i := 9) (oi := ⟨some 29, _, _, _, _, _⟩) (v := ?_) rfl (by kernel_rfl) (fun _ _ _ h => h) (by assumption) (by rfl) (fun w hSw => ?_) ?_; rotate_left; (focus (first | (go_simp; done) | (go_simp; with_reducible rfl))); simp only [Act.put, List.setIfInBounds_toArray, List.set_cons_zero, List.set_cons_succ]
    refine tk (i := 10) (oi := ⟨some 30, _, _, _, _, _⟩) (v := ?_) rfl (by kernel_rfl) (fun _ _ _ h => h) (by assumption) (by rfl) (fun w hSw => ?_) ?_; rotate_left; (focus (first | (go_simp; done) | (go_simp; with_reducible rfl))); simp only [Act.put, List.setIfInBounds_toArray, List.set_cons_zero, List.set_cons_succ]
    refine tk (i := 11) (oi := ⟨some 31, _, _, _, _, _⟩) (v := ?_) rfl (by kernel_rfl) (fun _ _ _ h => h) (by assumption) (by rfl) (fun w hSw => ?_) ?_; rotate_left; (focus (first | (go_simp; done) | (go_simp; with_reducible rfl))); simp only [Act.put, List.setIfInBounds_toArray, List.set_cons_zero, List.set_cons_succ]
    refine tk (i := 12) (oi := ⟨some 32, _, _, _, _, _⟩) (v := ?_) rfl (by kernel_rfl) (fun _ _ _ h => h) (by assumption) (by rfl) (fun w hSw => ?_) ?_; rotate_left; (focus (first | (go_simp; done) | (go_simp; with_reducible rfl))); simp only [Act.put, List.setIfInBounds_toArray, List.set_cons_zero, List.set_cons_succ]
    refine tk (i := 13) (oi := ⟨some 33, _, _, _, _, _⟩) (v := ?_) rfl (by kernel_rfl) (fun _ _ _ h => h) (by assumption) (by rfl) (fun w hSw => ?_) ?_; rotate_left; (focus (first | (go_simp; done) | (go_simp; with_reducible rfl))); simp only [Act.put, List.setIfInBounds_toArray, List.set_cons_zero, List.set_cons_succ]
    refine tk (i := 14) (oi := ⟨some 34, _, _, _, _, _⟩) (v := ?_) rfl (by kernel_rfl) (fun _ _ _ h => h) (by assumption) (by rfl) (fun w hSw => ?_) ?_; rotate_left; (focus (first | (go_simp; done) | (go_simp; with_reducible rfl))); simp only [Act.put, List.setIfInBounds_toArray, List.set_cons_zero, List.set_cons_succ]
    refine tk (i := 15) (oi := ⟨some 35, _, _, _, _, _⟩) (v := ?_) rfl (by kernel_rfl) (fun _ _ _ h => h) (by assumption) (by rfl) (fun w hSw => ?_) ?_; rotate_left; (focus (first | (go_simp; done) | (go_simp; with_reducible rfl))); simp only [Act.put, List.setIfInBounds_toArray, List.set_cons_zero, List.set_cons_succ]
    refine tk (i := 16) (oi := ⟨some 36, _, _, _, _, _⟩) (v := ?_) rfl (by kernel_rfl) (fun _ _ _ h => h) (by assumption) (by rfl) (fun w hSw => ?_) ?_; rotate_left; (focus (first | (go_simp; done) | (go_simp; with_reducible rfl))); simp only [Act.put, List.setIfInBounds_toArray, List.set_cons_zero, List.set_cons_succ]
    refine tkNot (i := 17) (oi := ⟨some 37, _, _, _, _, _⟩) rfl (by kernel_rfl) (fun _ _ _ h => h) (by assumption) (by rfl) ?_; simp only [Act.put, List.setIfInBounds_toArray, List.set_cons_zero, List.set_cons_succ]
    refine tkNot (i := 18) (oi := ⟨some 38, _, _, _, _, _⟩) rfl (by kernel_rfl) (fun _ _ _ h => h) (by assumption) (by rfl) ?_; simp only [Act.put, List.setIfInBounds_toArray, List.set_cons_zero, List.set_cons_succ]
    refine tkNot (i := 19) (oi := ⟨some 39, _, _, _, _, _⟩) rfl (by kernel_rfl) (fun _ _ _ h => h) (by assumption) (by rfl) ?_; simp only [Act.put, List.setIfInBounds_toArray, List.set_cons_zero, List.set_cons_succ]
    refine tk (i := 20) (oi := ⟨some 40, _, _, _, _, _⟩) (v := ?_) rfl (by kernel_rfl) (fun _ _ _ h => h) (by assumption) (by rfl) (fun w hSw => ?_) ?_; rotate_left; (focus (first | (go_simp; done) | (go_simp; with_reducible rfl))); simp only [Act.put, List.setIfInBounds_toArray, List.set_cons_zero, List.set_cons_succ]
    refine tk (i := 21) (oi := ⟨some 41, _, _, _, _, _⟩) (v := ?_) rfl (by kernel_rfl) (fun _ _ _ h => h) (by assumption) (by rfl) (fun w hSw => ?_) ?_; rotate_left; (focus (first | (go_simp; done) | (go_simp; with_reducible rfl))); simp only [Act.put, List.setIfInBounds_toArray, List.set_cons_zero, List.set_cons_succ]
    refine tk (i := 22) (oi := ⟨some 2, _, _, _, _, _⟩) (v := ?_) rfl (by kernel_rfl) (fun _ _ _ h => h) (by assumption) (by rfl) (fun w hSw => ?_) ?_; rotate_left; (focus (first | (go_simp; done) | (go_simp; with_reducible rfl))); simp only [Act.put, List.setIfInBounds_toArray, List.set_cons_zero, List.set_cons_succ]
    refine wpAnyH_done (by kernel_rfl) ?_ _
    go_wp2_with fail
    go_ret
    exact ⟨ret_bool (by simp), (hkw2.transNo hk3).transNo hk34⟩

set_option maxRecDepth 100000 in
set_option maxHeartbeats 2000000 in
theorem bitsGets_any (a : Option Addr) (m c : Nat) (b : List UInt8) (n : Int) (w : World) (hs : Sl w a m c (b.map byteV)) (hm : m ≤ 140737488351232) (hn : (Lit.int .i64 n).wf = true) :
    Calls Try.prog 12 #[.slice a m c, .int .i64 n] w fun e w' => e = .returned (.bool true) ∧ Keeps No w w' := by
  go_enter Try.func12, Try.ntmps12
  go_wp2_with fail
  refine (first12_any _).mono ?_
  rintro e w1 ⟨rfl, hk1⟩
  by_cases hbig : m ≤ 600
  case neg =>
    go_wp2_with fail
    go_ret
    exact ⟨rfl, hk1⟩
  have hs1 := hs.kept hk1
  go_wp2_with fail
  refine (bget_any a m c b n _ hs1 (by omega) hn).mono ?_
  intro e w2 h2
  cases hr : bitsGet b n with
  | none =>
    obtain ⟨rfl, hk2⟩ := h2.outNo hr
    clear h2
    have hs2 := hs1.kept hk2
    go_wp2_with fail
    refine (rbget_any a m c b n _ hs2 (by omega) hn).mono ?_
    intro e w3 h3
    obtain ⟨rfl, hk3⟩ := h3.outNo hr
    clear h3
    go_wp2_with fail
    refine (rsame_any _ _ _ [] _ _ _ [] _ (Sl.none _) (Sl.none _) (by omega) (by omega)).mono ?_
    rintro e w4 ⟨rfl, hk4⟩
    go_wp2_with fail
    go_ret
    exact ⟨rfl, ((hk1.transNo hk2).transNo hk3).transNo hk4⟩
  | some l =>
    have hl : l.length ≤ 256 := bget_len hr
    obtain ⟨a2, c2, rfl, hsl2, hk2⟩ := h2.outOk hr
    clear h2
    have hs2 := hs1.kept hk2
    go_wp2_with fail
    refine (rbget_any a m c b n _ hs2 (by omega) hn).mono ?_
    intro e w3 h3
    obtain ⟨a3, c3, rfl, hsl3, hk3⟩ := h3.outOk hr
    clear h3
    have hsl2' := hsl2.kept hk3
    go_wp2_with fail
    refine (rsame_any _ _ _ l _ _ _ l _ hsl2' hsl3 (by omega) (by omega)).mono ?_
    rintro e w4 ⟨rfl, hk4⟩
    go_wp2_with fail
    go_ret
    exact ⟨ret_bool (by simp), ((hk1.transNo hk2).transNo hk3).transNo hk4⟩

theorem bitsPuts_walk (a : Option Addr) (n c : Nat) (l : List {n : Int // (Lit.int .i64 n).wf = true}) (w : World) (hs : Sl w a n c (l.map i64V)) (hn : n * 8 ≤ 140737488351232) :
    Calls Try.prog 11 #[.slice a n c] w fun e w' => e = .returned (.bool true) ∧ Keeps No w w' :=
  bitsPuts_any a n c (l.map (·.1)) w (by rw [← i64_map]; exact hs) (i64_wf l) (by omega)
theorem bitsGets_walk (a : Option Addr) (m c : Nat) (b : List UInt8) (n : Int) (w : World) (hs : Sl w a m c (b.map byteV)) (hm : m ≤ 140737488351232) (hn : (Lit.int .i64 n).wf = true) :
    Calls Try.prog 12 #[.slice a m c, .int .i64 n] w fun e w' => e = .returned (.bool true) ∧ Keeps No w w' := bitsGets_any a m c b n w hs hm hn

end Go.Proofs.Ytmhmpnbcjcmnnaa
