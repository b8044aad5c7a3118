/- The walks of the statements on dicts: first, DictPuts, DictGets. -/
import Derived.Test.YthbipcjgpocpaaaRefDictG
import Derived.Test.YthbipcjgpocpaaaLawEleven
namespace Go.Proofs.Ythbipcjgpocpaaa
open Go.RowKit
set_option linter.unusedSimpArgs false
set_option linter.unusedVariables false
set_option maxRecDepth 100000

theorem DGetPost.outOk {r : Option (List Tx)} {l : List Tx} {w w' : World} {e : Ending} (h : DGetPost r w e w') (hr : r = some l) : ∃ a c, e = .returned (.tuple #[.slice a l.length c, .bool true]) ∧ Sl w' a l.length c (l.map txV) ∧ Keeps No w w' := by
  subst hr
  obtain ⟨v, rfl, ho, hk⟩ := h
  obtain ⟨a, c, rfl, hs, _⟩ := Sl.ofOwn ho
  exact ⟨a, c, rfl, hs, hk⟩
theorem DGetPost.outNo {r : Option (List Tx)} {w w' : World} {e : Ending} (h : DGetPost r w e w') (hr : r = none) : e = .returned (.tuple #[.slice none 0 0, .bool false]) ∧ Keeps No w w' := by
  subst hr; exact h
theorem bitsPut_len (L : List Int) (h : Ints L) (hn : L.length ≤ 1000) : (bitsPut L).length ≤ 9000 := by
  unfold bitsPut
  split
  · simp
  rename_i hne
  have h1 := nat7_len64 (fold (Lib.minOf L)) (fold_lt (h _ (min_mem hne)))
  have h2 := width_le h hne
  have h3 : L.length * widthN L ≤ 1000 * 64 := Nat.mul_le_mul hn h2
  have e : (bitsTail L).length = 1 + (L.length * widthN L + 7) / 8 := by
    unfold bitsTail
    rw [List.length_cons, putTo_length, allBits_length]
    omega
  rw [List.length_append, e]
  omega
theorem dputL_len (L : List Tx) (m : Nat) (hn : L.length ≤ 1000) (hL : ∀ x ∈ L, x.length ≤ m) (hm : m ≤ 1000000) : (dputL L).length ≤ 9010 + L.length * (m + 10) := by
  have h1 := wordsL_len L
  have h2 := encW_len (wordsL L) m (fun x hx => hL x ((wordsL_mem L x).1 hx)) hm
  have h3 := nat7_len64 (wordsL L).length (by omega)
  have h4 := bitsPut_len (atW (wordsL L) L) (atW_ints _ _ (by omega)) (by simpa [atW] using hn)
  have h5 : (wordsL L).length * (m + 10) ≤ L.length * (m + 10) := Nat.mul_le_mul_right _ h1
  unfold dputL headW
  simp only [List.length_append]
  omega
theorem dget_put (L : List Tx) (n : Nat) (hn : L.length = n) (hL : ∀ x ∈ L, x.length ≤ 1000000) : dgetL (dputL L) (n : Int) = if n ≤ 256 then some L else none := by
  by_cases h : n ≤ 256
  · rw [if_pos h, ← hn]; exact dgetL_put L (by omega) hL
  · rw [if_neg h]; unfold dgetL; rw [if_pos (.inr (by omega))]
theorem bits13 : bitsPut [1, 0, 1] = [0, 1, 5] := by
  unfold bitsPut
  rw [if_neg (by decide), show fold (Lib.minOf [1, 0, 1]) = 0 by decide, nat7_low (by decide)]
  decide +kernel
theorem words13 : wordsL [[98], [97], [98]] = [[97], [98]] := by decide
theorem words13' : wordsL [[97], [98], [97]] = [[97], [98]] := by decide
theorem put13 : dputL [[98], [97], [98]] = [2, 1, 97, 1, 98, 0, 1, 5] := by
  unfold dputL
  rw [words13, show atW [[97], [98]] [[98], [97], [98]] = [1, 0, 1] by decide, bits13]
  unfold headW encW
  simp [nat7_low]
theorem put13' : (dputL [[97], [98], [97]]).take 3 = [2, 1, 97] := by
  unfold dputL
  rw [words13']
  unfold headW encW
  simp [nat7_low]
theorem get13_yes : dgetL [2, 1, 97, 1, 98, 0, 1, 5] 3 = some [[98], [97], [98]] := by
  have := dgetL_put [[98], [97], [98]] (by decide) (by simp)
  rw [put13] at this
  exact this
theorem get13_no : dgetL [2, 1, 98, 1, 97, 0, 1, 5] 3 = none := by
  have hg : natGo 0 0 [2, 1, 98, 1, 97, 0, 1, 5] = some (2, [1, 98, 1, 97, 0, 1, 5]) := by first | decide | decide +kernel
  have hr : rdTexts 2 [1, 98, 1, 97, 0, 1, 5] = some ([[98], [97]], [0, 1, 5]) := by first | decide | decide +kernel
  have hb : bitsGet [0, 1, 5] 3 = some [1, 0, 1] := by
    have := bitsGet_put (l := [1, 0, 1]) (fun v hv => by simp at hv; omega) (by decide)
    rw [bits13] at this
    exact this
  unfold dgetL
  rw [if_neg (by decide), hg]
  simp only
  rw [if_neg (by decide)]
  unfold dgetC
  rw [hr]
  simp only
  unfold dgetW
  rw [hb]
  simp only
  rw [if_pos (by decide), show outW [[98], [97]] [1, 0, 1] = [[97], [98], [97]] by decide]
  unfold dchk
  rw [if_neg]
  intro h
  have := put13'
  rw [h] at this
  exact absurd this (by decide)

set_option maxHeartbeats 1000000 in
theorem first13_any (w : World) :
    Calls Try.prog 10 #[] w fun e w' => e = .returned (.bool true) ∧ Keeps No w w' := by
  have kc := fun (w : World) (C : Array Value) (n c : Nat) => Lib.run_convert_bytes_const (P := Try.prog) w 24 5 C n c Try.underlying24 Try.underlying5
  go_enter Try.func10, Try.ntmps10
  go_wp2_with fail
  refine (dget_any _ 8 8 [2, 1, 97, 1, 98, 0, 1, 5] 3 _ (Sl.litF _ #[.int .u8 2, .int .u8 1, .int .u8 97, .int .u8 1, .int .u8 98, .int .u8 0, .int .u8 1, .int .u8 5] 5 (8, 9) _ rfl 8 rfl (by decide)) (by omega) (by decide)).mono ?_
  intro e w1 h1
  obtain ⟨a1, c1, rfl, hs1, hk1⟩ := h1.outOk get13_yes
  clear h1
  have hkw1 : Keeps No w w1 := hk1.ofAlloc
  go_wp2_with fail
  refine (dget_any _ 8 8 [2, 1, 98, 1, 97, 0, 1, 5] 3 _ (Sl.litF _ #[.int .u8 2, .int .u8 1, .int .u8 98, .int .u8 1, .int .u8 97, .int .u8 0, .int .u8 1, .int .u8 5] 5 (8, 9) _ rfl 8 rfl (by decide)) (by omega) (by decide)).mono ?_
  intro e w2 h2
  obtain ⟨rfl, hk2⟩ := h2.outNo get13_no
  clear h2
  have hkw2 : Keeps No w w2 := hkw1.transNo hk2.ofAlloc
  have hs2 := hs1.kept hk2.ofAlloc
  go_wp2_with fail
  refine (dput_any _ 3 3 [[98], [97], [98]] _ (Sl.lit _ #[.string ⟨#[98]⟩, .string ⟨#[97]⟩, .string ⟨#[98]⟩] 9 _ rfl 3 rfl (by decide)) (by omega) (by simp)).mono ?_
  rintro e w3 ⟨v3, rfl, hown3, hk3, -⟩
  rw [put13] at hown3
  obtain ⟨a3, c3, rfl, hs3, -⟩ := Sl.ofOwn hown3
  replace hs3 : Sl w3 a3 8 c3 ([2, 1, 97, 1, 98, 0, 1, 5].map byteV) := hs3
  have hkw3 : Keeps No w w3 := hkw2.transNo hk3.ofAlloc
  have hs2' := hs2.kept hk3.ofAlloc
  have hstr := hs3.str (P := Try.prog) 24 9 _ Try.underlying24 Try.underlying5 Try.underlying9
  go_wp2_with fail
  refine (dsame_any _ _ _ [[98], [97], [98]] _ 3 3 [[98], [97], [98]] _ (hs2'.kept ((Keeps.refl No w3).alloc _)) (Sl.lit _ #[.string ⟨#[98]⟩, .string ⟨#[97]⟩, .string ⟨#[98]⟩] 9 _ rfl 3 rfl (by decide))).mono ?_
  rintro e w4 ⟨rfl, hk4⟩
  go_wp2_with fail
  go_ret
  exact ⟨rfl, hkw3.transNo hk4.ofAlloc⟩

set_option maxHeartbeats 2000000 in
theorem dictGets_any (a : Option Addr) (m c : Nat) (b : List UInt8) (n : Int) (w : World) (hs : Sl w a m c (b.map byteV)) (hm : m ≤ 140737488351232) (hn : (Lit.int .i64 n).wf = true) :
    Calls Try.prog 4 #[.slice a m c, .int .i64 n] w fun e w' => e = .returned (.bool true) ∧ Keeps No w w' := by
  go_enter Try.func4, Try.ntmps4
  go_wp2_with fail
  refine (first13_any _).mono ?_
  rintro e w1 ⟨rfl, hk1⟩
  by_cases hbig : m ≤ 1000
  case neg =>
    go_wp2_with fail
    go_ret
    exact ⟨rfl, hk1⟩
  have hs1 := hs.kept hk1
  go_wp2_with fail
  refine (dget_any a m c b n _ hs1 (by omega) hn).mono ?_
  intro e w2 h2
  cases hr : dgetL b n with
  | none =>
    obtain ⟨rfl, hk2⟩ := h2.outNo hr
    clear h2
    have hs2 := hs1.kept hk2
    go_wp2_with fail
    refine (rdget13_any a m c b n _ hs2 (by omega) hn).mono ?_
    intro e w3 h3
    obtain ⟨rfl, hk3⟩ := h3.outNo hr
    clear h3
    go_wp2_with fail
    refine (dsame_any _ _ _ [] _ _ _ [] _ (Sl.none _) (Sl.none _)).mono ?_
    rintro e w4 ⟨rfl, hk4⟩
    go_wp2_with fail
    go_ret
    exact ⟨rfl, ((hk1.transNo hk2).transNo hk3).transNo hk4⟩
  | some l =>
    obtain ⟨a2, c2, rfl, hsl2, hk2⟩ := h2.outOk hr
    clear h2
    have hs2 := hs1.kept hk2
    go_wp2_with fail
    refine (rdget13_any a m c b n _ hs2 (by omega) hn).mono ?_
    intro e w3 h3
    obtain ⟨a3, c3, rfl, hsl3, hk3⟩ := h3.outOk hr
    clear h3
    have hsl2' := hsl2.kept hk3
    go_wp2_with fail
    refine (dsame_any _ _ _ l _ _ _ l _ hsl2' hsl3).mono ?_
    rintro e w4 ⟨rfl, hk4⟩
    go_wp2_with fail
    go_ret
    exact ⟨ret_bool (by simp), ((hk1.transNo hk2).transNo hk3).transNo hk4⟩

set_option maxHeartbeats 4000000 in
theorem dictPuts_any (a : Option Addr) (n c : Nat) (L : List Tx) (w : World) (hs : Sl w a n c (L.map txV)) (hn : n ≤ 140737488351232) :
    Calls Try.prog 3 #[.slice a n c] w fun e w' => e = .returned (.bool true) ∧ Keeps No w w' := by
  have hlen : L.length = n := by simpa using hs.len
  have Hlen := Lib.hid hlen
  clear hlen
  go_enter Try.func3, Try.ntmps3
  go_wp2_with fail
  refine (first13_any _).mono ?_
  rintro e w1 ⟨rfl, hk1⟩
  by_cases hbig : n ≤ 300
  case neg =>
    go_wp2_with fail
    go_ret
    exact ⟨rfl, hk1⟩
  have hs1 := hs.kept hk1
  go_wp2_with fail
  go_loopg [15] n (fun q i wr => ∃ k : Nat, k ≤ n ∧ q = n - k ∧ i = .int .i64 (k : Int) ∧ Hid (∀ x ∈ L.take k, x.length ≤ 200) ∧ wr = w1)
  case atStart => exact ⟨0, Nat.zero_le _, rfl, rfl, Lib.hid (by simp), rfl⟩
  case round =>
    obtain ⟨k, hk, hq, rfl, HT, hwr⟩ := hrel
    have Hq := Lib.hid hq
    clear hq
    subst hwr
    by_cases hlt : k < n
    case pos =>
      have hkL : k < L.length := by rw [Hlen.out]; exact hlt
      have hix := hs1.ix (P := Try.prog) Try.underlying22 (by kernel_rfl) hlt .i64
      have hcm := hs1.at_ hlt
      obtain ⟨x, hx⟩ : ∃ x, x = L[k] := ⟨_, rfl⟩
      have hbv : (L.map txV).getD k undef = .string ⟨x.toArray⟩ := by rw [hx]; simp [hkL, txV]
      rw [hbv] at hcm
      have hst : L.take (k + 1) = L.take k ++ [x] := by rw [List.take_succ_eq_append_getElem hkL, ← hx]
      have Hst := Lib.hid hst
      clear hx hbv hst
      by_cases hxl : x.length ≤ 200
      · go_wp2_with fail
        go_roundg (n - (k + 1))
        case measure => have := Hq.out; omega
        case rel =>
          refine ⟨k + 1, by omega, rfl, by go_num, Lib.hid (fun y hy => ?_), rfl⟩
          rw [Hst.out] at hy
          rcases List.mem_append.1 hy with hy | hy
          · exact HT.out y hy
          · simp at hy; subst hy; exact hxl
      · have hxl' : ¬ (x.length : Int) ≤ 200 := by omega
        go_wp2_with fail
        go_ret
        exact ⟨rfl, hk1⟩
    obtain rfl : n = k := by omega
    have hT : ∀ x ∈ L, x.length ≤ 200 := fun x hx => HT.out x (by rw [← Hlen.out, List.take_length]; exact hx)
    have hpl := dputL_len L 200 (by rw [Hlen.out]; omega) hT (by omega)
    have hgp := dget_put L n Hlen.out (fun x hx => by have := hT x hx; omega)
    have Hgp := Lib.hid hgp
    have HT' := Lib.hid (show ∀ x ∈ L, x.length ≤ 100000 from fun x hx => by have := hT x hx; omega)
    rw [Hlen.out] at hpl
    obtain ⟨B, hB⟩ : ∃ B, B = dputL L := ⟨_, rfl⟩
    have hcall := dput_any a n c L wr hs1 (by omega) HT'.out
    rw [← hB] at hcall hpl hgp
    have HB := Lib.hid hB
    have hpl' : B.length ≤ 100000 := by
      have : n * (200 + 10) ≤ 300 * 210 := Nat.mul_le_mul hbig (Nat.le_refl _)
      omega
    have Hgp := Lib.hid hgp
    clear hT HT hB hpl hgp
    generalize wr = wa at hcall hk1 hs1 ⊢
    go_wp2_with fail
    refine hcall.mono ?_
    clear hcall
    rintro e w2 ⟨v2, rfl, hown2, hk2, -⟩
    obtain ⟨a2, c2, rfl, hs2, -⟩ := Sl.ofOwn hown2
    have hkw2 := hk1.transNo hk2
    have hs1' := hs1.kept hk2
    clear hown2
    go_wp2_with fail
    refine (dget_any a2 B.length c2 B n _ hs2 hpl' (wf_nat n (by omega))).mono ?_
    intro e w3 h3
    by_cases h256 : n ≤ 256
    · obtain ⟨a3, c3, rfl, hs3, hk3⟩ := h3.outOk (l := L) (by rw [Hgp.out, if_pos h256])
      clear h3
      have hdd : decide ((n : Int) ≤ 256) = decide (n ≤ 256) := by simp; omega
      simp only [h256, decide_true, decide_false] at hdd
      have hs2' := hs2.kept hk3
      have hs1'' := hs1'.kept hk3
      have hstr : ∀ wx, Keeps No w3 wx → (convert 24 9 (.slice a2 B.length c2)).run Try.prog wx = .ok (.string ⟨B.toArray⟩) wx :=
        fun wx hx => (hs2'.kept hx).str (P := Try.prog) 24 9 5 Try.underlying24 Try.underlying5 Try.underlying9
      go_wp2_with fail
      refine wp_region_held_drew (S := fun wx => Keeps No w3 wx) (by kernel_rfl) ((Keeps.refl _ _).drew) (fun hS => ?_)
      refine tk (i := 0) (oi := ⟨some 32, _, _, _, _, _⟩) (v := ?_) rfl (by kernel_rfl) (fun _ _ _ h => h) (by assumption) (by rfl) (fun w hSw => ?_) ?_; rotate_left; (focus (first | (go_simp; done) | (go_simp; with_reducible rfl))); simp only [Act.put, List.setIfInBounds_toArray, List.set_cons_zero, List.set_cons_succ]
      refine tk (i := 1) (oi := ⟨some 33, _, _, _, _, _⟩) (v := ?_) rfl (by kernel_rfl) (fun _ _ _ h => h) (by assumption) (by rfl) (fun w hSw => ?_) ?_; rotate_left; (focus (first | (go_simp; done) | (go_simp; with_reducible rfl))); simp only [Act.put, List.setIfInBounds_toArray, List.set_cons_zero, List.set_cons_succ]
      refine tk (i := 2) (oi := ⟨some 34, _, _, _, _, _⟩) (v := ?_) rfl (by kernel_rfl) (fun _ _ _ h => h) (by assumption) (by rfl) (fun w hSw => ?_) ?_; rotate_left; (focus (first | (go_simp; done) | (go_simp; with_reducible rfl))); simp only [Act.put, List.setIfInBounds_toArray, List.set_cons_zero, List.set_cons_succ]
      refine alone (i := 3) (oi := ⟨some 35, _, _, _, _, _⟩) rfl (by kernel_rfl) (by rfl) (fun K hK => ?_); go_simp
      refine (rput13_any a n c L _ (hs1''.kept hS) (by omega) HT'.out).mono ?_
      rintro e w4 ⟨v4, rfl, hown4, hk4, -⟩
      rw [← HB.out] at hown4
      obtain ⟨a4, c4, rfl, hs4, -⟩ := Sl.ofOwn hown4
      have hstr4 : ∀ wx, Keeps No w4 wx → (convert 24 9 (.slice a4 B.length c4)).run Try.prog wx = .ok (.string ⟨B.toArray⟩) wx :=
        fun wx hx => (hs4.kept hx).str (P := Try.prog) 24 9 5 Try.underlying24 Try.underlying5 Try.underlying9
      have hk34 := hS.transNo hk4
      refine hK.out (fun wx => Keeps No w4 wx) _ _ (fun _ hx => hS.transNo (Keeps.transNo (hk4) hx)) (Keeps.refl _ _) ?_
      clear hK K hS
      intro hS
      refine tk (i := 4) (oi := ⟨some 36, _, _, _, _, _⟩) (v := ?_) rfl (by kernel_rfl) (fun _ _ _ h => h) (by assumption) (by rfl) (fun w hSw => ?_) ?_; rotate_left; (focus (first | (go_simp; done) | (go_simp; with_reducible rfl))); simp only [Act.put, List.setIfInBounds_toArray, List.set_cons_zero, List.set_cons_succ]
      refine tk (i := 5) (oi := ⟨some 37, _, _, _, _, _⟩) (v := ?_) rfl (by kernel_rfl) (fun _ _ _ h => h) (by assumption) (by rfl) (fun w hSw => ?_) ?_; rotate_left; (focus (first | (go_simp; done) | (go_simp; with_reducible rfl))); simp only [Act.put, List.setIfInBounds_toArray, List.set_cons_zero, List.set_cons_succ]
      refine tk (i := 6) (oi := ⟨some 38, _, _, _, _, _⟩) (v := ?_) rfl (by kernel_rfl) (fun _ _ _ h => h) (by assumption) (by rfl) (fun w hSw => ?_) ?_; rotate_left; (focus (first | (go_simp; done) | (go_simp; with_reducible rfl))); simp only [Act.put, List.setIfInBounds_toArray, List.set_cons_zero, List.set_cons_succ]
      refine tk (i := 7) (oi := ⟨some 39, _, _, _, _, _⟩) (v := ?_) rfl (by kernel_rfl) (fun _ _ _ h => h) (by assumption) (by rfl) (fun w hSw => ?_) ?_; rotate_left; (focus (first | (go_simp; done) | (go_simp; with_reducible rfl))); simp only [Act.put, List.setIfInBounds_toArray, List.set_cons_zero, List.set_cons_succ]
      refine tk (i := 8) (oi := ⟨some 40, _, _, _, _, _⟩) (v := ?_) rfl (by kernel_rfl) (fun _ _ _ h => h) (by assumption) (by rfl) (fun w hSw => ?_) ?_; rotate_left; (focus (first | (go_simp; done) | (go_simp; with_reducible rfl))); simp only [Act.put, List.setIfInBounds_toArray, List.set_cons_zero, List.set_cons_succ]
      refine tk (i := 9) (oi := ⟨some 41, _, _, _, _, _⟩) (v := ?_) rfl (by kernel_rfl) (fun _ _ _ h => h) (by assumption) (by rfl) (fun w hSw => ?_) ?_; rotate_left; (focus (first | (go_simp; done) | (go_simp; with_reducible rfl))); simp only [Act.put, List.setIfInBounds_toArray, List.set_cons_zero, List.set_cons_succ]
      refine tk (i := 10) (oi := ⟨some 42, _, _, _, _, _⟩) (v := ?_) rfl (by kernel_rfl) (fun _ _ _ h => h) (by assumption) (by rfl) (fun w hSw => ?_) ?_; rotate_left; (focus (first | (go_simp; done) | (go_simp; with_reducible rfl))); simp only [Act.put, List.setIfInBounds_toArray, List.set_cons_zero, List.set_cons_succ]
      refine tk (i := 11) (oi := ⟨some 43, _, _, _, _, _⟩) (v := ?_) rfl (by kernel_rfl) (fun _ _ _ h => h) (by assumption) (by rfl) (fun w hSw => ?_) ?_; rotate_left; (focus (first | (go_simp; done) | (go_simp; with_reducible rfl))); simp only [Act.put, List.setIfInBounds_toArray, List.set_cons_zero, List.set_cons_succ]
      refine tk (i := 12) (oi := ⟨some 44, _, _, _, _, _⟩) (v := ?_) rfl (by kernel_rfl) (fun _ _ _ h => h) (by assumption) (by rfl) (fun w hSw => ?_) ?_; rotate_left; (focus (first | (go_simp; done) | (go_simp; with_reducible rfl))); simp only [Act.put, List.setIfInBounds_toArray, List.set_cons_zero, List.set_cons_succ]
      refine tk (i := 13) (oi := ⟨some 45, _, _, _, _, _⟩) (v := ?_) rfl (by kernel_rfl) (fun _ _ _ h => h) (by assumption) (by rfl) (fun w hSw => ?_) ?_; rotate_left; (focus (first | (go_simp; done) | (go_simp; with_reducible rfl))); simp only [Act.put, List.setIfInBounds_toArray, List.set_cons_zero, List.set_cons_succ]
      refine tk (i := 14) (oi := ⟨some 46, _, _, _, _, _⟩) (v := ?_) rfl (by kernel_rfl) (fun _ _ _ h => h) (by assumption) (by rfl) (fun w hSw => ?_) ?_; rotate_left; (focus (first | (go_simp; done) | (go_simp; with_reducible rfl))); simp only [Act.put, List.setIfInBounds_toArray, List.set_cons_zero, List.set_cons_succ]
      refine tk (i := 15) (oi := ⟨some 47, _, _, _, _, _⟩) (v := ?_) rfl (by kernel_rfl) (fun _ _ _ h => h) (by assumption) (by rfl) (fun w hSw => ?_) ?_; rotate_left; (focus (first | (go_simp; done) | (go_simp; with_reducible rfl))); simp only [Act.put, List.setIfInBounds_toArray, List.set_cons_zero, List.set_cons_succ]
      refine tk (i := 16) (oi := ⟨some 48, _, _, _, _, _⟩) (v := ?_) rfl (by kernel_rfl) (fun _ _ _ h => h) (by assumption) (by rfl) (fun w hSw => ?_) ?_; rotate_left; (focus (first | (go_simp; done) | (go_simp; with_reducible rfl))); simp only [Act.put, List.setIfInBounds_toArray, List.set_cons_zero, List.set_cons_succ]
      refine tk (i := 17) (oi := ⟨some 49, _, _, _, _, _⟩) (v := ?_) rfl (by kernel_rfl) (fun _ _ _ h => h) (by assumption) (by rfl) (fun w hSw => ?_) ?_; rotate_left; (focus (first | (go_simp; done) | (go_simp; with_reducible rfl))); simp only [Act.put, List.setIfInBounds_toArray, List.set_cons_zero, List.set_cons_succ]
      refine tk (i := 18) (oi := ⟨some 50, _, _, _, _, _⟩) (v := ?_) rfl (by kernel_rfl) (fun _ _ _ h => h) (by assumption) (by rfl) (fun w hSw => ?_) ?_; rotate_left; (focus (first | (go_simp; done) | (go_simp; with_reducible rfl))); simp only [Act.put, List.setIfInBounds_toArray, List.set_cons_zero, List.set_cons_succ]
      refine alone (i := 19) (oi := ⟨some 51, _, _, _, _, _⟩) rfl (by kernel_rfl) (by rfl) (fun K hK => ?_); go_simp
      refine (dsame_any _ _ _ L a n c L _ (hs3.kept (hk34.transNo hS)) (hs1''.kept (hk34.transNo hS))).mono ?_
      rintro e w5 ⟨rfl, hk5⟩
      have hk35 := (hk34.transNo hS).transNo hk5
      refine hK.out (fun wx => Keeps No w5 wx) _ _ (fun _ hx => hS.transNo (Keeps.transNo (hk5) hx)) (Keeps.refl _ _) ?_
      clear hK K hS
      intro hS
      refine tk (i := 20) (oi := ⟨some 52, _, _, _, _, _⟩) (v := ?_) rfl (by kernel_rfl) (fun _ _ _ h => h) (by assumption) (by rfl) (fun w hSw => ?_) ?_; rotate_left; (focus (first | (go_simp; done) | (go_simp; with_reducible rfl))); simp only [Act.put, List.setIfInBounds_toArray, List.set_cons_zero, List.set_cons_succ]
      refine tk (i := 21) (oi := ⟨some 53, _, _, _, _, _⟩) (v := ?_) rfl (by kernel_rfl) (fun _ _ _ h => h) (by assumption) (by rfl) (fun w hSw => ?_) ?_; rotate_left; (focus (first | (go_simp; done) | (go_simp; with_reducible rfl))); simp only [Act.put, List.setIfInBounds_toArray, List.set_cons_zero, List.set_cons_succ]
      refine tk (i := 22) (oi := ⟨some 2, _, _, _, _, _⟩) (v := ?_) rfl (by kernel_rfl) (fun _ _ _ h => h) (by assumption) (by rfl) (fun w hSw => ?_) ?_; rotate_left; (focus (first | (go_simp; done) | (go_simp; with_reducible rfl))); simp only [Act.put, List.setIfInBounds_toArray, List.set_cons_zero, List.set_cons_succ]
      refine wpAnyH_done (by kernel_rfl) ?_ _
      go_wp2_with fail
      go_ret
      exact ⟨ret_bool (by simp), (hkw2.transNo hk3).transNo hk35⟩
    · obtain ⟨rfl, hk3⟩ := h3.outNo (by rw [Hgp.out, if_neg h256])
      clear h3
      have hdd : decide ((n : Int) ≤ 256) = decide (n ≤ 256) := by simp; omega
      simp only [h256, decide_true, decide_false] at hdd
      have hs2' := hs2.kept hk3
      have hs1'' := hs1'.kept hk3
      have hstr : ∀ wx, Keeps No w3 wx → (convert 24 9 (.slice a2 B.length c2)).run Try.prog wx = .ok (.string ⟨B.toArray⟩) wx :=
        fun wx hx => (hs2'.kept hx).str (P := Try.prog) 24 9 5 Try.underlying24 Try.underlying5 Try.underlying9
      go_wp2_with fail
      refine wp_region_held_drew (S := fun wx => Keeps No w3 wx) (by kernel_rfl) ((Keeps.refl _ _).drew) (fun hS => ?_)
      refine tk (i := 0) (oi := ⟨some 32, _, _, _, _, _⟩) (v := ?_) rfl (by kernel_rfl) (fun _ _ _ h => h) (by assumption) (by rfl) (fun w hSw => ?_) ?_; rotate_left; (focus (first | (go_simp; done) | (go_simp; with_reducible rfl))); simp only [Act.put, List.setIfInBounds_toArray, List.set_cons_zero, List.set_cons_succ]
      refine tk (i := 1) (oi := ⟨some 33, _, _, _, _, _⟩) (v := ?_) rfl (by kernel_rfl) (fun _ _ _ h => h) (by assumption) (by rfl) (fun w hSw => ?_) ?_; rotate_left; (focus (first | (go_simp; done) | (go_simp; with_reducible rfl))); simp only [Act.put, List.setIfInBounds_toArray, List.set_cons_zero, List.set_cons_succ]
      refine tk (i := 2) (oi := ⟨some 34, _, _, _, _, _⟩) (v := ?_) rfl (by kernel_rfl) (fun _ _ _ h => h) (by assumption) (by rfl) (fun w hSw => ?_) ?_; rotate_left; (focus (first | (go_simp; done) | (go_simp; with_reducible rfl))); simp only [Act.put, List.setIfInBounds_toArray, List.set_cons_zero, List.set_cons_succ]
      refine alone (i := 3) (oi := ⟨some 35, _, _, _, _, _⟩) rfl (by kernel_rfl) (by rfl) (fun K hK => ?_); go_simp
      refine (rput13_any a n c L _ (hs1''.kept hS) (by omega) HT'.out).mono ?_
      rintro e w4 ⟨v4, rfl, hown4, hk4, -⟩
      rw [← HB.out] at hown4
      obtain ⟨a4, c4, rfl, hs4, -⟩ := Sl.ofOwn hown4
      have hstr4 : ∀ wx, Keeps No w4 wx → (convert 24 9 (.slice a4 B.length c4)).run Try.prog wx = .ok (.string ⟨B.toArray⟩) wx :=
        fun wx hx => (hs4.kept hx).str (P := Try.prog) 24 9 5 Try.underlying24 Try.underlying5 Try.underlying9
      have hk34 := hS.transNo hk4
      refine hK.out (fun wx => Keeps No w4 wx) _ _ (fun _ hx => hS.transNo (Keeps.transNo (hk4) hx)) (Keeps.refl _ _) ?_
      clear hK K hS
      intro hS
      refine tk (i := 4) (oi := ⟨some 36, _, _, _, _, _⟩) (v := ?_) rfl (by kernel_rfl) (fun _ _ _ h => h) (by assumption) (by rfl) (fun w hSw => ?_) ?_; rotate_left; (focus (first | (go_simp; done) | (go_simp; with_reducible rfl))); simp only [Act.put, List.setIfInBounds_toArray, List.set_cons_zero, List.set_cons_succ]
      refine tk (i := 5) (oi := ⟨some 37, _, _, _, _, _⟩) (v := ?_) rfl (by kernel_rfl) (fun _ _ _ h => h) (by assumption) (by rfl) (fun w hSw => ?_) ?_; rotate_left; (focus (first | (go_simp; done) | (go_simp; with_reducible rfl))); simp only [Act.put, List.setIfInBounds_toArray, List.set_cons_zero, List.set_cons_succ]
      refine tk (i := 6) (oi := ⟨some 38, _, _, _, _, _⟩) (v := ?_) rfl (by kernel_rfl) (fun _ _ _ h => h) (by assumption) (by rfl) (fun w hSw => ?_) ?_; rotate_left; (focus (first | (go_simp; done) | (go_simp; with_reducible rfl))); simp only [Act.put, List.setIfInBounds_toArray, List.set_cons_zero, List.set_cons_succ]
      refine tk (i := 7) (oi := ⟨some 39, _, _, _, _, _⟩) (v := ?_) rfl (by kernel_rfl) (fun _ _ _ h => h) (by assumption) (by rfl) (fun w hSw => ?_) ?_; rotate_left; (focus (first | (go_simp; done) | (go_simp; with_reducible rfl))); simp only [Act.put, List.setIfInBounds_toArray, List.set_cons_zero, List.set_cons_succ]
      refine tk (i := 8) (oi := ⟨some 40, _, _, _, _, _⟩) (v := ?_) rfl (by kernel_rfl) (fun _ _ _ h => h) (by assumption) (by rfl) (fun w hSw => ?_) ?_; rotate_left; (focus (first | (go_simp; done) | (go_simp; with_reducible rfl))); simp only [Act.put, List.setIfInBounds_toArray, List.set_cons_zero, List.set_cons_succ]
      refine tk (i := 9) (oi := ⟨some 41, _, _, _, _, _⟩) (v := ?_) rfl (by kernel_rfl) (fun _ _ _ h => h) (by assumption) (by rfl) (fun w hSw => ?_) ?_; rotate_left; (focus (first | (go_simp; done) | (go_simp; with_reducible rfl))); simp only [Act.put, List.setIfInBounds_toArray, List.set_cons_zero, List.set_cons_succ]
      refine tk (i := 10) (oi := ⟨some 42, _, _, _, _, _⟩) (v := ?_) rfl (by kernel_rfl) (fun _ _ _ h => h) (by assumption) (by rfl) (fun w hSw => ?_) ?_; rotate_left; (focus (first | (go_simp; done) | (go_simp; with_reducible rfl))); simp only [Act.put, List.setIfInBounds_toArray, List.set_cons_zero, List.set_cons_succ]
      refine tk (i := 11) (oi := ⟨some 43, _, _, _, _, _⟩) (v := ?_) rfl (by kernel_rfl) (fun _ _ _ h => h) (by assumption) (by rfl) (fun w hSw => ?_) ?_; rotate_left; (focus (first | (go_simp; done) | (go_simp; with_reducible rfl))); simp only [Act.put, List.setIfInBounds_toArray, List.set_cons_zero, List.set_cons_succ]
      refine tk (i := 12) (oi := ⟨some 44, _, _, _, _, _⟩) (v := ?_) rfl (by kernel_rfl) (fun _ _ _ h => h) (by assumption) (by rfl) (fun w hSw => ?_) ?_; rotate_left; (focus (first | (go_simp; done) | (go_simp; with_reducible rfl))); simp only [Act.put, List.setIfInBounds_toArray, List.set_cons_zero, List.set_cons_succ]
      refine tk (i := 13) (oi := ⟨some 45, _, _, _, _, _⟩) (v := ?_) rfl (by kernel_rfl) (fun _ _ _ h => h) (by assumption) (by rfl) (fun w hSw => ?_) ?_; rotate_left; (focus (first | (go_simp; done) | (go_simp; with_reducible rfl))); simp only [Act.put, List.setIfInBounds_toArray, List.set_cons_zero, List.set_cons_succ]
      refine tk (i := 14) (oi := ⟨some 46, _, _, _, _, _⟩) (v := ?_) rfl (by kernel_rfl) (fun _ _ _ h => h) (by assumption) (by rfl) (fun w hSw => ?_) ?_; rotate_left; (focus (first | (go_simp; done) | (go_simp; with_reducible rfl))); simp only [Act.put, List.setIfInBounds_toArray, List.set_cons_zero, List.set_cons_succ]
      refine tk (i := 15) (oi := ⟨some 47, _, _, _, _, _⟩) (v := ?_) rfl (by kernel_rfl) (fun _ _ _ h => h) (by assumption) (by rfl) (fun w hSw => ?_) ?_; rotate_left; (focus (first | (go_simp; done) | (go_simp; with_reducible rfl))); simp only [Act.put, List.setIfInBounds_toArray, List.set_cons_zero, List.set_cons_succ]
      refine tk (i := 16) (oi := ⟨some 48, _, _, _, _, _⟩) (v := ?_) rfl (by kernel_rfl) (fun _ _ _ h => h) (by assumption) (by rfl) (fun w hSw => ?_) ?_; rotate_left; (focus (first | (go_simp; done) | (go_simp; with_reducible rfl))); simp only [Act.put, List.setIfInBounds_toArray, List.set_cons_zero, List.set_cons_succ]
      refine tkNot (i := 17) (oi := ⟨some 49, _, _, _, _, _⟩) rfl (by kernel_rfl) (fun _ _ _ h => h) (by assumption) (by rfl) ?_; simp only [Act.put, List.setIfInBounds_toArray, List.set_cons_zero, List.set_cons_succ]
      refine tkNot (i := 18) (oi := ⟨some 50, _, _, _, _, _⟩) rfl (by kernel_rfl) (fun _ _ _ h => h) (by assumption) (by rfl) ?_; simp only [Act.put, List.setIfInBounds_toArray, List.set_cons_zero, List.set_cons_succ]
      refine tkNot (i := 19) (oi := ⟨some 51, _, _, _, _, _⟩) rfl (by kernel_rfl) (fun _ _ _ h => h) (by assumption) (by rfl) ?_; simp only [Act.put, List.setIfInBounds_toArray, List.set_cons_zero, List.set_cons_succ]
      refine tk (i := 20) (oi := ⟨some 52, _, _, _, _, _⟩) (v := ?_) rfl (by kernel_rfl) (fun _ _ _ h => h) (by assumption) (by rfl) (fun w hSw => ?_) ?_; rotate_left; (focus (first | (go_simp; done) | (go_simp; with_reducible rfl))); simp only [Act.put, List.setIfInBounds_toArray, List.set_cons_zero, List.set_cons_succ]
      refine tk (i := 21) (oi := ⟨some 53, _, _, _, _, _⟩) (v := ?_) rfl (by kernel_rfl) (fun _ _ _ h => h) (by assumption) (by rfl) (fun w hSw => ?_) ?_; rotate_left; (focus (first | (go_simp; done) | (go_simp; with_reducible rfl))); simp only [Act.put, List.setIfInBounds_toArray, List.set_cons_zero, List.set_cons_succ]
      refine tk (i := 22) (oi := ⟨some 2, _, _, _, _, _⟩) (v := ?_) rfl (by kernel_rfl) (fun _ _ _ h => h) (by assumption) (by rfl) (fun w hSw => ?_) ?_; rotate_left; (focus (first | (go_simp; done) | (go_simp; with_reducible rfl))); simp only [Act.put, List.setIfInBounds_toArray, List.set_cons_zero, List.set_cons_succ]
      refine wpAnyH_done (by kernel_rfl) ?_ _
      go_wp2_with fail
      go_ret
      exact ⟨ret_bool (by simp), (hkw2.transNo hk3).transNo hk34⟩
theorem dictPuts_walk (a : Option Addr) (n c : Nat) (l : List ByteArray) (w : World) (hs : Sl w a n c (l.map Value.string)) (hn : n * 16 ≤ 140737488351232) :
    Calls Try.prog 3 #[.slice a n c] w fun e w' => e = .returned (.bool true) ∧ Keeps No w w' :=
  dictPuts_any a n c _ w (by rw [← txs_of]; exact hs) (by omega)
end Go.Proofs.Ythbipcjgpocpaaa
