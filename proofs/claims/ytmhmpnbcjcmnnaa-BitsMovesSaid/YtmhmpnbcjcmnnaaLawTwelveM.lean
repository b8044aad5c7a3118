/- The walk of BitsMoves. -/
import Derived.Test.YtmhmpnbcjcmnnaaLawTwelve
import Derived.Test.YtmhmpnbcjcmnnaaLawFifteen
namespace Go.Proofs.Ytmhmpnbcjcmnnaa
open Go.RowKit
set_option linter.unusedSimpArgs false
set_option linter.unusedVariables false

theorem wf_i32_iff {n : Int} (h : (Lit.int .i32 n).wf = true) : -2147483648 ≤ n ∧ n ≤ 2147483647 := by
  have h' : (decide (IntKind.i32.min ≤ n) && decide (n ≤ IntKind.i32.max)) = true := h
  have e1 : IntKind.i32.min = -2147483648 := by decide
  have e2 : IntKind.i32.max = 2147483647 := by decide
  rw [e1, e2] at h'
  simpa using h'
theorem one_len (z : Int) : ∀ x ∈ ([[Value.int .i64 z]] : List (List Value)), x.length = 1 := by
  intro x hx; simp at hx; subst hx; rfl
def modL (L : List Int) : List Int := L.map fun v => v.tmod 1099511627776
theorem modL_in (L : List Int) : ∀ v ∈ modL L, -1099511627776 < v ∧ v < 1099511627776 := by
  intro v hv
  obtain ⟨x, _, rfl⟩ := List.mem_map.1 hv
  have h1 := Int.tmod_lt_of_pos x (b := 1099511627776) (by decide)
  have h2 := Int.lt_tmod_of_pos x (b := 1099511627776) (by decide)
  omega
def lstA (A : List Int) : Int := if A = [] then 0 else Lib.minOf A
theorem lstA_snoc (A : List Int) (x : Int) : lstA (A ++ [x]) = if A = [] ∨ x < lstA A then x else lstA A := by
  unfold lstA
  rw [if_neg (by simp)]
  by_cases h : A = []
  · subst h; simp [Lib.minOf]
  · have e : Lib.minOf (A ++ [x]) = min (Lib.minOf A) x := by
      unfold Lib.minOf
      rw [List.foldl_append]
      cases A with
      | nil => exact absurd rfl h
      | cons z zs => rfl
    rw [e, if_neg h]
    by_cases hx : x < Lib.minOf A
    · rw [if_pos (.inr hx)]; omega
    · rw [if_neg (by simp [h, hx])]; omega

set_option maxRecDepth 100000 in
set_option maxHeartbeats 4000000 in
theorem bitsMoves_any (a : Option Addr) (n c : Nat) (L : List Int) (d : Int) (w : World) (hs : Sl w a n c (L.map intV)) (hw : ∀ x ∈ L, (Lit.int .i64 x).wf = true) (hn : n ≤ 140737488351232) (hd : -2147483648 ≤ d ∧ d ≤ 2147483647) :
    Calls Try.prog 13 #[.slice a n c, .int .i32 d] w fun e w' => e = .returned (.bool true) ∧ Keeps No w w' := by
  have hlen : L.length = n := by simpa using hs.len
  have Hlen := Lib.hid hlen
  have Hw := Lib.hid hw
  clear hlen hw
  go_enter Try.func13, Try.ntmps13
  go_wp2_with fail
  refine (first12_any _).mono ?_
  rintro e w1 ⟨rfl, hk1⟩
  have hs1 := hs.kept hk1
  by_cases h0 : n = 0
  · have hn0 : ((n : Int) == 0) = true := by simp [h0]
    go_wp2_with fail
    go_ret
    exact ⟨rfl, hk1⟩
  have hn0 : ((n : Int) == 0) = false := by simp [h0]
  by_cases hbig : n ≤ 250
  case neg =>
    go_wp2_with fail
    go_ret
    exact ⟨rfl, hk1⟩
  have hAin := modL_in L
  have HAin := Lib.hid hAin
  clear hAin
  generalize hB : w1.heap.size = B
  have HB := Lib.hid hB
  have hsB : 0 < n → (a.getD default).block < B := fun h => by rw [← hB]; exact hs1.lt h
  clear hB
  go_wp2_with fail
  go_loopg [5, 6, 7, 26] n (fun q v5 v6 v7 i wx => ∃ j : Nat, j ≤ n ∧ q = n - j ∧ i = .int .i64 j ∧ v7 = .int .i64 (lstA ((modL L).take j)) ∧ wx.ownsRow B 3 1 v5 j (((modL L).take j).map intV) ∧ wx.ownsRow B 3 1 v6 j ((((modL L).take j).map (· + d)).map intV) ∧ (∀ g, v5.ownBlock = some g → v6.ownBlock ≠ some g) ∧ Keeps (fun b => B ≤ b) w1 wx)
  case atStart => exact ⟨0, Nat.zero_le _, rfl, rfl, rfl, World.ownsRow_nil _ _ _ _, World.ownsRow_nil _ _ _ _, (fun g h => by simp [Value.ownBlock] at h), Keeps.refl _ _⟩
  case round =>
    obtain ⟨j, hj, hq, rfl, rfl, hownA, hownB, hdis, hkr⟩ := hrel
    have Hq := Lib.hid hq
    clear hq
    have hzr := hkr.size
    by_cases hlt : j < n
    · have hjL : j < L.length := by rw [Hlen.out]; exact hlt
      have hjA : j < (modL L).length := by simp [modL]; omega
      have hix := hs1.ix (P := Try.prog) Try.underlying22 (by kernel_rfl) hlt .i64
      have hc := (hs1.keep hkr (fun h => by have := hsB h; omega)).at_ hlt
      obtain ⟨x, hx⟩ : ∃ x, x = L[j] := ⟨_, rfl⟩
      have hb : (L.map intV).getD j undef = .int .i64 x := by rw [hx]; simp [hjL, intV]
      rw [hb] at hc
      have hy : (modL L)[j] = x.tmod 1099511627776 := by rw [hx]; simp [modL]
      have hyb := HAin.out _ (List.getElem_mem hjA)
      have hst := List.take_succ_eq_append_getElem hjA
      rw [hy] at hst hyb
      obtain ⟨y, hty⟩ : ∃ y, x.tmod 1099511627776 = y := ⟨_, rfl⟩
      rw [hty] at hst hyb
      have Hst := Lib.hid hst
      clear hb hx hy hst
      have hsn := lstA_snoc ((modL L).take j) y
      have Hsn := Lib.hid hsn
      have hj0 : ((modL L).take j = []) ↔ j = 0 := by
        constructor
        · intro h
          have := congrArg List.length h
          rw [List.length_take, List.length_nil] at this
          omega
        · intro h; subst h; rfl
      have Hj0 := Lib.hid hj0
      have hbt : j ≤ 250 := by omega
      clear hsn hj0
      generalize hle : lstA ((modL L).take j) = le at Hsn
      have Hle := Lib.hid hle
      clear hle
      go_wp2_with (at_builtin; go_loud (refine app_ownK rfl _ _ 22 rfl B 3 (.int .i64 0) 1 8 Try.underlying22 int_info rfl (by decide) (by decide) _ j (((modL L).take j).map intV) rfl (hownA.alloc _) _ 1 1 [[.int .i64 y]] rfl (SlK.lit _ _ _ _ rfl (one_len _) 1 rfl (by decide)) ?h1 ?hb ?hB ?_))
      case h1 => intro u hu; simp at hu; subst hu; rfl
      case hb => omega
      case hB => have := HB.out; first | omega | (simp; omega)
      intro va w6 hownA6 hg6 hor6
      have hk6 : Keeps (fun b => u5.ownBlock = some b) wr w6 := ((Keeps.refl (fun b => u5.ownBlock = some b) wr).alloc _).grown hg6 (fun k hk _ => hk)
      have hownB6 := hk6.own hownB (fun i hi h => hdis i h hi)
      have hdis6 : ∀ g, va.ownBlock = some g → u6.ownBlock ≠ some g := fun g h h2 => by
        rcases hor6 g h with h3 | h3
        · exact hdis g h3 h2
        · have := (hownB.lt g h2).2
          rw [h3] at this
          first | omega | (simp at this; omega)
      have hz6 := hk6.size
      go_wp2_with (at_builtin; go_loud (refine app_ownK rfl _ _ 22 rfl B 3 (.int .i64 0) 1 8 Try.underlying22 int_info rfl (by decide) (by decide) _ j ((((modL L).take j).map (· + d)).map intV) rfl (hownB6.alloc _) _ 1 1 [[.int .i64 (y + d)]] rfl (SlK.lit _ _ _ _ rfl (one_len _) 1 rfl (by decide)) ?h1 ?hb ?hB ?_))
      case h1 => intro u hu; simp at hu; subst hu; rfl
      case hb => omega
      case hB => have := HB.out; first | omega | (simp; omega)
      intro vb w8 hownB8 hg8 hor8
      have hk8 : Keeps (fun b => u6.ownBlock = some b) w6 w8 := ((Keeps.refl (fun b => u6.ownBlock = some b) w6).alloc _).grown hg8 (fun k hk _ => hk)
      have hownA8 := hk8.own hownA6 (fun i hi h => hdis6 i hi h)
      have hdis8 : ∀ g, va.ownBlock = some g → vb.ownBlock ≠ some g := fun g h h2 => by
        rcases hor8 g h2 with h3 | h3
        · exact hdis6 g h h3
        · have := (hownA6.lt g h).2
          rw [h3] at this
          first | omega | (simp at this; omega)
      have hk18 : Keeps (fun b => B ≤ b) w1 w8 := (hkr.trans hk6 (fun i hi h => (hownA.lt i h).1)).trans hk8 (fun i hi h => (hownB6.lt i h).1)
      rcases Nat.eq_zero_or_pos j with hj | hj
      · have hjb : ((j : Int) == 0) = true := by simp; omega
        have Hj := Lib.hid hj
        clear hj
        go_wp2_with fail
        go_roundg (n - (j + 1))
        case rel => exact ⟨j + 1, by omega, rfl, by go_num, by rw [Hst.out, Hsn.out, if_pos (.inl (Hj0.out.2 Hj.out))], by rw [Hst.out]; simpa [intV] using hownA8, by rw [Hst.out]; simpa [intV] using hownB8, hdis8, hk18⟩
        case measure => have := Hq.out; omega
      · have hjb : ((j : Int) == 0) = false := by simp; omega
        by_cases hlt2 : y < le
        · go_wp2_with fail
          go_roundg (n - (j + 1))
          case rel => exact ⟨j + 1, by omega, rfl, by go_num, by rw [Hst.out, Hsn.out, if_pos (.inr hlt2)], by rw [Hst.out]; simpa [intV] using hownA8, by rw [Hst.out]; simpa [intV] using hownB8, hdis8, hk18⟩
          case measure => have := Hq.out; omega
        · go_wp2_with fail
          go_roundg (n - (j + 1))
          case rel => exact ⟨j + 1, by omega, rfl, by go_num, by rw [Hst.out, Hsn.out, if_neg (fun h => h.elim (fun h => by have := Hj0.out.1 h; omega) (fun h2 => by omega))], by rw [Hst.out]; simpa [intV] using hownA8, by rw [Hst.out]; simpa [intV] using hownB8, hdis8, hk18⟩
          case measure => have := Hq.out; omega
    · obtain rfl : n = j := by omega
      rw [show (modL L).take n = modL L from List.take_of_length_le (by have := Hlen.out; simp [modL]; omega)] at hownA hownB ⊢
      have hAl : (modL L).length = n := by have := Hlen.out; simp [modL]; omega
      have hAne : modL L ≠ [] := fun h => by rw [h] at hAl; simp at hAl; omega
      have hmem := HAin.out _ (min_mem hAne)
      have hmv := min_moved (modL L) d hAne
      have htm := tail_moved (modL L) d hAne
      have hIA : Ints (modL L) := fun v hv => by have := HAin.out v hv; omega
      have hIB : Ints ((modL L).map (· + d)) := fun v hv => by
        obtain ⟨u, hu, rfl⟩ := List.mem_map.1 hv
        have := HAin.out u hu
        omega
      have hpA : bitsPut (modL L) = nat7 (fold (Lib.minOf (modL L))) ++ bitsTail (modL L) := by unfold bitsPut; rw [if_neg hAne]
      have hpB : bitsPut ((modL L).map (· + d)) = nat7 (fold (Lib.minOf (modL L) + d)) ++ bitsTail (modL L) := by unfold bitsPut; rw [if_neg (by simpa using hAne), hmv, htm]
      have hls : lstA (modL L) = Lib.minOf (modL L) := by unfold lstA; rw [if_neg hAne]
      have htl : 0 < (bitsTail (modL L)).length := by unfold bitsTail; simp
      rw [hls]
      have hf1 := fold_lt (show -9223372036854775808 ≤ Lib.minOf (modL L) ∧ Lib.minOf (modL L) ≤ 9223372036854775807 by omega)
      have hf2 := fold_lt (show -9223372036854775808 ≤ Lib.minOf (modL L) + d ∧ Lib.minOf (modL L) + d ≤ 9223372036854775807 by omega)
      have hl1 := nat7_len64 _ hf1
      have hl2 := nat7_len64 _ hf2
      have HIA := Lib.hid hIA
      have HIB := Lib.hid hIB
      have HpA := Lib.hid hpA
      have HpB := Lib.hid hpB
      clear hIA hIB hpA hpB hmv htm hls hAne hf1 hf2
      generalize (modL L).map (· + d) = LB at HIB HpB hownB
      generalize modL L = LA at HIA HpA HpB hownA hAl hmem htl hl1 hl2 HAin ⊢
      generalize Lib.minOf LA = mn at HpA HpB hmem hl1 hl2 ⊢
      generalize bitsTail LA = T at HpA HpB htl
      generalize hF1 : nat7 (fold mn) = F1 at HpA hl1
      generalize hF2 : nat7 (fold (mn + d)) = F2 at HpB hl2
      have HF1 := Lib.hid hF1
      have HF2 := Lib.hid hF2
      clear hF1 hF2
      obtain ⟨aA, cA, rfl, hsA, -⟩ := Sl.ofOwn hownA
      obtain ⟨aB, cB, rfl, hsB2, -⟩ := Sl.ofOwn hownB
      have hkw : Keeps No w wr := hk1.trans hkr (fun i hi h => by have := HB.out; have := hk1.size; omega)
      go_wp2_with fail
      refine (bput_any aA n cA LA _ hsA HIA.out (by omega)).mono ?_
      rintro e w2 ⟨a2, m2, c2, rfl, hs2, hm2, -, hk2⟩
      have hsB3 := hsB2.kept hk2
      go_wp2_with fail
      refine (bput_any aB n cB LB _ hsB3 HIB.out (by omega)).mono ?_
      rintro e w3 ⟨a3, m3, c3, rfl, hs3, hm3, -, hk3⟩
      rw [HpA.out] at hs2
      rw [HpB.out] at hs3
      have hs23 := hs2.kept hk3
      go_wp2_with fail
      refine (number_any none 0 0 [] mn _ (Sl.none _) (by omega) (wf_int (by omega))).mono ?_
      rintro e w4 ⟨v4, rfl, hown4, hk4⟩
      rw [List.nil_append, Nat.zero_add, HF1.out] at hown4
      obtain ⟨a4, c4, rfl, hs4, -⟩ := Sl.ofOwn hown4
      go_wp2_with fail
      refine (number_any none 0 0 [] (mn + d) _ (Sl.none _) (by omega) (wf_int (by omega))).mono ?_
      rintro e w5 ⟨v5', rfl, hown5, hk5⟩
      rw [List.nil_append, Nat.zero_add, HF2.out] at hown5
      obtain ⟨a5, c5, rfl, hs5, -⟩ := Sl.ofOwn hown5
      have hl23 : F1.length + T.length = m2 := by simpa using hs2.len
      have hl33 : F2.length + T.length = m3 := by simpa using hs3.len
      have hs25 := (hs23.kept hk4).kept hk5
      have hs35 := (hs3.kept hk4).kept hk5
      obtain ⟨a6, hg1, hg2, hs6, -⟩ := hs25.from_ (P := Try.prog) Try.underlying24 (by kernel_rfl) (k := F1.length) (by omega) .i64 (F1.length : Int) rfl
      obtain ⟨a7, hh1, hh2, hs7, -⟩ := hs35.from_ (P := Try.prog) Try.underlying24 (by kernel_rfl) (k := F2.length) (by omega) .i64 (F2.length : Int) rfl
      rw [← List.map_drop, List.drop_left] at hs6 hs7
      have hst6 : ∀ wx, Keeps No w5 wx → (convert 24 9 (.slice a6 (m2 - F1.length) (c2 - F1.length))).run Try.prog wx = .ok (.string ⟨T.toArray⟩) wx :=
        fun wx hx => (hs6.kept hx).str (P := Try.prog) 24 9 5 Try.underlying24 Try.underlying5 Try.underlying9
      have hst7 : ∀ wx, Keeps No w5 wx → (convert 24 9 (.slice a7 (m3 - F2.length) (c3 - F2.length))).run Try.prog wx = .ok (.string ⟨T.toArray⟩) wx :=
        fun wx hx => (hs7.kept hx).str (P := Try.prog) 24 9 5 Try.underlying24 Try.underlying5 Try.underlying9
      have hc1 : (F1.length : Int) < (m2 : Int) := by omega
      have hc2 : (F2.length : Int) < (m3 : Int) := by omega
      go_wp2_with fail
      refine wp_region_held_drew (S := fun wx => Keeps No w5 wx) (by kernel_rfl) ((Keeps.refl _ _).drew) (fun hS => ?_)
      refine tk (i := 0) (oi := ⟨some 66, _, _, _, _, _⟩) (v := ?_) rfl (by kernel_rfl) (fun _ _ _ h => h) (by assumption) (by rfl) (fun w hSw => ?_) ?_; rotate_left; (focus (first | (go_simp; done) | (go_simp; with_reducible rfl))); simp only [Act.put, List.setIfInBounds_toArray, List.set_cons_zero, List.set_cons_succ]
      refine tk (i := 1) (oi := ⟨some 67, _, _, _, _, _⟩) (v := ?_) rfl (by kernel_rfl) (fun _ _ _ h => h) (by assumption) (by rfl) (fun w hSw => ?_) ?_; rotate_left; (focus (first | (go_simp; done) | (go_simp; with_reducible rfl))); simp only [Act.put, List.setIfInBounds_toArray, List.set_cons_zero, List.set_cons_succ]
      refine tk (i := 2) (oi := ⟨some 68, _, _, _, _, _⟩) (v := ?_) rfl (by kernel_rfl) (fun _ _ _ h => h) (by assumption) (by rfl) (fun w hSw => ?_) ?_; rotate_left; (focus (first | (go_simp; done) | (go_simp; with_reducible rfl))); simp only [Act.put, List.setIfInBounds_toArray, List.set_cons_zero, List.set_cons_succ]
      refine tk (i := 3) (oi := ⟨some 69, _, _, _, _, _⟩) (v := ?_) rfl (by kernel_rfl) (fun _ _ _ h => h) (by assumption) (by rfl) (fun w hSw => ?_) ?_; rotate_left; (focus (first | (go_simp; done) | (go_simp; with_reducible rfl))); simp only [Act.put, List.setIfInBounds_toArray, List.set_cons_zero, List.set_cons_succ]
      refine tk (i := 4) (oi := ⟨some 70, _, _, _, _, _⟩) (v := ?_) rfl (by kernel_rfl) (fun _ _ _ h => h) (by assumption) (by rfl) (fun w hSw => ?_) ?_; rotate_left; (focus (first | (go_simp; done) | (go_simp; with_reducible rfl))); simp only [Act.put, List.setIfInBounds_toArray, List.set_cons_zero, List.set_cons_succ]
      refine tk (i := 5) (oi := ⟨some 71, _, _, _, _, _⟩) (v := ?_) rfl (by kernel_rfl) (fun _ _ _ h => h) (by assumption) (by rfl) (fun w hSw => ?_) ?_; rotate_left; (focus (first | (go_simp; done) | (go_simp; with_reducible rfl))); simp only [Act.put, List.setIfInBounds_toArray, List.set_cons_zero, List.set_cons_succ]
      refine tk (i := 6) (oi := ⟨some 72, _, _, _, _, _⟩) (v := ?_) rfl (by kernel_rfl) (fun _ _ _ h => h) (by assumption) (by rfl) (fun w hSw => ?_) ?_; rotate_left; (focus (first | (go_simp; done) | (go_simp; with_reducible rfl))); simp only [Act.put, List.setIfInBounds_toArray, List.set_cons_zero, List.set_cons_succ]
      refine tk (i := 7) (oi := ⟨some 73, _, _, _, _, _⟩) (v := ?_) rfl (by kernel_rfl) (fun _ _ _ h => h) (by assumption) (by rfl) (fun w hSw => ?_) ?_; rotate_left; (focus (first | (go_simp; done) | (go_simp; with_reducible rfl))); simp only [Act.put, List.setIfInBounds_toArray, List.set_cons_zero, List.set_cons_succ]
      refine tk (i := 8) (oi := ⟨some 74, _, _, _, _, _⟩) (v := ?_) rfl (by kernel_rfl) (fun _ _ _ h => h) (by assumption) (by rfl) (fun w hSw => ?_) ?_; rotate_left; (focus (first | (go_simp; done) | (go_simp; with_reducible rfl))); simp only [Act.put, List.setIfInBounds_toArray, List.set_cons_zero, List.set_cons_succ]
      refine tk (i := 9) (oi := ⟨some 75, _, _, _, _, _⟩) (v := ?_) rfl (by kernel_rfl) (fun _ _ _ h => h) (by assumption) (by rfl) (fun w hSw => ?_) ?_; rotate_left; (focus (first | (go_simp; done) | (go_simp; with_reducible rfl))); simp only [Act.put, List.setIfInBounds_toArray, List.set_cons_zero, List.set_cons_succ]
      refine tk (i := 10) (oi := ⟨some 76, _, _, _, _, _⟩) (v := ?_) rfl (by kernel_rfl) (fun _ _ _ h => h) (by assumption) (by rfl) (fun w hSw => ?_) ?_; rotate_left; (focus (first | (go_simp; done) | (go_simp; with_reducible rfl))); simp only [Act.put, List.setIfInBounds_toArray, List.set_cons_zero, List.set_cons_succ]
      refine tk (i := 11) (oi := ⟨some 77, _, _, _, _, _⟩) (v := ?_) rfl (by kernel_rfl) (fun _ _ _ h => h) (by assumption) (by rfl) (fun w hSw => ?_) ?_; rotate_left; (focus (first | (go_simp; done) | (go_simp; with_reducible rfl))); simp only [Act.put, List.setIfInBounds_toArray, List.set_cons_zero, List.set_cons_succ]
      refine tk (i := 12) (oi := ⟨some 78, _, _, _, _, _⟩) (v := ?_) rfl (by kernel_rfl) (fun _ _ _ h => h) (by assumption) (by rfl) (fun w hSw => ?_) ?_; rotate_left; (focus (first | (go_simp; done) | (go_simp; with_reducible rfl))); simp only [Act.put, List.setIfInBounds_toArray, List.set_cons_zero, List.set_cons_succ]
      refine tk (i := 13) (oi := ⟨some 79, _, _, _, _, _⟩) (v := ?_) rfl (by kernel_rfl) (fun _ _ _ h => h) (by assumption) (by rfl) (fun w hSw => ?_) ?_; rotate_left; (focus (first | (go_simp; done) | (go_simp; with_reducible rfl))); simp only [Act.put, List.setIfInBounds_toArray, List.set_cons_zero, List.set_cons_succ]
      refine tk (i := 14) (oi := ⟨some 80, _, _, _, _, _⟩) (v := ?_) rfl (by kernel_rfl) (fun _ _ _ h => h) (by assumption) (by rfl) (fun w hSw => ?_) ?_; rotate_left; (focus (first | (go_simp; done) | (go_simp; with_reducible rfl))); simp only [Act.put, List.setIfInBounds_toArray, List.set_cons_zero, List.set_cons_succ]
      refine tk (i := 15) (oi := ⟨some 81, _, _, _, _, _⟩) (v := ?_) rfl (by kernel_rfl) (fun _ _ _ h => h) (by assumption) (by rfl) (fun w hSw => ?_) ?_; rotate_left; (focus (first | (go_simp; done) | (go_simp; with_reducible rfl))); simp only [Act.put, List.setIfInBounds_toArray, List.set_cons_zero, List.set_cons_succ]
      refine tk (i := 16) (oi := ⟨some 82, _, _, _, _, _⟩) (v := ?_) rfl (by kernel_rfl) (fun _ _ _ h => h) (by assumption) (by rfl) (fun w hSw => ?_) ?_; rotate_left; (focus (first | (go_simp; done) | (go_simp; with_reducible rfl))); simp only [Act.put, List.setIfInBounds_toArray, List.set_cons_zero, List.set_cons_succ]
      refine tk (i := 17) (oi := ⟨some 83, _, _, _, _, _⟩) (v := ?_) rfl (by kernel_rfl) (fun _ _ _ h => h) (by assumption) (by rfl) (fun w hSw => ?_) ?_; rotate_left; (focus (first | (go_simp; done) | (go_simp; with_reducible rfl))); simp only [Act.put, List.setIfInBounds_toArray, List.set_cons_zero, List.set_cons_succ]
      refine tk (i := 18) (oi := ⟨some 84, _, _, _, _, _⟩) (v := ?_) rfl (by kernel_rfl) (fun _ _ _ h => h) (by assumption) (by rfl) (fun w hSw => ?_) ?_; rotate_left; (focus (first | (go_simp; done) | (go_simp; with_reducible rfl))); simp only [Act.put, List.setIfInBounds_toArray, List.set_cons_zero, List.set_cons_succ]
      refine tk (i := 19) (oi := ⟨some 85, _, _, _, _, _⟩) (v := ?_) rfl (by kernel_rfl) (fun _ _ _ h => h) (by assumption) (by rfl) (fun w hSw => ?_) ?_; rotate_left; (focus (first | (go_simp; done) | (go_simp; with_reducible rfl))); simp only [Act.put, List.setIfInBounds_toArray, List.set_cons_zero, List.set_cons_succ]
      refine tk (i := 20) (oi := ⟨some 86, _, _, _, _, _⟩) (v := ?_) rfl (by kernel_rfl) (fun _ _ _ h => h) (by assumption) (by rfl) (fun w hSw => ?_) ?_; rotate_left; (focus (first | (go_simp; done) | (go_simp; with_reducible rfl))); simp only [Act.put, List.setIfInBounds_toArray, List.set_cons_zero, List.set_cons_succ]
      refine tk (i := 21) (oi := ⟨some 4, _, _, _, _, _⟩) (v := ?_) rfl (by kernel_rfl) (fun _ _ _ h => h) (by assumption) (by rfl) (fun w hSw => ?_) ?_; rotate_left; (focus (first | (go_simp; done) | (go_simp; with_reducible rfl))); simp only [Act.put, List.setIfInBounds_toArray, List.set_cons_zero, List.set_cons_succ]
      refine wpAnyH_done (by kernel_rfl) ?_ _
      go_wp2_with fail
      go_ret
      exact ⟨ret_bool (by simp), ((((hkw.transNo hk2).transNo hk3).transNo hk4).transNo hk5).drew⟩
theorem bitsMoves_walk (a : Option Addr) (n c : Nat) (l : List {n : Int // (Lit.int .i64 n).wf = true}) (d : Int) (w : World) (hs : Sl w a n c (l.map i64V)) (hn : n * 8 ≤ 140737488351232) (hd : (Lit.int .i32 d).wf = true) :
    Calls Try.prog 13 #[.slice a n c, .int .i32 d] w fun e w' => e = .returned (.bool true) ∧ Keeps No w w' :=
  bitsMoves_any a n c (l.map (·.1)) d w (by rw [← i64_map]; exact hs) (i64_wf l) (by omega) (wf_i32_iff hd)
end Go.Proofs.Ytmhmpnbcjcmnnaa
