import Derived.Test.YthbipcjgpocpaaaGreatVal
import Derived.Test.YthbipcjgpocpaaaGreatMemC
/- The walks of the document's answers for floats and values. -/
namespace Go.Proofs.YthbipcjgpocpaaaGreat
open Go.RowKit
set_option linter.unusedSimpArgs false
set_option linter.unusedVariables false

theorem parts_any (u : Nat) (hu : u < 18446744073709551616) (w : World) : Calls Tryz.prog 88 #[.int .u64 (u : Int)] w fun e w' => e = .returned (.tuple #[.int .u64 ((u / 9223372036854775808 : Nat) : Int), .int .i64 ((u / 4503599627370496 % 2048 : Nat) : Int), .int .u64 ((u % 4503599627370496 : Nat) : Int)]) ∧ w = w' := by
  go_enter Tryz.func88, Tryz.ntmps88
  go_wp2_with fail
  go_ret3
  refine ⟨?_, rfl⟩
  congr 1
theorem fnan_parts (u : Nat) : fnan u = (decide (u / 4503599627370496 % 2048 = 2047) && decide (0 < u % 4503599627370496)) := by
  unfold fnan fmag
  rw [← Bool.decide_and]
  apply decide_eq_decide.2
  omega
theorem refnan_any (u : Nat) (hu : u < 18446744073709551616) (w : World) : Calls Tryz.prog 79 #[.int .u64 (u : Int)] w fun e w' => e = .returned (.bool (fnan u)) ∧ w = w' := by
  go_enter Tryz.func79, Tryz.ntmps79
  go_wp2_with fail
  refine (parts_any u hu _).mono ?_
  rintro e w1 ⟨rfl, rfl⟩
  have hp := fnan_parts u
  generalize u / 4503599627370496 % 2048 = x at hp ⊢
  generalize u % 4503599627370496 = y at hp ⊢
  have HP := Lib.hid hp
  clear hp
  by_cases hx : x = 2047
  · subst hx
    by_cases hy : 0 < y
    all_goals
      go_wp2_with fail
      go_ret
      exact ⟨ret_bool (by rw [HP.out]; simp; try omega), rfl⟩
  · have hb : ((x : Int) == 2047) = false := by simp; omega
    have Hx := Lib.hid hx
    clear hx
    go_wp2_with fail
    go_ret
    exact ⟨ret_bool (by rw [HP.out]; simp [Hx.out]), rfl⟩
theorem refcanon_any (u : Nat) (hu : u < 18446744073709551616) (w : World) : Calls Tryz.prog 66 #[.int .u64 (u : Int)] w fun e w' => e = .returned (.int .u64 (canon u : Int)) ∧ w = w' := by
  go_enter Tryz.func66, Tryz.ntmps66
  go_wp2_with fail
  refine (refnan_any u hu _).mono ?_
  rintro e w1 ⟨rfl, rfl⟩
  cases hn : fnan u
  all_goals
    have hc : canon u = if fnan u = true then 9221120237041090560 else u := rfl
    rw [hn] at hc
    have Hc := Lib.hid hc
    clear hc hn
    go_wp2_with fail
    go_ret
    rw [Hc.out]
    exact ⟨rfl, rfl⟩
theorem fneg_iff (u : Nat) (hu : u < 18446744073709551616) : fneg u = decide (u / 9223372036854775808 = 1) := by
  unfold fneg
  rw [show u / 9223372036854775808 % 2 = u / 9223372036854775808 from by omega]
  by_cases h : u / 9223372036854775808 = 1 <;> simp [h]
theorem fcmp_ref (a b : Nat) (ha : a < 18446744073709551616) (hb : b < 18446744073709551616) (hna : fnan a = false) (hnb : fnan b = false) :
    fcmp a b = if (fmag a = 0 ∧ fmag b = 0) ∨ a = b then (0, true) else if a / 9223372036854775808 ≠ b / 9223372036854775808 then (((b / 9223372036854775808 : Nat) : Int) - ((a / 9223372036854775808 : Nat) : Int), true)
      else if (fmag a < fmag b ↔ a / 9223372036854775808 = 0) then (-1, true) else (1, true) := by
  unfold fcmp
  rw [if_neg (by simp [hna, hnb])]
  unfold fkey
  rw [fneg_iff a ha, fneg_iff b hb]
  have ea : a = 9223372036854775808 * (a / 9223372036854775808) + fmag a := by unfold fmag; omega
  have eb : b = 9223372036854775808 * (b / 9223372036854775808) + fmag b := by unfold fmag; omega
  have la : fmag a < 9223372036854775808 := by unfold fmag; omega
  have lb : fmag b < 9223372036854775808 := by unfold fmag; omega
  have sa : a / 9223372036854775808 = 0 ∨ a / 9223372036854775808 = 1 := by omega
  have sb : b / 9223372036854775808 = 0 ∨ b / 9223372036854775808 = 1 := by omega
  generalize a / 9223372036854775808 = s at *
  generalize b / 9223372036854775808 = t at *
  generalize fmag a = x at *
  generalize fmag b = y at *
  subst ea eb
  unfold cmp3
  rcases sa with rfl | rfl <;> rcases sb with rfl | rfl <;> simp <;> (repeat' split) <;> first | rfl | (exfalso; omega) | omega | simp_all <;> omega

theorem canon_lt (u : Nat) (hu : u < 18446744073709551616) : canon u < 18446744073709551616 := by unfold canon; split <;> omega
theorem canon_nan (u : Nat) (h : fnan (canon u) = true) : canon u = 9221120237041090560 := by
  unfold canon at h ⊢
  split
  · rfl
  · rename_i hn
    rw [if_neg hn] at h
    exact absurd h hn
theorem forder_ref (a b : Nat) (ha : a < 18446744073709551616) (hb : b < 18446744073709551616) :
    forder a b = if canon a = canon b then 0 else if fnan (canon a) = true then 1 else if fnan (canon b) = true then -1
      else if (fcmp (canon a) (canon b)).1 ≠ 0 then (fcmp (canon a) (canon b)).1 else if canon b < canon a then -1 else 1 := by
  unfold forder frank
  have hA := canon_lt a ha
  have hB := canon_lt b hb
  have nA := canon_nan a
  have nB := canon_nan b
  generalize canon a = A at *
  generalize canon b = B at *
  by_cases he : A = B
  · subst he
    rw [if_pos rfl, cmp3_eq]
  rw [if_neg he]
  by_cases h1 : fnan A = true
  · rw [if_pos h1]
    have e := nA h1
    have hb2 : ¬ fnan B = true := fun h => he (e.trans (nB h).symm)
    have hb3 : fmag B ≤ 9218868437227405312 := by unfold fnan at hb2; simp at hb2; exact hb2
    unfold fmag at hb3
    subst e
    refine cmp3_gt ?_
    split <;> split <;> omega
  rw [if_neg h1]
  have ha3 : fmag A ≤ 9218868437227405312 := by unfold fnan at h1; simp at h1; exact h1
  by_cases h2 : fnan B = true
  · rw [if_pos h2]
    have e := nB h2
    unfold fmag at ha3
    subst e
    refine cmp3_lt ?_
    split <;> split <;> omega
  rw [if_neg h2]
  have hc : fcmp A B = (cmp3 (fkey A) (fkey B), true) := by unfold fcmp; rw [if_neg (by simp [h1, h2])]
  rw [hc]
  simp only
  unfold fkey
  rw [fneg_iff A hA, fneg_iff B hB]
  have eA : A = 9223372036854775808 * (A / 9223372036854775808) + fmag A := by unfold fmag; omega
  have eB : B = 9223372036854775808 * (B / 9223372036854775808) + fmag B := by unfold fmag; omega
  have lA : fmag A < 9223372036854775808 := by unfold fmag; omega
  have lB : fmag B < 9223372036854775808 := by unfold fmag; omega
  have sA : A / 9223372036854775808 = 0 ∨ A / 9223372036854775808 = 1 := by omega
  have sB : B / 9223372036854775808 = 0 ∨ B / 9223372036854775808 = 1 := by omega
  clear hc nA nB ha3 h1 h2 ha hb
  generalize A / 9223372036854775808 = s at *
  generalize B / 9223372036854775808 = t at *
  generalize fmag A = x at *
  generalize fmag B = y at *
  subst eA eB
  unfold cmp3
  rcases sA with rfl | rfl <;> rcases sB with rfl | rfl <;> simp <;> (repeat' split) <;> first | rfl | (exfalso; omega) | omega | simp_all <;> omega

end Go.Proofs.YthbipcjgpocpaaaGreat
/- The walks of the document's answers for values: texts, Right, Compare, Order. -/
namespace Go.Proofs.YthbipcjgpocpaaaGreat
open Go.RowKit
set_option linter.unusedSimpArgs false
set_option linter.unusedVariables false

theorem str_at (s : ByteArray) (i : Nat) (h : i < s.data.toList.length) (wx : World) : (Instr.index 9 (.string s) (.int .i64 (i : Int))).run Tryz.prog wx = .ok (.int .u8 ((s.data.toList[i]).toNat : Int)) wx := by
  have hs : s.data.toList.length = s.size := Array.length_toList
  rw [run_index_string (P := Tryz.prog) wx 9 s .i64 (i : Int) Tryz.underlying9, dif_pos ⟨by omega, by omega⟩]
  rfl
theorem cmpB_drop (a b : List UInt8) (i : Nat) (ha : i < a.length) (hb : i < b.length) : Lib.compareBytes (a.drop i) (b.drop i) = if a[i] = b[i] then Lib.compareBytes (a.drop (i + 1)) (b.drop (i + 1)) else cmp3 (a[i].toNat : Int) (b[i].toNat : Int) := by
  rw [List.drop_eq_getElem_cons ha, List.drop_eq_getElem_cons hb]
  show (if a[i] < b[i] then (-1 : Int) else if b[i] < a[i] then 1 else _) = _
  generalize a[i] = x
  generalize b[i] = y
  have h1 : x < y ↔ x.toNat < y.toNat := UInt8.lt_iff_toNat_lt
  have h2 : y < x ↔ y.toNat < x.toNat := UInt8.lt_iff_toNat_lt
  have h3 : x = y ↔ x.toNat = y.toNat := ⟨fun h => by rw [h], fun h => UInt8.toNat_inj.1 h⟩
  unfold cmp3
  rcases Nat.lt_trichotomy x.toNat y.toNat with h | h | h
  · rw [if_pos (h1.2 h), if_neg (fun e => by have := h3.1 e; omega), if_pos (by omega)]
  · rw [if_neg (fun e => by have := h1.1 e; omega), if_neg (fun e => by have := h2.1 e; omega), if_pos (h3.2 h)]
  · rw [if_neg (fun e => by have := h1.1 e; omega), if_pos (h2.2 h), if_neg (fun e => by have := h3.1 e; omega), if_neg (by omega), if_pos (by omega)]
theorem cmpB_end (a b : List UInt8) (i : Nat) (ha : i ≤ a.length) (hb : i ≤ b.length) (h : i = a.length ∨ i = b.length) : Lib.compareBytes (a.drop i) (b.drop i) = cmp3 (a.length : Int) (b.length : Int) := by
  unfold cmp3
  rcases Nat.lt_trichotomy a.length b.length with h1 | h1 | h1
  · rw [if_pos (by omega), List.drop_of_length_le (by omega), List.drop_eq_getElem_cons (by omega)]; rfl
  · rw [if_neg (by omega), if_neg (by omega), List.drop_of_length_le (by omega), List.drop_of_length_le (by omega)]; rfl
  · rw [if_neg (by omega), if_pos (by omega), List.drop_of_length_le (l := b) (by omega), List.drop_eq_getElem_cons (by omega)]; rfl

theorem rightV_bools (k n : Int) (s : ByteArray) (f : Nat) : rightV ⟨k, n, s, f⟩ =
    if k = 0 then !decide (n ≠ 0) && !decide (s ≠ ByteArray.empty) && !decide (f ≠ 0)
    else if k = 1 then !decide (s ≠ ByteArray.empty) && !decide (f ≠ 0)
    else if k = 2 then !decide (s ≠ ByteArray.empty) && !decide (f ≠ 0) && (decide (n = 0) || decide (n = 1))
    else if k = 3 then !decide (n ≠ 0) && !decide (f ≠ 0) && decide (s.size ≤ 64)
    else if k = 4 then !decide (n ≠ 0) && !decide (s ≠ ByteArray.empty) && decide (canon f = f)
    else false := by
  unfold rightV
  by_cases h0 : k = 0
  · subst h0; simp [Va.zero, Bool.and_assoc]
  by_cases h1 : k = 1
  · subst h1; simp
  by_cases h2 : k = 2
  · subst h2; simp [Bool.and_assoc]
  by_cases h3 : k = 3
  · subst h3; simp [Bool.and_assoc]
  by_cases h4 : k = 4
  · subst h4; simp [Bool.and_assoc]
  · simp [h0, h1, h2, h3, h4, Va.zero]

set_option maxRecDepth 100000 in
set_option maxHeartbeats 4000000 in
theorem refright_any (v : Va) (hv : v.wf) (w : World) : Calls Tryz.prog 39 #[v.agg] w fun e w' => e = .returned (.bool (rightV v)) ∧ Keeps No w w' := by
  obtain ⟨k, n, s, f⟩ := v
  have hf := hv.2.2
  simp only at hf
  have hr := rightV_bools k n s f
  have Hr := Lib.hid hr
  clear hr hv
  unfold Va.agg
  simp only
  go_enter Tryz.func39, Tryz.ntmps39
  go_upto_region 1 with fail
  have hbV := heap_alloc_new w (.cells #[.int .i64 k, .int .i64 n, .string s, .int .u64 (f : Int)] 32)
  have hkW : Keeps No w (w.alloc (.cells #[.int .i64 k, .int .i64 n, .string s, .int .u64 (f : Int)] 32)) := (Keeps.refl No w).alloc _
  generalize (w.alloc (.cells #[.int .i64 k, .int .i64 n, .string s, .int .u64 (f : Int)] 32)) = W at hbV hkW ⊢
  obtain ⟨a0, a1, a2, a3⟩ := row4 hbV
  go_cut [3, 4, 5] (fun x y z wx => x = .bool (decide (n ≠ 0)) ∧ y = .bool (decide (s ≠ ByteArray.empty)) ∧ z = .bool (decide (f ≠ 0)) ∧ Keeps No W wx)
  case first =>
    have en : (n != 0) = decide (n ≠ 0) := by by_cases h : n = 0 <;> simp [h]
    have ef : ((f : Int) != 0) = decide (f ≠ 0) := by by_cases h : f = 0 <;> simp [h]
    obtain ⟨bn, hbn⟩ : ∃ b, b = decide (n ≠ 0) := ⟨_, rfl⟩
    obtain ⟨bf, hbf⟩ : ∃ b, b = decide (f ≠ 0) := ⟨_, rfl⟩
    rw [← hbn] at en
    rw [← hbf] at ef
    have Hbn := Lib.hid hbn
    have Hbf := Lib.hid hbf
    clear hbn hbf
    by_cases hs : s = ByteArray.empty
    · subst hs
      go_wp2_with fail
      go_quiet (fail)
      go_wp2_with fail
      go_meet
      exact ⟨by rw [Hbn.out], by simp, by rw [Hbf.out], (Keeps.refl No W).drewN _⟩
    · have hsl := toList_nil s hs
      have Hs := Lib.hid hs
      clear hs
      go_wp2_with fail
      go_quiet (fail)
      go_wp2_with fail
      go_meet
      exact ⟨by rw [Hbn.out], by simp [Hs.out, hsl], by rw [Hbf.out], (Keeps.refl No W).drewN _⟩
  case rest =>
    obtain ⟨rfl, rfl, rfl, hkc⟩ := hcut
    clear a0 a1 a2 a3
    obtain ⟨a0, a1, a2, a3⟩ := row4 (hkc.blk hbV (not_No _))
    generalize decide (n ≠ 0) = bn at Hr ⊢
    generalize decide (s ≠ ByteArray.empty) = bs at Hr ⊢
    generalize decide (f ≠ 0) = bf at Hr ⊢
    have hk0c := hkW.transNo hkc
    rcases (show k = 0 ∨ k = 1 ∨ k = 2 ∨ k = 3 ∨ k = 4 ∨ (k ≠ 0 ∧ k ≠ 1 ∧ k ≠ 2 ∧ k ≠ 3 ∧ k ≠ 4) by omega) with rfl | rfl | rfl | rfl | rfl | ⟨h0, h1, h2, h3, h4⟩
    · cases bn <;> cases bs <;> cases bf
      all_goals
        go_wp2_with fail
        go_ret
        exact ⟨ret_bool (by rw [Hr.out]; rfl), hk0c⟩
    · cases bs <;> cases bf
      all_goals
        go_wp2_with fail
        go_ret
        exact ⟨ret_bool (by rw [Hr.out]; rfl), hk0c⟩
    · by_cases hn0 : n = 0
      · have e0 : (n == 0) = true := by simp [hn0]
        have Hn0 := Lib.hid hn0
        clear hn0
        cases bs <;> cases bf
        all_goals
          go_wp2_with fail
          go_ret
          exact ⟨ret_bool (by rw [Hr.out]; simp [Hn0.out]), hk0c⟩
      · have e0 : (n == 0) = false := by simp [hn0]
        by_cases hn1 : n = 1
        · have e1 : (n == 1) = true := by simp [hn1]
          have Hn1 := Lib.hid hn1
          clear hn0 hn1
          cases bs <;> cases bf
          all_goals
            go_wp2_with fail
            go_ret
            exact ⟨ret_bool (by rw [Hr.out]; simp [Hn1.out]), hk0c⟩
        · have e1 : (n == 1) = false := by simp [hn1]
          have Hn0 := Lib.hid hn0
          have Hn1 := Lib.hid hn1
          clear hn0 hn1
          cases bs <;> cases bf
          all_goals
            go_wp2_with fail
            go_ret
            exact ⟨ret_bool (by rw [Hr.out]; simp [Hn0.out, Hn1.out]), hk0c⟩
    · have hd : decide ((s.size : Int) ≤ 64) = decide (s.size ≤ 64) := by apply decide_eq_decide.2; omega
      cases bn <;> cases bf
      all_goals
        go_wp2_with fail
        go_ret
        exact ⟨ret_bool (by rw [Hr.out]; simp), hk0c⟩
    · have hfam := fun wx (hx : Keeps No wc wx) => row4 ((hkc.transNo hx).blk hbV (not_No _))
      cases bn <;> cases bs
      case false.false =>
        obtain ⟨q, hq⟩ : ∃ q, q = canon f := ⟨_, rfl⟩
        have hcan := fun wx => refcanon_any f hf wx
        rw [← hq] at hcan
        have hr2 : rightV ⟨4, n, s, f⟩ = decide (q = f) := by rw [Hr.out, hq]; simp
        have eq2 : ((q : Int) == (f : Int)) = decide (q = f) := by by_cases h : q = f <;> simp [h] <;> omega
        have Hr2 := Lib.hid hr2
        clear hq hr2
        generalize decide (q = f) = bq at eq2 Hr2
        go_wp2_with fail
        refine wp_region_held_drew (S := fun wx => Keeps No wc wx) (by kernel_rfl) ((Keeps.refl _ _).drew) (fun hS => ?_)
        refine tk (i := 0) (oi := ⟨some 71, _, _, _, _, _⟩) (v := ?_) rfl (by kernel_rfl) (fun _ _ _ h => h) (by assumption) (by rfl) (fun w hSw => ?_) ?_; rotate_left; (focus (first | (go_simp; done) | (go_simp; with_reducible rfl))); simp only [Act.put, List.setIfInBounds_toArray, List.set_cons_zero, List.set_cons_succ]
        refine tk (i := 1) (oi := ⟨some 72, _, _, _, _, _⟩) (v := ?_) rfl (by kernel_rfl) (fun _ _ _ h => h) (by assumption) (by rfl) (fun w hSw => ?_) ?_; rotate_left; (focus (first | (go_simp; done) | (go_simp; with_reducible rfl))); simp only [Act.put, List.setIfInBounds_toArray, List.set_cons_zero, List.set_cons_succ]
        refine tk (i := 2) (oi := ⟨some 73, _, _, _, _, _⟩) (v := ?_) rfl (by kernel_rfl) (fun _ _ _ h => h) (by assumption) (by rfl) (fun w hSw => ?_) ?_; rotate_left; (focus (first | (go_simp; done) | (go_simp; with_reducible rfl))); simp only [Act.put, List.setIfInBounds_toArray, List.set_cons_zero, List.set_cons_succ]
        refine tk (i := 3) (oi := ⟨some 74, _, _, _, _, _⟩) (v := ?_) rfl (by kernel_rfl) (fun _ _ _ h => h) (by assumption) (by rfl) (fun w hSw => ?_) ?_; rotate_left; (focus (first | (go_simp; done) | (go_simp; with_reducible rfl))); simp only [Act.put, List.setIfInBounds_toArray, List.set_cons_zero, List.set_cons_succ]
        refine tk (i := 4) (oi := ⟨some 75, _, _, _, _, _⟩) (v := ?_) rfl (by kernel_rfl) (fun _ _ _ h => h) (by assumption) (by rfl) (fun w hSw => ?_) ?_; rotate_left; (focus (first | (go_simp; done) | (go_simp; with_reducible rfl))); simp only [Act.put, List.setIfInBounds_toArray, List.set_cons_zero, List.set_cons_succ]
        refine tk (i := 5) (oi := ⟨some 76, _, _, _, _, _⟩) (v := ?_) rfl (by kernel_rfl) (fun _ _ _ h => h) (by assumption) (by rfl) (fun w hSw => ?_) ?_; rotate_left; (focus (first | (go_simp; done) | (go_simp; with_reducible rfl))); simp only [Act.put, List.setIfInBounds_toArray, List.set_cons_zero, List.set_cons_succ]
        refine tk (i := 6) (oi := ⟨some 77, _, _, _, _, _⟩) (v := ?_) rfl (by kernel_rfl) (fun _ _ _ h => h) (by assumption) (by rfl) (fun w hSw => ?_) ?_; rotate_left; (focus (first | (go_simp; done) | (go_simp; with_reducible rfl))); simp only [Act.put, List.setIfInBounds_toArray, List.set_cons_zero, List.set_cons_succ]
        refine tk (i := 7) (oi := ⟨some 78, _, _, _, _, _⟩) (v := ?_) rfl (by kernel_rfl) (fun _ _ _ h => h) (by assumption) (by rfl) (fun w hSw => ?_) ?_; rotate_left; (focus (first | (go_simp; done) | (go_simp; with_reducible rfl))); simp only [Act.put, List.setIfInBounds_toArray, List.set_cons_zero, List.set_cons_succ]
        refine tk (i := 8) (oi := ⟨some 79, _, _, _, _, _⟩) (v := ?_) rfl (by kernel_rfl) (fun _ _ _ h => h) (by assumption) (by rfl) (fun w hSw => ?_) ?_; rotate_left; (focus (first | (go_simp; done) | (go_simp; with_reducible rfl))); simp only [Act.put, List.setIfInBounds_toArray, List.set_cons_zero, List.set_cons_succ]
        refine tk (i := 10) (oi := ⟨some 81, _, _, _, _, _⟩) (v := ?_) rfl (by kernel_rfl) (fun _ _ _ h => h) (by assumption) (by rfl) (fun w hSw => ?_) ?_; rotate_left; (focus (first | (go_simp; done) | (go_simp; with_reducible rfl))); simp only [Act.put, List.setIfInBounds_toArray, List.set_cons_zero, List.set_cons_succ]
        refine tk (i := 11) (oi := ⟨some 82, _, _, _, _, _⟩) (v := ?_) rfl (by kernel_rfl) (fun _ _ _ h => h) (by assumption) (by rfl) (fun w hSw => ?_) ?_; rotate_left; (focus (first | (go_simp; done) | (go_simp; with_reducible rfl))); simp only [Act.put, List.setIfInBounds_toArray, List.set_cons_zero, List.set_cons_succ]
        refine alone (i := 9) (oi := ⟨some 80, _, _, _, _, _⟩) rfl (by kernel_rfl) (by rfl) (fun K hK => ?_); go_simp
        refine (hcan _).mono ?_
        rintro e w4 ⟨rfl, rfl⟩
        refine hK.out (fun wx => Keeps No wc wx) _ _ (fun _ h => h) (hS) ?_
        clear hK K hS
        intro hS
        refine tk (i := 12) (oi := ⟨some 83, _, _, _, _, _⟩) (v := ?_) rfl (by kernel_rfl) (fun _ _ _ h => h) (by assumption) (by rfl) (fun w hSw => ?_) ?_; rotate_left; (focus (first | (go_simp; done) | (go_simp; with_reducible rfl))); simp only [Act.put, List.setIfInBounds_toArray, List.set_cons_zero, List.set_cons_succ]
        refine tk (i := 13) (oi := ⟨some 84, _, _, _, _, _⟩) (v := ?_) rfl (by kernel_rfl) (fun _ _ _ h => h) (by assumption) (by rfl) (fun w hSw => ?_) ?_; rotate_left; (focus (first | (go_simp; done) | (go_simp; with_reducible rfl))); simp only [Act.put, List.setIfInBounds_toArray, List.set_cons_zero, List.set_cons_succ]
        refine tk (i := 14) (oi := ⟨some 2, _, _, _, _, _⟩) (v := ?_) rfl (by kernel_rfl) (fun _ _ _ h => h) (by assumption) (by rfl) (fun w hSw => ?_) ?_; rotate_left; (focus (first | (go_simp; done) | (go_simp; with_reducible rfl))); simp only [Act.put, List.setIfInBounds_toArray, List.set_cons_zero, List.set_cons_succ]
        refine wpAnyH_done (by kernel_rfl) ?_ _
        clear hS
        go_wp2_with fail
        go_ret
        exact ⟨ret_bool (by rw [Hr2.out]), hk0c.drew⟩
      case false.true =>
        go_wp2_with fail
        refine wp_region_held_drew (S := fun wx => Keeps No wc wx) (by kernel_rfl) ((Keeps.refl _ _).drew) (fun hS => ?_)
        refine tk (i := 0) (oi := ⟨some 71, _, _, _, _, _⟩) (v := ?_) rfl (by kernel_rfl) (fun _ _ _ h => h) (by assumption) (by rfl) (fun w hSw => ?_) ?_; rotate_left; (focus (first | (go_simp; done) | (go_simp; with_reducible rfl))); simp only [Act.put, List.setIfInBounds_toArray, List.set_cons_zero, List.set_cons_succ]
        refine tk (i := 1) (oi := ⟨some 72, _, _, _, _, _⟩) (v := ?_) rfl (by kernel_rfl) (fun _ _ _ h => h) (by assumption) (by rfl) (fun w hSw => ?_) ?_; rotate_left; (focus (first | (go_simp; done) | (go_simp; with_reducible rfl))); simp only [Act.put, List.setIfInBounds_toArray, List.set_cons_zero, List.set_cons_succ]
        refine tk (i := 2) (oi := ⟨some 73, _, _, _, _, _⟩) (v := ?_) rfl (by kernel_rfl) (fun _ _ _ h => h) (by assumption) (by rfl) (fun w hSw => ?_) ?_; rotate_left; (focus (first | (go_simp; done) | (go_simp; with_reducible rfl))); simp only [Act.put, List.setIfInBounds_toArray, List.set_cons_zero, List.set_cons_succ]
        refine tk (i := 3) (oi := ⟨some 74, _, _, _, _, _⟩) (v := ?_) rfl (by kernel_rfl) (fun _ _ _ h => h) (by assumption) (by rfl) (fun w hSw => ?_) ?_; rotate_left; (focus (first | (go_simp; done) | (go_simp; with_reducible rfl))); simp only [Act.put, List.setIfInBounds_toArray, List.set_cons_zero, List.set_cons_succ]
        refine tk (i := 4) (oi := ⟨some 75, _, _, _, _, _⟩) (v := ?_) rfl (by kernel_rfl) (fun _ _ _ h => h) (by assumption) (by rfl) (fun w hSw => ?_) ?_; rotate_left; (focus (first | (go_simp; done) | (go_simp; with_reducible rfl))); simp only [Act.put, List.setIfInBounds_toArray, List.set_cons_zero, List.set_cons_succ]
        refine tk (i := 5) (oi := ⟨some 76, _, _, _, _, _⟩) (v := ?_) rfl (by kernel_rfl) (fun _ _ _ h => h) (by assumption) (by rfl) (fun w hSw => ?_) ?_; rotate_left; (focus (first | (go_simp; done) | (go_simp; with_reducible rfl))); simp only [Act.put, List.setIfInBounds_toArray, List.set_cons_zero, List.set_cons_succ]
        refine tk (i := 6) (oi := ⟨some 77, _, _, _, _, _⟩) (v := ?_) rfl (by kernel_rfl) (fun _ _ _ h => h) (by assumption) (by rfl) (fun w hSw => ?_) ?_; rotate_left; (focus (first | (go_simp; done) | (go_simp; with_reducible rfl))); simp only [Act.put, List.setIfInBounds_toArray, List.set_cons_zero, List.set_cons_succ]
        refine tkNot (i := 7) (oi := ⟨some 78, _, _, _, _, _⟩) rfl (by kernel_rfl) (fun _ _ _ h => h) (by assumption) (by rfl) ?_; simp only [Act.put, List.setIfInBounds_toArray, List.set_cons_zero, List.set_cons_succ]
        refine tkNot (i := 8) (oi := ⟨some 79, _, _, _, _, _⟩) rfl (by kernel_rfl) (fun _ _ _ h => h) (by assumption) (by rfl) ?_; simp only [Act.put, List.setIfInBounds_toArray, List.set_cons_zero, List.set_cons_succ]
        refine tkNot (i := 9) (oi := ⟨some 80, _, _, _, _, _⟩) rfl (by kernel_rfl) (fun _ _ _ h => h) (by assumption) (by rfl) ?_; simp only [Act.put, List.setIfInBounds_toArray, List.set_cons_zero, List.set_cons_succ]
        refine tkNot (i := 10) (oi := ⟨some 81, _, _, _, _, _⟩) rfl (by kernel_rfl) (fun _ _ _ h => h) (by assumption) (by rfl) ?_; simp only [Act.put, List.setIfInBounds_toArray, List.set_cons_zero, List.set_cons_succ]
        refine tkNot (i := 11) (oi := ⟨some 82, _, _, _, _, _⟩) rfl (by kernel_rfl) (fun _ _ _ h => h) (by assumption) (by rfl) ?_; simp only [Act.put, List.setIfInBounds_toArray, List.set_cons_zero, List.set_cons_succ]
        refine tkNot (i := 12) (oi := ⟨some 83, _, _, _, _, _⟩) rfl (by kernel_rfl) (fun _ _ _ h => h) (by assumption) (by rfl) ?_; simp only [Act.put, List.setIfInBounds_toArray, List.set_cons_zero, List.set_cons_succ]
        refine tk (i := 13) (oi := ⟨some 84, _, _, _, _, _⟩) (v := ?_) rfl (by kernel_rfl) (fun _ _ _ h => h) (by assumption) (by rfl) (fun w hSw => ?_) ?_; rotate_left; (focus (first | (go_simp; done) | (go_simp; with_reducible rfl))); simp only [Act.put, List.setIfInBounds_toArray, List.set_cons_zero, List.set_cons_succ]
        refine tk (i := 14) (oi := ⟨some 2, _, _, _, _, _⟩) (v := ?_) rfl (by kernel_rfl) (fun _ _ _ h => h) (by assumption) (by rfl) (fun w hSw => ?_) ?_; rotate_left; (focus (first | (go_simp; done) | (go_simp; with_reducible rfl))); simp only [Act.put, List.setIfInBounds_toArray, List.set_cons_zero, List.set_cons_succ]
        refine wpAnyH_done (by kernel_rfl) ?_ _
        clear hS
        go_wp2_with fail
        go_ret
        exact ⟨ret_bool (by rw [Hr.out]; simp), hk0c.drew⟩
      all_goals
        go_wp2_with fail
        refine wp_region_held_drew (S := fun wx => Keeps No wc wx) (by kernel_rfl) ((Keeps.refl _ _).drew) (fun hS => ?_)
        refine tk (i := 0) (oi := ⟨some 71, _, _, _, _, _⟩) (v := ?_) rfl (by kernel_rfl) (fun _ _ _ h => h) (by assumption) (by rfl) (fun w hSw => ?_) ?_; rotate_left; (focus (first | (go_simp; done) | (go_simp; with_reducible rfl))); simp only [Act.put, List.setIfInBounds_toArray, List.set_cons_zero, List.set_cons_succ]
        refine tk (i := 1) (oi := ⟨some 72, _, _, _, _, _⟩) (v := ?_) rfl (by kernel_rfl) (fun _ _ _ h => h) (by assumption) (by rfl) (fun w hSw => ?_) ?_; rotate_left; (focus (first | (go_simp; done) | (go_simp; with_reducible rfl))); simp only [Act.put, List.setIfInBounds_toArray, List.set_cons_zero, List.set_cons_succ]
        refine tk (i := 2) (oi := ⟨some 73, _, _, _, _, _⟩) (v := ?_) rfl (by kernel_rfl) (fun _ _ _ h => h) (by assumption) (by rfl) (fun w hSw => ?_) ?_; rotate_left; (focus (first | (go_simp; done) | (go_simp; with_reducible rfl))); simp only [Act.put, List.setIfInBounds_toArray, List.set_cons_zero, List.set_cons_succ]
        refine tkNot (i := 3) (oi := ⟨some 74, _, _, _, _, _⟩) rfl (by kernel_rfl) (fun _ _ _ h => h) (by assumption) (by rfl) ?_; simp only [Act.put, List.setIfInBounds_toArray, List.set_cons_zero, List.set_cons_succ]
        refine tkNot (i := 4) (oi := ⟨some 75, _, _, _, _, _⟩) rfl (by kernel_rfl) (fun _ _ _ h => h) (by assumption) (by rfl) ?_; simp only [Act.put, List.setIfInBounds_toArray, List.set_cons_zero, List.set_cons_succ]
        refine tk (i := 5) (oi := ⟨some 76, _, _, _, _, _⟩) (v := ?_) rfl (by kernel_rfl) (fun _ _ _ h => h) (by assumption) (by rfl) (fun w hSw => ?_) ?_; rotate_left; (focus (first | (go_simp; done) | (go_simp; with_reducible rfl))); simp only [Act.put, List.setIfInBounds_toArray, List.set_cons_zero, List.set_cons_succ]
        refine tk (i := 6) (oi := ⟨some 77, _, _, _, _, _⟩) (v := ?_) rfl (by kernel_rfl) (fun _ _ _ h => h) (by assumption) (by rfl) (fun w hSw => ?_) ?_; rotate_left; (focus (first | (go_simp; done) | (go_simp; with_reducible rfl))); simp only [Act.put, List.setIfInBounds_toArray, List.set_cons_zero, List.set_cons_succ]
        refine tkNot (i := 7) (oi := ⟨some 78, _, _, _, _, _⟩) rfl (by kernel_rfl) (fun _ _ _ h => h) (by assumption) (by rfl) ?_; simp only [Act.put, List.setIfInBounds_toArray, List.set_cons_zero, List.set_cons_succ]
        refine tkNot (i := 8) (oi := ⟨some 79, _, _, _, _, _⟩) rfl (by kernel_rfl) (fun _ _ _ h => h) (by assumption) (by rfl) ?_; simp only [Act.put, List.setIfInBounds_toArray, List.set_cons_zero, List.set_cons_succ]
        refine tkNot (i := 9) (oi := ⟨some 80, _, _, _, _, _⟩) rfl (by kernel_rfl) (fun _ _ _ h => h) (by assumption) (by rfl) ?_; simp only [Act.put, List.setIfInBounds_toArray, List.set_cons_zero, List.set_cons_succ]
        refine tkNot (i := 10) (oi := ⟨some 81, _, _, _, _, _⟩) rfl (by kernel_rfl) (fun _ _ _ h => h) (by assumption) (by rfl) ?_; simp only [Act.put, List.setIfInBounds_toArray, List.set_cons_zero, List.set_cons_succ]
        refine tkNot (i := 11) (oi := ⟨some 82, _, _, _, _, _⟩) rfl (by kernel_rfl) (fun _ _ _ h => h) (by assumption) (by rfl) ?_; simp only [Act.put, List.setIfInBounds_toArray, List.set_cons_zero, List.set_cons_succ]
        refine tkNot (i := 12) (oi := ⟨some 83, _, _, _, _, _⟩) rfl (by kernel_rfl) (fun _ _ _ h => h) (by assumption) (by rfl) ?_; simp only [Act.put, List.setIfInBounds_toArray, List.set_cons_zero, List.set_cons_succ]
        refine tk (i := 13) (oi := ⟨some 84, _, _, _, _, _⟩) (v := ?_) rfl (by kernel_rfl) (fun _ _ _ h => h) (by assumption) (by rfl) (fun w hSw => ?_) ?_; rotate_left; (focus (first | (go_simp; done) | (go_simp; with_reducible rfl))); simp only [Act.put, List.setIfInBounds_toArray, List.set_cons_zero, List.set_cons_succ]
        refine tk (i := 14) (oi := ⟨some 2, _, _, _, _, _⟩) (v := ?_) rfl (by kernel_rfl) (fun _ _ _ h => h) (by assumption) (by rfl) (fun w hSw => ?_) ?_; rotate_left; (focus (first | (go_simp; done) | (go_simp; with_reducible rfl))); simp only [Act.put, List.setIfInBounds_toArray, List.set_cons_zero, List.set_cons_succ]
        refine wpAnyH_done (by kernel_rfl) ?_ _
        clear hS
        go_wp2_with fail
        go_ret
        exact ⟨ret_bool (by rw [Hr.out]; simp), hk0c.drew⟩
    · have e0 : (k == 0) = false := by simp [h0]
      have e1 : (k == 1) = false := by simp [h1]
      have e2 : (k == 2) = false := by simp [h2]
      have e3 : (k == 3) = false := by simp [h3]
      have e4 : (k == 4) = false := by simp [h4]
      have hr2 : rightV ⟨k, n, s, f⟩ = false := by rw [Hr.out]; simp [h0, h1, h2, h3, h4]
      have Hr2 := Lib.hid hr2
      clear hr2 h0 h1 h2 h3 h4
      go_wp2_with fail
      go_ret
      exact ⟨ret_bool (by rw [Hr2.out]), hk0c⟩

end Go.Proofs.YthbipcjgpocpaaaGreat
/- The walks of the document's answers for values: Compare, Order. -/
namespace Go.Proofs.YthbipcjgpocpaaaGreat
open Go.RowKit
set_option linter.unusedSimpArgs false
set_option linter.unusedVariables false

set_option maxRecDepth 100000 in
theorem refrightv_any (v : Va) (hv : v.wf) (w : World) : Calls Tryz.prog 80 #[v.agg] w fun e w' => e = .returned (rightOf v).agg ∧ Keeps No w w' := by
  have hr := fun wx => refright_any v hv wx
  obtain ⟨r, hrr⟩ : ∃ r, r = rightOf v := ⟨_, rfl⟩
  have hrd : rightOf v = if rightV v = true then v else Va.zero := rfl
  have Hrr := Lib.hid hrr
  have Hrd := Lib.hid hrd
  rw [← hrr]
  clear hrr hrd
  obtain ⟨k, n, s, f⟩ := v
  unfold Va.agg at hr ⊢
  simp only at hr ⊢
  go_enter Tryz.func80, Tryz.ntmps80
  go_wp2_with fail
  refine (hr _).mono ?_
  rintro e w1 ⟨rfl, hk1⟩
  have hbA := hk1.blk ((((Keeps.refl No (w.alloc (.cells #[.int .i64 k, .int .i64 n, .string s, .int .u64 (f : Int)] 32))).alloc _)).blk (heap_alloc_new w _) (not_No _)) (not_No _)
  have hbB := hk1.blk (heap_alloc_new (w.alloc (.cells #[.int .i64 k, .int .i64 n, .string s, .int .u64 (f : Int)] 32)) (.cells #[.int .i64 0, .int .i64 0, .string ByteArray.empty, .int .u64 0] 32)) (not_No _)
  rw [show (w.alloc (.cells #[.int .i64 k, .int .i64 n, .string s, .int .u64 (f : Int)] 32)).heap.size = w.heap.size + 1 from by simp] at hbB
  have hkAB : Keeps No w w1 := (((Keeps.refl No w).alloc _).alloc _).transNo hk1
  cases hv0 : rightV ⟨k, n, s, f⟩
  · have hr0 : r = Va.zero := by rw [Hrr.out, Hrd.out, hv0]; rfl
    subst hr0
    go_wp2_with (refine wpList_storeRow rfl 32 (.tmp 2) (.tmp 6) rfl (w.heap.size + 1) #[.int .i64 0, .int .i64 0, .string ByteArray.empty, .int .u64 0] rfl rfl 32 _ hbB (by kernel_rfl) rfl (by kernel_rfl) ?_)
    intro w2 hb2 hz2 hk2
    have c0 := cell_of_row w2 _ 0 _ _ (0, 0) hb2
    have c1 := cell_of_row w2 _ 1 _ _ (0, 0) hb2
    have c2 := cell_of_row w2 _ 2 _ _ (0, 0) hb2
    have c3 := cell_of_row w2 _ 3 _ _ (0, 0) hb2
    go_wp2_with fail
    (try simp only [Exit.inBlock, Exit.then]); refine bodyPost_ret (results_cell_row rfl _ _ _ _ _ _ _ rfl hb2 Tryz.underlying32 rfl (by kernel_rfl)) rfl ?_
    exact ⟨rfl, hkAB.trans hk2 (fun i hi e => by omega)⟩
  · have hr0 : r = ⟨k, n, s, f⟩ := by rw [Hrr.out, Hrd.out, hv0]; rfl
    subst hr0
    have d0 := cell_of_row w1 _ 0 _ _ (0, 0) hbA
    have d1 := cell_of_row w1 _ 1 _ _ (0, 0) hbA
    have d2 := cell_of_row w1 _ 2 _ _ (0, 0) hbA
    have d3 := cell_of_row w1 _ 3 _ _ (0, 0) hbA
    go_wp2_with (refine wpList_storeRow rfl 32 (.tmp 2) (.tmp 5) rfl (w.heap.size + 1) #[.int .i64 k, .int .i64 n, .string s, .int .u64 (f : Int)] rfl rfl 32 _ hbB (by kernel_rfl) rfl (by kernel_rfl) ?_)
    intro w2 hb2 hz2 hk2
    have c0 := cell_of_row w2 _ 0 _ _ (0, 0) hb2
    have c1 := cell_of_row w2 _ 1 _ _ (0, 0) hb2
    have c2 := cell_of_row w2 _ 2 _ _ (0, 0) hb2
    have c3 := cell_of_row w2 _ 3 _ _ (0, 0) hb2
    go_wp2_with fail
    (try simp only [Exit.inBlock, Exit.then]); refine bodyPost_ret (results_cell_row rfl _ _ _ _ _ _ _ rfl hb2 Tryz.underlying32 rfl (by kernel_rfl)) rfl ?_
    exact ⟨rfl, hkAB.trans hk2 (fun i hi e => by omega)⟩


theorem right_facts {A : Va} (h : rightV A = true) : (A.k = 0 ∧ A = Va.zero) ∨ (A.k = 1 ∧ A.s = ByteArray.empty ∧ A.f = 0) ∨ (A.k = 2 ∧ A.s = ByteArray.empty ∧ A.f = 0) ∨ (A.k = 3 ∧ A.n = 0 ∧ A.f = 0 ∧ A.s.size ≤ 64) ∨ (A.k = 4 ∧ A.n = 0 ∧ A.s = ByteArray.empty ∧ canon A.f = A.f) := by
  unfold rightV at h
  split at h
  · rename_i hk; have := of_decide_eq_true h; exact .inr (.inl ⟨hk, this.1, this.2⟩)
  split at h
  · rename_i hk; have := of_decide_eq_true h; exact .inr (.inr (.inl ⟨hk, this.1, this.2.1⟩))
  split at h
  · rename_i hk; have := of_decide_eq_true h; exact .inr (.inr (.inr (.inl ⟨hk, this.1, this.2.1, this.2.2⟩)))
  split at h
  · rename_i hk; have := of_decide_eq_true h; exact .inr (.inr (.inr (.inr ⟨hk, this.1, this.2.1, this.2.2⟩)))
  · have := of_decide_eq_true h; exact .inl ⟨by rw [this]; rfl, this⟩
theorem cmpS_empty : cmpS ByteArray.empty ByteArray.empty = 0 := rfl
theorem orL_zero (l : List Int) : orL (0 :: l) = orL l := by show (if (0 : Int) = 0 then orL l else 0) = _; rw [if_pos rfl]
theorem orL_one (x : Int) : orL [x] = x := by show (if x = 0 then (0 : Int) else x) = x; split <;> omega
theorem orL_ne (x : Int) (l : List Int) (h : x ≠ 0) : orL (x :: l) = x := by show (if x = 0 then orL l else x) = x; rw [if_neg h]
theorem orL_last0 (x : Int) : orL [x, 0] = x := by
  by_cases h : x = 0
  · subst h; rfl
  · exact orL_ne x _ h
theorem cmp3_ne {a b : Int} (h : a ≠ b) : cmp3 a b ≠ 0 := by unfold cmp3; split; omega; split; omega; omega
/-- Values of one kind that are right: how they compare. -/
theorem vcmp_right {A B : Va} (hA : rightV A = true) (hB : rightV B = true) (hk : A.k = B.k) (h0 : A.k ≠ 0) (h4 : A.k ≠ 4) :
    orL [cmp3 A.n B.n, cmpS A.s B.s] = if A.k = 3 then cmpS A.s B.s else cmp3 A.n B.n := by
  by_cases h3 : A.k = 3
  · rw [if_pos h3]
    rcases right_facts hA with h | h | h | h | h <;> try omega
    rcases right_facts hB with h' | h' | h' | h' | h' <;> try omega
    rw [h.2.1, h'.2.1, cmp3_eq, orL_zero, orL_one]
  · rw [if_neg h3]
    have h1 : A.s = ByteArray.empty := by rcases right_facts hA with h | h | h | h | h <;> first | omega | exact h.2.1
    have h2 : B.s = ByteArray.empty := by rcases right_facts hB with h | h | h | h | h <;> first | omega | exact h.2.1
    rw [h1, h2, cmpS_empty, orL_last0]
theorem ford_self (a : Nat) : forder a a = 0 := by unfold forder; exact cmp3_eq _
theorem vorder_right {A B : Va} (hA : rightV A = true) (hB : rightV B = true) :
    orL [cmp3 A.k B.k, cmp3 A.n B.n, cmpS A.s B.s, forder A.f B.f] = if A.k ≠ B.k then cmp3 A.k B.k else if A.k = 4 then forder A.f B.f else if A.k = 0 then 0 else if A.k = 3 then cmpS A.s B.s else cmp3 A.n B.n := by
  by_cases hk : A.k = B.k
  · rw [if_neg (by simp [hk]), hk, cmp3_eq, orL_zero]
    by_cases h4 : B.k = 4
    · rw [if_pos h4]
      rcases right_facts hA with h | h | h | h | h <;> try omega
      rcases right_facts hB with h' | h' | h' | h' | h' <;> try omega
      rw [h.2.1, h'.2.1, h.2.2.1, h'.2.2.1, cmp3_eq, cmpS_empty, orL_zero, orL_zero, orL_one]
    · rw [if_neg h4]
      have f1 : A.f = 0 := by
        rcases right_facts hA with h | h | h | h | h <;> first | omega | (rw [h.2]; rfl) | exact h.2.2 | exact h.2.2.1
      have f2 : B.f = 0 := by
        rcases right_facts hB with h | h | h | h | h <;> first | omega | (rw [h.2]; rfl) | exact h.2.2 | exact h.2.2.1
      rw [f1, f2, ford_self]
      by_cases h0 : B.k = 0
      · rw [if_pos h0]
        rcases right_facts hA with h | h | h | h | h <;> try omega
        rcases right_facts hB with h' | h' | h' | h' | h' <;> try omega
        rw [h.2, h'.2]
        rfl
      · rw [if_neg h0]
        have e : orL [cmp3 A.n B.n, cmpS A.s B.s, 0] = orL [cmp3 A.n B.n, cmpS A.s B.s] := by
          by_cases hx : cmp3 A.n B.n = 0
          · rw [hx, orL_zero, orL_zero, orL_last0, orL_one]
          · rw [orL_ne _ _ hx, orL_ne _ _ hx]
        rw [e, vcmp_right hA hB hk (by omega) (by omega), hk]
  · rw [if_pos hk, orL_ne _ _ (cmp3_ne hk)]

end Go.Proofs.YthbipcjgpocpaaaGreat
