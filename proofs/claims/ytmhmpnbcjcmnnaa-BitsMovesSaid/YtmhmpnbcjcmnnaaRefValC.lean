/- The walks of the document's answers for values: texts, Right, Compare, Order. -/
import Derived.Test.YtmhmpnbcjcmnnaaRefVal
namespace Go.Proofs.Ytmhmpnbcjcmnnaa
open Go.RowKit
set_option linter.unusedSimpArgs false
set_option linter.unusedVariables false

theorem str_at (s : ByteArray) (i : Nat) (h : i < s.data.toList.length) (wx : World) : (Instr.index 9 (.string s) (.int .i64 (i : Int))).run Try.prog wx = .ok (.int .u8 ((s.data.toList[i]).toNat : Int)) wx := by
  have hs : s.data.toList.length = s.size := Array.length_toList
  rw [run_index_string (P := Try.prog) wx 9 s .i64 (i : Int) Try.underlying9, dif_pos ⟨by omega, by omega⟩]
  rfl
theorem cmpB_drop (a b : List UInt8) (i : Nat) (ha : i < a.length) (hb : i < b.length) : Lib.compareBytes (a.drop i) (b.drop i) = if a[i] = b[i] then Lib.compareBytes (a.drop (i + 1)) (b.drop (i + 1)) else cmp3 (a[i].toNat : Int) (b[i].toNat : Int) := by
  rw [List.drop_eq_getElem_cons ha, List.drop_eq_getElem_cons hb]
  show (if a[i] < b[i] then (-1 : Int) else if b[i] < a[i] then 1 else _) = _
  generalize a[i] = x
  generalize b[i] = y
  have h1 : x < y ↔ x.toNat < y.toNat := UInt8.lt_iff_toNat_lt
  have h2 : y < x ↔ y.toNat < x.toNat := UInt8.lt_iff_toNat_lt
  have h3 : x = y ↔ x.toNat = y.toNat := ⟨fun h => by rw [h], fun h => UInt8.toNat_inj.1 h⟩
  unfold cmp3
  rcases Nat.lt_trichotomy x.toNat y.toNat with h | h | h
  · rw [if_pos (h1.2 h), if_neg (fun e => by have := h3.1 e; omega), if_pos (by omega)]
  · rw [if_neg (fun e => by have := h1.1 e; omega), if_neg (fun e => by have := h2.1 e; omega), if_pos (h3.2 h)]
  · rw [if_neg (fun e => by have := h1.1 e; omega), if_pos (h2.2 h), if_neg (fun e => by have := h3.1 e; omega), if_neg (by omega), if_pos (by omega)]
theorem cmpB_end (a b : List UInt8) (i : Nat) (ha : i ≤ a.length) (hb : i ≤ b.length) (h : i = a.length ∨ i = b.length) : Lib.compareBytes (a.drop i) (b.drop i) = cmp3 (a.length : Int) (b.length : Int) := by
  unfold cmp3
  rcases Nat.lt_trichotomy a.length b.length with h1 | h1 | h1
  · rw [if_pos (by omega), List.drop_of_length_le (by omega), List.drop_eq_getElem_cons (by omega)]; rfl
  · rw [if_neg (by omega), if_neg (by omega), List.drop_of_length_le (by omega), List.drop_of_length_le (by omega)]; rfl
  · rw [if_neg (by omega), if_pos (by omega), List.drop_of_length_le (l := b) (by omega), List.drop_eq_getElem_cons (by omega)]; rfl

set_option maxRecDepth 100000 in
set_option maxHeartbeats 1000000 in
theorem texts_any (a b : ByteArray) (ha : a.size ≤ 140737488355328) (hb : b.size ≤ 140737488355328) (w : World) : Calls Try.prog 81 #[.string a, .string b] w fun e w' => e = .returned (.int .i64 (cmpS a b)) ∧ Keeps No w w' := by
  have hla : a.data.toList.length = a.size := Array.length_toList
  have hlb : b.data.toList.length = b.size := Array.length_toList
  have Hla := Lib.hid hla
  have Hlb := Lib.hid hlb
  obtain ⟨R, hR⟩ : ∃ R, R = cmpS a b := ⟨_, rfl⟩
  rw [← hR]
  unfold cmpS at hR
  have HR := Lib.hid hR
  clear hR hla hlb
  go_enter Try.func81, Try.ntmps81
  go_wp2_with fail
  go_loopg [5] a.size (fun q v5 wr => ∃ i : Nat, v5 = .int .i64 (i : Int) ∧ i ≤ a.size ∧ i ≤ b.size ∧ q = a.size - i ∧ R = Lib.compareBytes (a.data.toList.drop i) (b.data.toList.drop i) ∧ Keeps No w wr)
  case atStart => exact ⟨0, rfl, Nat.zero_le _, Nat.zero_le _, rfl, HR.out, Keeps.refl _ _⟩
  case round =>
    obtain ⟨i, rfl, hia, hib, hq, hr, hkr⟩ := hrel
    have Hq := Lib.hid hq
    have Hr := Lib.hid hr
    clear hq hr HR
    by_cases hgo : i < a.size ∧ i < b.size
    · obtain ⟨h1, h2⟩ := hgo
      have h1' : i < a.data.toList.length := by rw [Hla.out]; exact h1
      have h2' : i < b.data.toList.length := by rw [Hlb.out]; exact h2
      have hxa := str_at a i h1'
      have hxb := str_at b i h2'
      have hd := cmpB_drop a.data.toList b.data.toList i h1' h2'
      have Hd := Lib.hid hd
      clear hd
      generalize a.data.toList[i] = x at hxa Hd
      generalize b.data.toList[i] = y at hxb Hd
      by_cases hxy : x = y
      · subst hxy
        have hne : ((x.toNat : Int) != (x.toNat : Int)) = false := by simp
        go_wp2_with fail
        go_quiet (fail)
        go_wp2_with fail
        go_roundg (a.size - (i + 1))
        case rel => exact ⟨i + 1, by go_num, by omega, by omega, rfl, by rw [Hr.out, Hd.out]; simp, hkr.drewN _⟩
        case measure => have := Hq.out; omega
      · have hne : ((x.toNat : Int) != (y.toNat : Int)) = true := by
          simp
          intro h
          exact hxy (UInt8.toNat_inj.1 (by omega))
        have Hxy := Lib.hid hxy
        clear hxy
        go_wp2_with fail
        go_quiet (fail)
        go_wp2_with fail
        have hx8 := x.toNat_lt
        have hy8 := y.toNat_lt
        have w1 : IntKind.i64.wrap (x.toNat : Int) = (x.toNat : Int) := by rw [IntKind.wrap_i64]; omega
        have w2 : IntKind.i64.wrap (y.toNat : Int) = (y.toNat : Int) := by rw [IntKind.wrap_i64]; omega
        have w3 : wrap64 (x.toNat : Int) = (x.toNat : Int) := by unfold wrap64; omega
        have w4 : wrap64 (y.toNat : Int) = (y.toNat : Int) := by unfold wrap64; omega
        refine wp_region_held_drew (S := fun wx => True) (by kernel_rfl) (trivial) (fun hS => ?_)
        refine tk (i := 0) (oi := ⟨some 25, _, _, _, _, _⟩) (v := ?_) rfl (by kernel_rfl) (fun _ _ _ h => h) (by assumption) (by rfl) (fun w hSw => ?_) ?_; rotate_left; (focus (first | (go_simp; done) | (go_simp; with_reducible rfl))); simp only [Act.put, List.setIfInBounds_toArray, List.set_cons_zero, List.set_cons_succ]
        refine tk (i := 1) (oi := ⟨some 26, _, _, _, _, _⟩) (v := ?_) rfl (by kernel_rfl) (fun _ _ _ h => h) (by assumption) (by rfl) (fun w hSw => ?_) ?_; rotate_left; (focus (first | (go_simp; done) | (go_simp; with_reducible rfl))); simp only [Act.put, List.setIfInBounds_toArray, List.set_cons_zero, List.set_cons_succ]
        refine tk (i := 2) (oi := ⟨some 27, _, _, _, _, _⟩) (v := ?_) rfl (by kernel_rfl) (fun _ _ _ h => h) (by assumption) (by rfl) (fun w hSw => ?_) ?_; rotate_left; (focus (first | (go_simp; done) | (go_simp; with_reducible rfl))); simp only [Act.put, List.setIfInBounds_toArray, List.set_cons_zero, List.set_cons_succ]
        refine tk (i := 3) (oi := ⟨some 28, _, _, _, _, _⟩) (v := ?_) rfl (by kernel_rfl) (fun _ _ _ h => h) (by assumption) (by rfl) (fun w hSw => ?_) ?_; rotate_left; (focus (first | (go_simp; done) | (go_simp; with_reducible rfl))); simp only [Act.put, List.setIfInBounds_toArray, List.set_cons_zero, List.set_cons_succ]
        refine tk (i := 4) (oi := ⟨some 29, _, _, _, _, _⟩) (v := ?_) rfl (by kernel_rfl) (fun _ _ _ h => h) (by assumption) (by rfl) (fun w hSw => ?_) ?_; rotate_left; (focus (first | (go_simp; done) | (go_simp; with_reducible rfl))); simp only [Act.put, List.setIfInBounds_toArray, List.set_cons_zero, List.set_cons_succ]
        refine tk (i := 5) (oi := ⟨some 30, _, _, _, _, _⟩) (v := ?_) rfl (by kernel_rfl) (fun _ _ _ h => h) (by assumption) (by rfl) (fun w hSw => ?_) ?_; rotate_left; (focus (first | (go_simp; done) | (go_simp; with_reducible rfl))); simp only [Act.put, List.setIfInBounds_toArray, List.set_cons_zero, List.set_cons_succ]
        refine tk (i := 6) (oi := ⟨some 31, _, _, _, _, _⟩) (v := ?_) rfl (by kernel_rfl) (fun _ _ _ h => h) (by assumption) (by rfl) (fun w hSw => ?_) ?_; rotate_left; (focus (first | (go_simp; done) | (go_simp; with_reducible rfl))); simp only [Act.put, List.setIfInBounds_toArray, List.set_cons_zero, List.set_cons_succ]
        refine tk (i := 7) (oi := ⟨some 32, _, _, _, _, _⟩) (v := ?_) rfl (by kernel_rfl) (fun _ _ _ h => h) (by assumption) (by rfl) (fun w hSw => ?_) ?_; rotate_left; (focus (first | (go_simp; done) | (go_simp; with_reducible rfl))); simp only [Act.put, List.setIfInBounds_toArray, List.set_cons_zero, List.set_cons_succ]
        refine alone (i := 8) (oi := ⟨some 33, _, _, _, _, _⟩) rfl (by kernel_rfl) (by rfl) (fun K hK => ?_); go_simp
        refine (refnum_any (x.toNat : Int) (y.toNat : Int) _).mono ?_
        rintro e w7 ⟨rfl, rfl⟩
        refine hK.out (fun wx => True) _ _ (fun _ h => h) (trivial) ?_
        clear hK K hS
        intro hS
        refine tk (i := 9) (oi := ⟨some 4, _, _, _, _, _⟩) (v := ?_) rfl (by kernel_rfl) (fun _ _ _ h => h) (by assumption) (by rfl) (fun w hSw => ?_) ?_; rotate_left; (focus (first | (go_simp; done) | (go_simp; with_reducible rfl))); simp only [Act.put, List.setIfInBounds_toArray, List.set_cons_zero, List.set_cons_succ]
        refine wpAnyH_done (by kernel_rfl) ?_ _
        go_wp2_with fail
        go_ret
        exact ⟨ret_num (by rw [Hr.out, Hd.out, if_neg Hxy.out]), (hkr.drewN _).drew⟩
    · have hend : R = cmp3 (a.size : Int) (b.size : Int) := by
        rw [Hr.out, cmpB_end _ _ i (by rw [Hla.out]; exact hia) (by rw [Hlb.out]; exact hib) (by rw [Hla.out, Hlb.out]; omega), Hla.out, Hlb.out]
      have Hend := Lib.hid hend
      clear hend
      have hd1 : i < a.size ∨ ¬ i < a.size := Nat.lt_or_ge _ _ |>.imp id (by omega)
      rcases hd1 with hd1 | hd1
      all_goals
        go_wp2_with fail
        refine (refnum_any (a.size : Int) (b.size : Int) _).mono ?_
        rintro e w7 ⟨rfl, rfl⟩
        go_wp2_with fail
        go_ret
        exact ⟨ret_num Hend.out.symm, hkr⟩

theorem rightV_bools (k n : Int) (s : ByteArray) (f : Nat) : rightV ⟨k, n, s, f⟩ =
    if k = 0 then !decide (n ≠ 0) && !decide (s ≠ ByteArray.empty) && !decide (f ≠ 0)
    else if k = 1 then !decide (s ≠ ByteArray.empty) && !decide (f ≠ 0)
    else if k = 2 then !decide (s ≠ ByteArray.empty) && !decide (f ≠ 0) && (decide (n = 0) || decide (n = 1))
    else if k = 3 then !decide (n ≠ 0) && !decide (f ≠ 0) && decide (s.size ≤ 64)
    else if k = 4 then !decide (n ≠ 0) && !decide (s ≠ ByteArray.empty) && decide (canon f = f)
    else false := by
  unfold rightV
  by_cases h0 : k = 0
  · subst h0; simp [Va.zero, Bool.and_assoc]
  by_cases h1 : k = 1
  · subst h1; simp
  by_cases h2 : k = 2
  · subst h2; simp [Bool.and_assoc]
  by_cases h3 : k = 3
  · subst h3; simp [Bool.and_assoc]
  by_cases h4 : k = 4
  · subst h4; simp [Bool.and_assoc]
  · simp [h0, h1, h2, h3, h4, Va.zero]

set_option maxRecDepth 100000 in
set_option maxHeartbeats 4000000 in
theorem refright_any (v : Va) (hv : v.wf) (w : World) : Calls Try.prog 31 #[v.agg] w fun e w' => e = .returned (.bool (rightV v)) ∧ Keeps No w w' := by
  obtain ⟨k, n, s, f⟩ := v
  have hf := hv.2.2
  simp only at hf
  have hr := rightV_bools k n s f
  have Hr := Lib.hid hr
  clear hr hv
  unfold Va.agg
  simp only
  go_enter Try.func31, Try.ntmps31
  go_upto_region 1 with fail
  have hbV := heap_alloc_new w (.cells #[.int .i64 k, .int .i64 n, .string s, .int .u64 (f : Int)] 37)
  have hkW : Keeps No w (w.alloc (.cells #[.int .i64 k, .int .i64 n, .string s, .int .u64 (f : Int)] 37)) := (Keeps.refl No w).alloc _
  generalize (w.alloc (.cells #[.int .i64 k, .int .i64 n, .string s, .int .u64 (f : Int)] 37)) = W at hbV hkW ⊢
  obtain ⟨a0, a1, a2, a3⟩ := row4 hbV
  go_cut [3, 4, 5] (fun x y z wx => x = .bool (decide (n ≠ 0)) ∧ y = .bool (decide (s ≠ ByteArray.empty)) ∧ z = .bool (decide (f ≠ 0)) ∧ Keeps No W wx)
  case first =>
    have en : (n != 0) = decide (n ≠ 0) := by by_cases h : n = 0 <;> simp [h]
    have ef : ((f : Int) != 0) = decide (f ≠ 0) := by by_cases h : f = 0 <;> simp [h]
    obtain ⟨bn, hbn⟩ : ∃ b, b = decide (n ≠ 0) := ⟨_, rfl⟩
    obtain ⟨bf, hbf⟩ : ∃ b, b = decide (f ≠ 0) := ⟨_, rfl⟩
    rw [← hbn] at en
    rw [← hbf] at ef
    have Hbn := Lib.hid hbn
    have Hbf := Lib.hid hbf
    clear hbn hbf
    by_cases hs : s = ByteArray.empty
    · subst hs
      go_wp2_with fail
      go_quiet (fail)
      go_wp2_with fail
      go_meet
      exact ⟨by rw [Hbn.out], by simp, by rw [Hbf.out], (Keeps.refl No W).drewN _⟩
    · have hsl := toList_nil s hs
      have Hs := Lib.hid hs
      clear hs
      go_wp2_with fail
      go_quiet (fail)
      go_wp2_with fail
      go_meet
      exact ⟨by rw [Hbn.out], by simp [Hs.out, hsl], by rw [Hbf.out], (Keeps.refl No W).drewN _⟩
  case rest =>
    obtain ⟨rfl, rfl, rfl, hkc⟩ := hcut
    clear a0 a1 a2 a3
    obtain ⟨a0, a1, a2, a3⟩ := row4 (hkc.blk hbV (not_No _))
    generalize decide (n ≠ 0) = bn at Hr ⊢
    generalize decide (s ≠ ByteArray.empty) = bs at Hr ⊢
    generalize decide (f ≠ 0) = bf at Hr ⊢
    have hk0c := hkW.transNo hkc
    rcases (show k = 0 ∨ k = 1 ∨ k = 2 ∨ k = 3 ∨ k = 4 ∨ (k ≠ 0 ∧ k ≠ 1 ∧ k ≠ 2 ∧ k ≠ 3 ∧ k ≠ 4) by omega) with rfl | rfl | rfl | rfl | rfl | ⟨h0, h1, h2, h3, h4⟩
    · cases bn <;> cases bs <;> cases bf
      all_goals
        go_wp2_with fail
        go_ret
        exact ⟨ret_bool (by rw [Hr.out]; rfl), hk0c⟩
    · cases bs <;> cases bf
      all_goals
        go_wp2_with fail
        go_ret
        exact ⟨ret_bool (by rw [Hr.out]; rfl), hk0c⟩
    · by_cases hn0 : n = 0
      · have e0 : (n == 0) = true := by simp [hn0]
        have Hn0 := Lib.hid hn0
        clear hn0
        cases bs <;> cases bf
        all_goals
          go_wp2_with fail
          go_ret
          exact ⟨ret_bool (by rw [Hr.out]; simp [Hn0.out]), hk0c⟩
      · have e0 : (n == 0) = false := by simp [hn0]
        by_cases hn1 : n = 1
        · have e1 : (n == 1) = true := by simp [hn1]
          have Hn1 := Lib.hid hn1
          clear hn0 hn1
          cases bs <;> cases bf
          all_goals
            go_wp2_with fail
            go_ret
            exact ⟨ret_bool (by rw [Hr.out]; simp [Hn1.out]), hk0c⟩
        · have e1 : (n == 1) = false := by simp [hn1]
          have Hn0 := Lib.hid hn0
          have Hn1 := Lib.hid hn1
          clear hn0 hn1
          cases bs <;> cases bf
          all_goals
            go_wp2_with fail
            go_ret
            exact ⟨ret_bool (by rw [Hr.out]; simp [Hn0.out, Hn1.out]), hk0c⟩
    · have hd : decide ((s.size : Int) ≤ 64) = decide (s.size ≤ 64) := by apply decide_eq_decide.2; omega
      cases bn <;> cases bf
      all_goals
        go_wp2_with fail
        go_ret
        exact ⟨ret_bool (by rw [Hr.out]; simp), hk0c⟩
    · have hfam := fun wx (hx : Keeps No wc wx) => row4 ((hkc.transNo hx).blk hbV (not_No _))
      cases bn <;> cases bs
      case false.false =>
        obtain ⟨q, hq⟩ : ∃ q, q = canon f := ⟨_, rfl⟩
        have hcan := fun wx => refcanon_any f hf wx
        rw [← hq] at hcan
        have hr2 : rightV ⟨4, n, s, f⟩ = decide (q = f) := by rw [Hr.out, hq]; simp
        have eq2 : ((q : Int) == (f : Int)) = decide (q = f) := by by_cases h : q = f <;> simp [h] <;> omega
        have Hr2 := Lib.hid hr2
        clear hq hr2
        generalize decide (q = f) = bq at eq2 Hr2
        go_wp2_with fail
        refine wp_region_held_drew (S := fun wx => Keeps No wc wx) (by kernel_rfl) ((Keeps.refl _ _).drew) (fun hS => ?_)
        refine tk (i := 0) (oi := ⟨some 71, _, _, _, _, _⟩) (v := ?_) rfl (by kernel_rfl) (fun _ _ _ h => h) (by assumption) (by rfl) (fun w hSw => ?_) ?_; rotate_left; (focus (first | (go_simp; done) | (go_simp; with_reducible rfl))); simp only [Act.put, List.setIfInBounds_toArray, List.set_cons_zero, List.set_cons_succ]
        refine tk (i := 1) (oi := ⟨some 72, _, _, _, _, _⟩) (v := ?_) rfl (by kernel_rfl) (fun _ _ _ h => h) (by assumption) (by rfl) (fun w hSw => ?_) ?_; rotate_left; (focus (first | (go_simp; done) | (go_simp; with_reducible rfl))); simp only [Act.put, List.setIfInBounds_toArray, List.set_cons_zero, List.set_cons_succ]
        refine tk (i := 2) (oi := ⟨some 73, _, _, _, _, _⟩) (v := ?_) rfl (by kernel_rfl) (fun _ _ _ h => h) (by assumption) (by rfl) (fun w hSw => ?_) ?_; rotate_left; (focus (first | (go_simp; done) | (go_simp; with_reducible rfl))); simp only [Act.put, List.setIfInBounds_toArray, List.set_cons_zero, List.set_cons_succ]
        refine tk (i := 3) (oi := ⟨some 74, _, _, _, _, _⟩) (v := ?_) rfl (by kernel_rfl) (fun _ _ _ h => h) (by assumption) (by rfl) (fun w hSw => ?_) ?_; rotate_left; (focus (first | (go_simp; done) | (go_simp; with_reducible rfl))); simp only [Act.put, List.setIfInBounds_toArray, List.set_cons_zero, List.set_cons_succ]
        refine tk (i := 4) (oi := ⟨some 75, _, _, _, _, _⟩) (v := ?_) rfl (by kernel_rfl) (fun _ _ _ h => h) (by assumption) (by rfl) (fun w hSw => ?_) ?_; rotate_left; (focus (first | (go_simp; done) | (go_simp; with_reducible rfl))); simp only [Act.put, List.setIfInBounds_toArray, List.set_cons_zero, List.set_cons_succ]
        refine tk (i := 5) (oi := ⟨some 76, _, _, _, _, _⟩) (v := ?_) rfl (by kernel_rfl) (fun _ _ _ h => h) (by assumption) (by rfl) (fun w hSw => ?_) ?_; rotate_left; (focus (first | (go_simp; done) | (go_simp; with_reducible rfl))); simp only [Act.put, List.setIfInBounds_toArray, List.set_cons_zero, List.set_cons_succ]
        refine tk (i := 6) (oi := ⟨some 77, _, _, _, _, _⟩) (v := ?_) rfl (by kernel_rfl) (fun _ _ _ h => h) (by assumption) (by rfl) (fun w hSw => ?_) ?_; rotate_left; (focus (first | (go_simp; done) | (go_simp; with_reducible rfl))); simp only [Act.put, List.setIfInBounds_toArray, List.set_cons_zero, List.set_cons_succ]
        refine tk (i := 7) (oi := ⟨some 78, _, _, _, _, _⟩) (v := ?_) rfl (by kernel_rfl) (fun _ _ _ h => h) (by assumption) (by rfl) (fun w hSw => ?_) ?_; rotate_left; (focus (first | (go_simp; done) | (go_simp; with_reducible rfl))); simp only [Act.put, List.setIfInBounds_toArray, List.set_cons_zero, List.set_cons_succ]
        refine tk (i := 8) (oi := ⟨some 79, _, _, _, _, _⟩) (v := ?_) rfl (by kernel_rfl) (fun _ _ _ h => h) (by assumption) (by rfl) (fun w hSw => ?_) ?_; rotate_left; (focus (first | (go_simp; done) | (go_simp; with_reducible rfl))); simp only [Act.put, List.setIfInBounds_toArray, List.set_cons_zero, List.set_cons_succ]
        refine tk (i := 10) (oi := ⟨some 81, _, _, _, _, _⟩) (v := ?_) rfl (by kernel_rfl) (fun _ _ _ h => h) (by assumption) (by rfl) (fun w hSw => ?_) ?_; rotate_left; (focus (first | (go_simp; done) | (go_simp; with_reducible rfl))); simp only [Act.put, List.setIfInBounds_toArray, List.set_cons_zero, List.set_cons_succ]
        refine tk (i := 11) (oi := ⟨some 82, _, _, _, _, _⟩) (v := ?_) rfl (by kernel_rfl) (fun _ _ _ h => h) (by assumption) (by rfl) (fun w hSw => ?_) ?_; rotate_left; (focus (first | (go_simp; done) | (go_simp; with_reducible rfl))); simp only [Act.put, List.setIfInBounds_toArray, List.set_cons_zero, List.set_cons_succ]
        refine alone (i := 9) (oi := ⟨some 80, _, _, _, _, _⟩) rfl (by kernel_rfl) (by rfl) (fun K hK => ?_); go_simp
        refine (hcan _).mono ?_
        rintro e w4 ⟨rfl, rfl⟩
        refine hK.out (fun wx => Keeps No wc wx) _ _ (fun _ h => h) (hS) ?_
        clear hK K hS
        intro hS
        refine tk (i := 12) (oi := ⟨some 83, _, _, _, _, _⟩) (v := ?_) rfl (by kernel_rfl) (fun _ _ _ h => h) (by assumption) (by rfl) (fun w hSw => ?_) ?_; rotate_left; (focus (first | (go_simp; done) | (go_simp; with_reducible rfl))); simp only [Act.put, List.setIfInBounds_toArray, List.set_cons_zero, List.set_cons_succ]
        refine tk (i := 13) (oi := ⟨some 84, _, _, _, _, _⟩) (v := ?_) rfl (by kernel_rfl) (fun _ _ _ h => h) (by assumption) (by rfl) (fun w hSw => ?_) ?_; rotate_left; (focus (first | (go_simp; done) | (go_simp; with_reducible rfl))); simp only [Act.put, List.setIfInBounds_toArray, List.set_cons_zero, List.set_cons_succ]
        refine tk (i := 14) (oi := ⟨some 2, _, _, _, _, _⟩) (v := ?_) rfl (by kernel_rfl) (fun _ _ _ h => h) (by assumption) (by rfl) (fun w hSw => ?_) ?_; rotate_left; (focus (first | (go_simp; done) | (go_simp; with_reducible rfl))); simp only [Act.put, List.setIfInBounds_toArray, List.set_cons_zero, List.set_cons_succ]
        refine wpAnyH_done (by kernel_rfl) ?_ _
        clear hS
        go_wp2_with fail
        go_ret
        exact ⟨ret_bool (by rw [Hr2.out]), hk0c.drew⟩
      case false.true =>
        go_wp2_with fail
        refine wp_region_held_drew (S := fun wx => Keeps No wc wx) (by kernel_rfl) ((Keeps.refl _ _).drew) (fun hS => ?_)
        refine tk (i := 0) (oi := ⟨some 71, _, _, _, _, _⟩) (v := ?_) rfl (by kernel_rfl) (fun _ _ _ h => h) (by assumption) (by rfl) (fun w hSw => ?_) ?_; rotate_left; (focus (first | (go_simp; done) | (go_simp; with_reducible rfl))); simp only [Act.put, List.setIfInBounds_toArray, List.set_cons_zero, List.set_cons_succ]
        refine tk (i := 1) (oi := ⟨some 72, _, _, _, _, _⟩) (v := ?_) rfl (by kernel_rfl) (fun _ _ _ h => h) (by assumption) (by rfl) (fun w hSw => ?_) ?_; rotate_left; (focus (first | (go_simp; done) | (go_simp; with_reducible rfl))); simp only [Act.put, List.setIfInBounds_toArray, List.set_cons_zero, List.set_cons_succ]
        refine tk (i := 2) (oi := ⟨some 73, _, _, _, _, _⟩) (v := ?_) rfl (by kernel_rfl) (fun _ _ _ h => h) (by assumption) (by rfl) (fun w hSw => ?_) ?_; rotate_left; (focus (first | (go_simp; done) | (go_simp; with_reducible rfl))); simp only [Act.put, List.setIfInBounds_toArray, List.set_cons_zero, List.set_cons_succ]
        refine tk (i := 3) (oi := ⟨some 74, _, _, _, _, _⟩) (v := ?_) rfl (by kernel_rfl) (fun _ _ _ h => h) (by assumption) (by rfl) (fun w hSw => ?_) ?_; rotate_left; (focus (first | (go_simp; done) | (go_simp; with_reducible rfl))); simp only [Act.put, List.setIfInBounds_toArray, List.set_cons_zero, List.set_cons_succ]
        refine tk (i := 4) (oi := ⟨some 75, _, _, _, _, _⟩) (v := ?_) rfl (by kernel_rfl) (fun _ _ _ h => h) (by assumption) (by rfl) (fun w hSw => ?_) ?_; rotate_left; (focus (first | (go_simp; done) | (go_simp; with_reducible rfl))); simp only [Act.put, List.setIfInBounds_toArray, List.set_cons_zero, List.set_cons_succ]
        refine tk (i := 5) (oi := ⟨some 76, _, _, _, _, _⟩) (v := ?_) rfl (by kernel_rfl) (fun _ _ _ h => h) (by assumption) (by rfl) (fun w hSw => ?_) ?_; rotate_left; (focus (first | (go_simp; done) | (go_simp; with_reducible rfl))); simp only [Act.put, List.setIfInBounds_toArray, List.set_cons_zero, List.set_cons_succ]
        refine tk (i := 6) (oi := ⟨some 77, _, _, _, _, _⟩) (v := ?_) rfl (by kernel_rfl) (fun _ _ _ h => h) (by assumption) (by rfl) (fun w hSw => ?_) ?_; rotate_left; (focus (first | (go_simp; done) | (go_simp; with_reducible rfl))); simp only [Act.put, List.setIfInBounds_toArray, List.set_cons_zero, List.set_cons_succ]
        refine tkNot (i := 7) (oi := ⟨some 78, _, _, _, _, _⟩) rfl (by kernel_rfl) (fun _ _ _ h => h) (by assumption) (by rfl) ?_; simp only [Act.put, List.setIfInBounds_toArray, List.set_cons_zero, List.set_cons_succ]
        refine tkNot (i := 8) (oi := ⟨some 79, _, _, _, _, _⟩) rfl (by kernel_rfl) (fun _ _ _ h => h) (by assumption) (by rfl) ?_; simp only [Act.put, List.setIfInBounds_toArray, List.set_cons_zero, List.set_cons_succ]
        refine tkNot (i := 9) (oi := ⟨some 80, _, _, _, _, _⟩) rfl (by kernel_rfl) (fun _ _ _ h => h) (by assumption) (by rfl) ?_; simp only [Act.put, List.setIfInBounds_toArray, List.set_cons_zero, List.set_cons_succ]
        refine tkNot (i := 10) (oi := ⟨some 81, _, _, _, _, _⟩) rfl (by kernel_rfl) (fun _ _ _ h => h) (by assumption) (by rfl) ?_; simp only [Act.put, List.setIfInBounds_toArray, List.set_cons_zero, List.set_cons_succ]
        refine tkNot (i := 11) (oi := ⟨some 82, _, _, _, _, _⟩) rfl (by kernel_rfl) (fun _ _ _ h => h) (by assumption) (by rfl) ?_; simp only [Act.put, List.setIfInBounds_toArray, List.set_cons_zero, List.set_cons_succ]
        refine tkNot (i := 12) (oi := ⟨some 83, _, _, _, _, _⟩) rfl (by kernel_rfl) (fun _ _ _ h => h) (by assumption) (by rfl) ?_; simp only [Act.put, List.setIfInBounds_toArray, List.set_cons_zero, List.set_cons_succ]
        refine tk (i := 13) (oi := ⟨some 84, _, _, _, _, _⟩) (v := ?_) rfl (by kernel_rfl) (fun _ _ _ h => h) (by assumption) (by rfl) (fun w hSw => ?_) ?_; rotate_left; (focus (first | (go_simp; done) | (go_simp; with_reducible rfl))); simp only [Act.put, List.setIfInBounds_toArray, List.set_cons_zero, List.set_cons_succ]
        refine tk (i := 14) (oi := ⟨some 2, _, _, _, _, _⟩) (v := ?_) rfl (by kernel_rfl) (fun _ _ _ h => h) (by assumption) (by rfl) (fun w hSw => ?_) ?_; rotate_left; (focus (first | (go_simp; done) | (go_simp; with_reducible rfl))); simp only [Act.put, List.setIfInBounds_toArray, List.set_cons_zero, List.set_cons_succ]
        refine wpAnyH_done (by kernel_rfl) ?_ _
        clear hS
        go_wp2_with fail
        go_ret
        exact ⟨ret_bool (by rw [Hr.out]; simp), hk0c.drew⟩
      all_goals
        go_wp2_with fail
        refine wp_region_held_drew (S := fun wx => Keeps No wc wx) (by kernel_rfl) ((Keeps.refl _ _).drew) (fun hS => ?_)
        refine tk (i := 0) (oi := ⟨some 71, _, _, _, _, _⟩) (v := ?_) rfl (by kernel_rfl) (fun _ _ _ h => h) (by assumption) (by rfl) (fun w hSw => ?_) ?_; rotate_left; (focus (first | (go_simp; done) | (go_simp; with_reducible rfl))); simp only [Act.put, List.setIfInBounds_toArray, List.set_cons_zero, List.set_cons_succ]
        refine tk (i := 1) (oi := ⟨some 72, _, _, _, _, _⟩) (v := ?_) rfl (by kernel_rfl) (fun _ _ _ h => h) (by assumption) (by rfl) (fun w hSw => ?_) ?_; rotate_left; (focus (first | (go_simp; done) | (go_simp; with_reducible rfl))); simp only [Act.put, List.setIfInBounds_toArray, List.set_cons_zero, List.set_cons_succ]
        refine tk (i := 2) (oi := ⟨some 73, _, _, _, _, _⟩) (v := ?_) rfl (by kernel_rfl) (fun _ _ _ h => h) (by assumption) (by rfl) (fun w hSw => ?_) ?_; rotate_left; (focus (first | (go_simp; done) | (go_simp; with_reducible rfl))); simp only [Act.put, List.setIfInBounds_toArray, List.set_cons_zero, List.set_cons_succ]
        refine tkNot (i := 3) (oi := ⟨some 74, _, _, _, _, _⟩) rfl (by kernel_rfl) (fun _ _ _ h => h) (by assumption) (by rfl) ?_; simp only [Act.put, List.setIfInBounds_toArray, List.set_cons_zero, List.set_cons_succ]
        refine tkNot (i := 4) (oi := ⟨some 75, _, _, _, _, _⟩) rfl (by kernel_rfl) (fun _ _ _ h => h) (by assumption) (by rfl) ?_; simp only [Act.put, List.setIfInBounds_toArray, List.set_cons_zero, List.set_cons_succ]
        refine tk (i := 5) (oi := ⟨some 76, _, _, _, _, _⟩) (v := ?_) rfl (by kernel_rfl) (fun _ _ _ h => h) (by assumption) (by rfl) (fun w hSw => ?_) ?_; rotate_left; (focus (first | (go_simp; done) | (go_simp; with_reducible rfl))); simp only [Act.put, List.setIfInBounds_toArray, List.set_cons_zero, List.set_cons_succ]
        refine tk (i := 6) (oi := ⟨some 77, _, _, _, _, _⟩) (v := ?_) rfl (by kernel_rfl) (fun _ _ _ h => h) (by assumption) (by rfl) (fun w hSw => ?_) ?_; rotate_left; (focus (first | (go_simp; done) | (go_simp; with_reducible rfl))); simp only [Act.put, List.setIfInBounds_toArray, List.set_cons_zero, List.set_cons_succ]
        refine tkNot (i := 7) (oi := ⟨some 78, _, _, _, _, _⟩) rfl (by kernel_rfl) (fun _ _ _ h => h) (by assumption) (by rfl) ?_; simp only [Act.put, List.setIfInBounds_toArray, List.set_cons_zero, List.set_cons_succ]
        refine tkNot (i := 8) (oi := ⟨some 79, _, _, _, _, _⟩) rfl (by kernel_rfl) (fun _ _ _ h => h) (by assumption) (by rfl) ?_; simp only [Act.put, List.setIfInBounds_toArray, List.set_cons_zero, List.set_cons_succ]
        refine tkNot (i := 9) (oi := ⟨some 80, _, _, _, _, _⟩) rfl (by kernel_rfl) (fun _ _ _ h => h) (by assumption) (by rfl) ?_; simp only [Act.put, List.setIfInBounds_toArray, List.set_cons_zero, List.set_cons_succ]
        refine tkNot (i := 10) (oi := ⟨some 81, _, _, _, _, _⟩) rfl (by kernel_rfl) (fun _ _ _ h => h) (by assumption) (by rfl) ?_; simp only [Act.put, List.setIfInBounds_toArray, List.set_cons_zero, List.set_cons_succ]
        refine tkNot (i := 11) (oi := ⟨some 82, _, _, _, _, _⟩) rfl (by kernel_rfl) (fun _ _ _ h => h) (by assumption) (by rfl) ?_; simp only [Act.put, List.setIfInBounds_toArray, List.set_cons_zero, List.set_cons_succ]
        refine tkNot (i := 12) (oi := ⟨some 83, _, _, _, _, _⟩) rfl (by kernel_rfl) (fun _ _ _ h => h) (by assumption) (by rfl) ?_; simp only [Act.put, List.setIfInBounds_toArray, List.set_cons_zero, List.set_cons_succ]
        refine tk (i := 13) (oi := ⟨some 84, _, _, _, _, _⟩) (v := ?_) rfl (by kernel_rfl) (fun _ _ _ h => h) (by assumption) (by rfl) (fun w hSw => ?_) ?_; rotate_left; (focus (first | (go_simp; done) | (go_simp; with_reducible rfl))); simp only [Act.put, List.setIfInBounds_toArray, List.set_cons_zero, List.set_cons_succ]
        refine tk (i := 14) (oi := ⟨some 2, _, _, _, _, _⟩) (v := ?_) rfl (by kernel_rfl) (fun _ _ _ h => h) (by assumption) (by rfl) (fun w hSw => ?_) ?_; rotate_left; (focus (first | (go_simp; done) | (go_simp; with_reducible rfl))); simp only [Act.put, List.setIfInBounds_toArray, List.set_cons_zero, List.set_cons_succ]
        refine wpAnyH_done (by kernel_rfl) ?_ _
        clear hS
        go_wp2_with fail
        go_ret
        exact ⟨ret_bool (by rw [Hr.out]; simp), hk0c.drew⟩
    · have e0 : (k == 0) = false := by simp [h0]
      have e1 : (k == 1) = false := by simp [h1]
      have e2 : (k == 2) = false := by simp [h2]
      have e3 : (k == 3) = false := by simp [h3]
      have e4 : (k == 4) = false := by simp [h4]
      have hr2 : rightV ⟨k, n, s, f⟩ = false := by rw [Hr.out]; simp [h0, h1, h2, h3, h4]
      have Hr2 := Lib.hid hr2
      clear hr2 h0 h1 h2 h3 h4
      go_wp2_with fail
      go_ret
      exact ⟨ret_bool (by rw [Hr2.out]), hk0c⟩

end Go.Proofs.Ytmhmpnbcjcmnnaa
