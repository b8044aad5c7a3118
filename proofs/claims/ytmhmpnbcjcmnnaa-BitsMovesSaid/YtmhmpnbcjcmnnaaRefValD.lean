/- The walks of the document's answers for values: Compare, Order. -/
import Derived.Test.YtmhmpnbcjcmnnaaRefValC
namespace Go.Proofs.Ytmhmpnbcjcmnnaa
open Go.RowKit
set_option linter.unusedSimpArgs false
set_option linter.unusedVariables false

set_option maxRecDepth 100000 in
theorem refrightv_any (v : Va) (hv : v.wf) (w : World) : Calls Try.prog 72 #[v.agg] w fun e w' => e = .returned (rightOf v).agg ∧ Keeps No w w' := by
  have hr := fun wx => refright_any v hv wx
  obtain ⟨r, hrr⟩ : ∃ r, r = rightOf v := ⟨_, rfl⟩
  have hrd : rightOf v = if rightV v = true then v else Va.zero := rfl
  have Hrr := Lib.hid hrr
  have Hrd := Lib.hid hrd
  rw [← hrr]
  clear hrr hrd
  obtain ⟨k, n, s, f⟩ := v
  unfold Va.agg at hr ⊢
  simp only at hr ⊢
  go_enter Try.func72, Try.ntmps72
  go_wp2_with fail
  refine (hr _).mono ?_
  rintro e w1 ⟨rfl, hk1⟩
  have hbA := hk1.blk ((((Keeps.refl No (w.alloc (.cells #[.int .i64 k, .int .i64 n, .string s, .int .u64 (f : Int)] 37))).alloc _)).blk (heap_alloc_new w _) (not_No _)) (not_No _)
  have hbB := hk1.blk (heap_alloc_new (w.alloc (.cells #[.int .i64 k, .int .i64 n, .string s, .int .u64 (f : Int)] 37)) (.cells #[.int .i64 0, .int .i64 0, .string ByteArray.empty, .int .u64 0] 37)) (not_No _)
  rw [show (w.alloc (.cells #[.int .i64 k, .int .i64 n, .string s, .int .u64 (f : Int)] 37)).heap.size = w.heap.size + 1 from by simp] at hbB
  have hkAB : Keeps No w w1 := (((Keeps.refl No w).alloc _).alloc _).transNo hk1
  cases hv0 : rightV ⟨k, n, s, f⟩
  · have hr0 : r = Va.zero := by rw [Hrr.out, Hrd.out, hv0]; rfl
    subst hr0
    go_wp2_with (refine wpList_storeRow rfl 37 (.tmp 2) (.tmp 6) rfl (w.heap.size + 1) #[.int .i64 0, .int .i64 0, .string ByteArray.empty, .int .u64 0] rfl rfl 37 _ hbB (by kernel_rfl) rfl (by kernel_rfl) ?_)
    intro w2 hb2 hz2 hk2
    have c0 := cell_of_row w2 _ 0 _ _ (0, 0) hb2
    have c1 := cell_of_row w2 _ 1 _ _ (0, 0) hb2
    have c2 := cell_of_row w2 _ 2 _ _ (0, 0) hb2
    have c3 := cell_of_row w2 _ 3 _ _ (0, 0) hb2
    go_wp2_with fail
    (try simp only [Exit.inBlock, Exit.then]); refine bodyPost_ret (results_cell_row rfl _ _ _ _ _ _ _ rfl hb2 Try.underlying37 rfl (by kernel_rfl)) rfl ?_
    exact ⟨rfl, hkAB.trans hk2 (fun i hi e => by omega)⟩
  · have hr0 : r = ⟨k, n, s, f⟩ := by rw [Hrr.out, Hrd.out, hv0]; rfl
    subst hr0
    have d0 := cell_of_row w1 _ 0 _ _ (0, 0) hbA
    have d1 := cell_of_row w1 _ 1 _ _ (0, 0) hbA
    have d2 := cell_of_row w1 _ 2 _ _ (0, 0) hbA
    have d3 := cell_of_row w1 _ 3 _ _ (0, 0) hbA
    go_wp2_with (refine wpList_storeRow rfl 37 (.tmp 2) (.tmp 5) rfl (w.heap.size + 1) #[.int .i64 k, .int .i64 n, .string s, .int .u64 (f : Int)] rfl rfl 37 _ hbB (by kernel_rfl) rfl (by kernel_rfl) ?_)
    intro w2 hb2 hz2 hk2
    have c0 := cell_of_row w2 _ 0 _ _ (0, 0) hb2
    have c1 := cell_of_row w2 _ 1 _ _ (0, 0) hb2
    have c2 := cell_of_row w2 _ 2 _ _ (0, 0) hb2
    have c3 := cell_of_row w2 _ 3 _ _ (0, 0) hb2
    go_wp2_with fail
    (try simp only [Exit.inBlock, Exit.then]); refine bodyPost_ret (results_cell_row rfl _ _ _ _ _ _ _ rfl hb2 Try.underlying37 rfl (by kernel_rfl)) rfl ?_
    exact ⟨rfl, hkAB.trans hk2 (fun i hi e => by omega)⟩


theorem right_facts {A : Va} (h : rightV A = true) : (A.k = 0 ∧ A = Va.zero) ∨ (A.k = 1 ∧ A.s = ByteArray.empty ∧ A.f = 0) ∨ (A.k = 2 ∧ A.s = ByteArray.empty ∧ A.f = 0) ∨ (A.k = 3 ∧ A.n = 0 ∧ A.f = 0 ∧ A.s.size ≤ 64) ∨ (A.k = 4 ∧ A.n = 0 ∧ A.s = ByteArray.empty ∧ canon A.f = A.f) := by
  unfold rightV at h
  split at h
  · rename_i hk; have := of_decide_eq_true h; exact .inr (.inl ⟨hk, this.1, this.2⟩)
  split at h
  · rename_i hk; have := of_decide_eq_true h; exact .inr (.inr (.inl ⟨hk, this.1, this.2.1⟩))
  split at h
  · rename_i hk; have := of_decide_eq_true h; exact .inr (.inr (.inr (.inl ⟨hk, this.1, this.2.1, this.2.2⟩)))
  split at h
  · rename_i hk; have := of_decide_eq_true h; exact .inr (.inr (.inr (.inr ⟨hk, this.1, this.2.1, this.2.2⟩)))
  · have := of_decide_eq_true h; exact .inl ⟨by rw [this]; rfl, this⟩
theorem cmpS_empty : cmpS ByteArray.empty ByteArray.empty = 0 := rfl
theorem orL_zero (l : List Int) : orL (0 :: l) = orL l := by show (if (0 : Int) = 0 then orL l else 0) = _; rw [if_pos rfl]
theorem orL_one (x : Int) : orL [x] = x := by show (if x = 0 then (0 : Int) else x) = x; split <;> omega
theorem orL_ne (x : Int) (l : List Int) (h : x ≠ 0) : orL (x :: l) = x := by show (if x = 0 then orL l else x) = x; rw [if_neg h]
theorem orL_last0 (x : Int) : orL [x, 0] = x := by
  by_cases h : x = 0
  · subst h; rfl
  · exact orL_ne x _ h
theorem cmp3_ne {a b : Int} (h : a ≠ b) : cmp3 a b ≠ 0 := by unfold cmp3; split; omega; split; omega; omega
/-- Values of one kind that are right: how they compare. -/
theorem vcmp_right {A B : Va} (hA : rightV A = true) (hB : rightV B = true) (hk : A.k = B.k) (h0 : A.k ≠ 0) (h4 : A.k ≠ 4) :
    orL [cmp3 A.n B.n, cmpS A.s B.s] = if A.k = 3 then cmpS A.s B.s else cmp3 A.n B.n := by
  by_cases h3 : A.k = 3
  · rw [if_pos h3]
    rcases right_facts hA with h | h | h | h | h <;> try omega
    rcases right_facts hB with h' | h' | h' | h' | h' <;> try omega
    rw [h.2.1, h'.2.1, cmp3_eq, orL_zero, orL_one]
  · rw [if_neg h3]
    have h1 : A.s = ByteArray.empty := by rcases right_facts hA with h | h | h | h | h <;> first | omega | exact h.2.1
    have h2 : B.s = ByteArray.empty := by rcases right_facts hB with h | h | h | h | h <;> first | omega | exact h.2.1
    rw [h1, h2, cmpS_empty, orL_last0]
theorem ford_self (a : Nat) : forder a a = 0 := by unfold forder; exact cmp3_eq _
theorem vorder_right {A B : Va} (hA : rightV A = true) (hB : rightV B = true) :
    orL [cmp3 A.k B.k, cmp3 A.n B.n, cmpS A.s B.s, forder A.f B.f] = if A.k ≠ B.k then cmp3 A.k B.k else if A.k = 4 then forder A.f B.f else if A.k = 0 then 0 else if A.k = 3 then cmpS A.s B.s else cmp3 A.n B.n := by
  by_cases hk : A.k = B.k
  · rw [if_neg (by simp [hk]), hk, cmp3_eq, orL_zero]
    by_cases h4 : B.k = 4
    · rw [if_pos h4]
      rcases right_facts hA with h | h | h | h | h <;> try omega
      rcases right_facts hB with h' | h' | h' | h' | h' <;> try omega
      rw [h.2.1, h'.2.1, h.2.2.1, h'.2.2.1, cmp3_eq, cmpS_empty, orL_zero, orL_zero, orL_one]
    · rw [if_neg h4]
      have f1 : A.f = 0 := by
        rcases right_facts hA with h | h | h | h | h <;> first | omega | (rw [h.2]; rfl) | exact h.2.2 | exact h.2.2.1
      have f2 : B.f = 0 := by
        rcases right_facts hB with h | h | h | h | h <;> first | omega | (rw [h.2]; rfl) | exact h.2.2 | exact h.2.2.1
      rw [f1, f2, ford_self]
      by_cases h0 : B.k = 0
      · rw [if_pos h0]
        rcases right_facts hA with h | h | h | h | h <;> try omega
        rcases right_facts hB with h' | h' | h' | h' | h' <;> try omega
        rw [h.2, h'.2]
        rfl
      · rw [if_neg h0]
        have e : orL [cmp3 A.n B.n, cmpS A.s B.s, 0] = orL [cmp3 A.n B.n, cmpS A.s B.s] := by
          by_cases hx : cmp3 A.n B.n = 0
          · rw [hx, orL_zero, orL_zero, orL_last0, orL_one]
          · rw [orL_ne _ _ hx, orL_ne _ _ hx]
        rw [e, vcmp_right hA hB hk (by omega) (by omega), hk]
  · rw [if_pos hk, orL_ne _ _ (cmp3_ne hk)]

set_option maxHeartbeats 2000000 in
set_option maxRecDepth 100000 in
theorem refvcmp_any (a b : Va) (ha : a.wf) (hb : b.wf) (hsa : a.s.size ≤ 140737488355328) (hsb : b.s.size ≤ 140737488355328) (w : World) : Calls Try.prog 53 #[a.agg, b.agg] w fun e w' => e = .returned (.tuple #[.int .i64 (vcmp a b).1, .bool (vcmp a b).2]) ∧ Keeps No w w' := by
  have hra := fun wx => refrightv_any a ha wx
  have hrb := fun wx => refrightv_any b hb wx
  have hA := rightOf_wf a ha
  have hB := rightOf_wf b hb
  have hrA := rightOf_right a
  have hrB := rightOf_right b
  have hsA : (rightOf a).s.size ≤ 140737488355328 := by unfold rightOf; split; exact hsa; exact Nat.zero_le _
  have hsB : (rightOf b).s.size ≤ 140737488355328 := by unfold rightOf; split; exact hsb; exact Nat.zero_le _
  obtain ⟨R, hR⟩ : ∃ R, R = vcmp a b := ⟨_, rfl⟩
  rw [← hR]
  unfold vcmp at hR
  generalize rightOf a = A at hra hA hR hrA hsA
  generalize rightOf b = B at hrb hB hR hrB hsB
  have HR := Lib.hid hR
  have HrA := Lib.hid hrA
  have HrB := Lib.hid hrB
  clear hR hrA hrB
  obtain ⟨ka, na, sa, fa⟩ := a
  obtain ⟨kb, nb, sb, fb⟩ := b
  unfold Va.agg at hra hrb ⊢
  simp only at hra hrb ⊢
  go_enter Try.func53, Try.ntmps53
  go_upto_region 1 with fail
  have hbA1 := ((Keeps.refl No (w.alloc (.cells #[.int .i64 ka, .int .i64 na, .string sa, .int .u64 (fa : Int)] 37))).alloc (.cells #[.int .i64 kb, .int .i64 nb, .string sb, .int .u64 (fb : Int)] 37)).blk (heap_alloc_new w (.cells #[.int .i64 ka, .int .i64 na, .string sa, .int .u64 (fa : Int)] 37)) (not_No _)
  have hbB1 := heap_alloc_new (w.alloc (.cells #[.int .i64 ka, .int .i64 na, .string sa, .int .u64 (fa : Int)] 37)) (.cells #[.int .i64 kb, .int .i64 nb, .string sb, .int .u64 (fb : Int)] 37)
  rw [show (w.alloc (.cells #[.int .i64 ka, .int .i64 na, .string sa, .int .u64 (fa : Int)] 37)).heap.size = w.heap.size + 1 from by simp] at hbB1
  have hkW : Keeps No w ((w.alloc (.cells #[.int .i64 ka, .int .i64 na, .string sa, .int .u64 (fa : Int)] 37)).alloc (.cells #[.int .i64 kb, .int .i64 nb, .string sb, .int .u64 (fb : Int)] 37)) := ((Keeps.refl No w).alloc _).alloc _
  generalize ((w.alloc (.cells #[.int .i64 ka, .int .i64 na, .string sa, .int .u64 (fa : Int)] 37)).alloc (.cells #[.int .i64 kb, .int .i64 nb, .string sb, .int .u64 (fb : Int)] 37)) = W at hbA1 hbB1 hkW ⊢
  obtain ⟨a0, a1, a2, a3⟩ := row4 hbA1
  go_wp2_with fail
  refine (hra _).mono ?_
  rintro e w3 ⟨rfl, hk3⟩
  obtain ⟨b0, b1, b2, b3⟩ := row4 (hk3.blk hbB1 (not_No _))
  obtain ⟨r0, r1, r2, r3⟩ := row4 (hk3.blk hbA1 (not_No _))
  go_upto_region 2 with fail
  have hbX := heap_alloc_new w3 (.cells #[.int .i64 A.k, .int .i64 A.n, .string A.s, .int .u64 (A.f : Int)] 37)
  have hkX : Keeps No w3 (w3.alloc (.cells #[.int .i64 A.k, .int .i64 A.n, .string A.s, .int .u64 (A.f : Int)] 37)) := (Keeps.refl No w3).alloc _
  generalize (w3.alloc (.cells #[.int .i64 A.k, .int .i64 A.n, .string A.s, .int .u64 (A.f : Int)] 37)) = w4 at hbX hkX ⊢
  obtain ⟨b0, b1, b2, b3⟩ := row4 ((hk3.transNo hkX).blk hbB1 (not_No _))
  go_wp2_with fail
  refine (hrb _).mono ?_
  rintro e w5 ⟨rfl, hk5⟩
  go_upto_region 3 with fail
  have hbX5 := ((hk5.alloc (.cells #[.int .i64 B.k, .int .i64 B.n, .string B.s, .int .u64 (B.f : Int)] 37))).blk hbX (not_No _)
  have hbY5 := heap_alloc_new w5 (.cells #[.int .i64 B.k, .int .i64 B.n, .string B.s, .int .u64 (B.f : Int)] 37)
  have hk06 : Keeps No w (w5.alloc (.cells #[.int .i64 B.k, .int .i64 B.n, .string B.s, .int .u64 (B.f : Int)] 37)) := (((hkW.transNo hk3).transNo hkX).transNo hk5).alloc _
  generalize (w5.alloc (.cells #[.int .i64 B.k, .int .i64 B.n, .string B.s, .int .u64 (B.f : Int)] 37)) = w6 at hbX5 hbY5 hk06 ⊢
  obtain ⟨c0, c1, c2, c3⟩ := row4 hbX5
  obtain ⟨d0, d1, d2, d3⟩ := row4 hbY5
  clear a0 a1 a2 a3 b0 b1 b2 b3 r0 r1 r2 r3 hra hrb hbA1 hbB1 hkW hk3 hkX hk5 hbX
  by_cases hk0 : A.k = 0
  · have hr : R = (0, false) := by rw [HR.out, if_pos (.inr hk0)]
    have e1 : (A.k == 0) = true := by simp [hk0]
    have Hr := Lib.hid hr
    clear hk0 hr
    go_wp2_with fail
    go_ret2
    exact ⟨by rw [Hr.out]; rfl, hk06⟩
  have e1 : (A.k == 0) = false := by simp [hk0]
  by_cases hkk : A.k = B.k
  case neg =>
    have e2 : (A.k != B.k) = true := by simp [hkk]
    have hr : R = (0, false) := by rw [HR.out, if_pos (.inl hkk)]
    have Hr := Lib.hid hr
    clear hk0 hkk hr
    go_wp2_with fail
    go_ret2
    exact ⟨by rw [Hr.out]; rfl, hk06⟩
  have e2 : (A.k != B.k) = false := by simp [hkk]
  have hr1 := HR.out
  rw [if_neg (by simp [hkk]; omega)] at hr1
  by_cases hk4 : A.k = 4
  · rw [if_pos hk4] at hr1
    have e3 : (A.k == 4) = true := by simp [hk4]
    have Hr := Lib.hid hr1
    clear hk0 hkk hk4 hr1
    go_wp2_with fail
    refine (refcmp_any A.f B.f hA.2.2 hB.2.2 _).mono ?_
    rintro e w7 ⟨rfl, rfl⟩
    go_wp2_with fail
    go_ret2
    exact ⟨by rw [Hr.out]; rfl, hk06⟩
  have e3 : (A.k == 4) = false := by simp [hk4]
  rw [if_neg hk4, vcmp_right HrA.out HrB.out hkk hk0 hk4] at hr1
  by_cases hk3 : A.k = 3
  · rw [if_pos hk3] at hr1
    have e4 : (A.k == 3) = true := by simp [hk3]
    have Hr := Lib.hid hr1
    clear hk0 hkk hk4 hk3 hr1
    go_wp2_with fail
    refine (texts_any A.s B.s hsA hsB _).mono ?_
    rintro e w7 ⟨rfl, hk7⟩
    go_wp2_with fail
    go_ret2
    exact ⟨by rw [Hr.out]; rfl, hk06.transNo hk7⟩
  · rw [if_neg hk3] at hr1
    have e4 : (A.k == 3) = false := by simp [hk3]
    have Hr := Lib.hid hr1
    clear hk0 hkk hk4 hk3 hr1
    go_wp2_with fail
    refine (refnum_any A.n B.n _).mono ?_
    rintro e w7 ⟨rfl, rfl⟩
    go_wp2_with fail
    go_ret2
    exact ⟨by rw [Hr.out]; rfl, hk06⟩

set_option maxHeartbeats 2000000 in
set_option maxRecDepth 100000 in
theorem refvorder_any (a b : Va) (ha : a.wf) (hb : b.wf) (hsa : a.s.size ≤ 140737488355328) (hsb : b.s.size ≤ 140737488355328) (w : World) : Calls Try.prog 50 #[a.agg, b.agg] w fun e w' => e = .returned (.int .i64 (vorder a b)) ∧ Keeps No w w' := by
  have hra := fun wx => refrightv_any a ha wx
  have hrb := fun wx => refrightv_any b hb wx
  have hA := rightOf_wf a ha
  have hB := rightOf_wf b hb
  have hrA := rightOf_right a
  have hrB := rightOf_right b
  have hsA : (rightOf a).s.size ≤ 140737488355328 := by unfold rightOf; split; exact hsa; exact Nat.zero_le _
  have hsB : (rightOf b).s.size ≤ 140737488355328 := by unfold rightOf; split; exact hsb; exact Nat.zero_le _
  obtain ⟨R, hR⟩ : ∃ R, R = vorder a b := ⟨_, rfl⟩
  rw [← hR]
  unfold vorder at hR
  generalize rightOf a = A at hra hA hR hrA hsA
  generalize rightOf b = B at hrb hB hR hrB hsB
  have HR := Lib.hid hR
  have HrA := Lib.hid hrA
  have HrB := Lib.hid hrB
  clear hR hrA hrB
  obtain ⟨ka, na, sa, fa⟩ := a
  obtain ⟨kb, nb, sb, fb⟩ := b
  unfold Va.agg at hra hrb ⊢
  simp only at hra hrb ⊢
  go_enter Try.func50, Try.ntmps50
  go_upto_region 1 with fail
  have hbA1 := ((Keeps.refl No (w.alloc (.cells #[.int .i64 ka, .int .i64 na, .string sa, .int .u64 (fa : Int)] 37))).alloc (.cells #[.int .i64 kb, .int .i64 nb, .string sb, .int .u64 (fb : Int)] 37)).blk (heap_alloc_new w (.cells #[.int .i64 ka, .int .i64 na, .string sa, .int .u64 (fa : Int)] 37)) (not_No _)
  have hbB1 := heap_alloc_new (w.alloc (.cells #[.int .i64 ka, .int .i64 na, .string sa, .int .u64 (fa : Int)] 37)) (.cells #[.int .i64 kb, .int .i64 nb, .string sb, .int .u64 (fb : Int)] 37)
  rw [show (w.alloc (.cells #[.int .i64 ka, .int .i64 na, .string sa, .int .u64 (fa : Int)] 37)).heap.size = w.heap.size + 1 from by simp] at hbB1
  have hkW : Keeps No w ((w.alloc (.cells #[.int .i64 ka, .int .i64 na, .string sa, .int .u64 (fa : Int)] 37)).alloc (.cells #[.int .i64 kb, .int .i64 nb, .string sb, .int .u64 (fb : Int)] 37)) := ((Keeps.refl No w).alloc _).alloc _
  generalize ((w.alloc (.cells #[.int .i64 ka, .int .i64 na, .string sa, .int .u64 (fa : Int)] 37)).alloc (.cells #[.int .i64 kb, .int .i64 nb, .string sb, .int .u64 (fb : Int)] 37)) = W at hbA1 hbB1 hkW ⊢
  obtain ⟨a0, a1, a2, a3⟩ := row4 hbA1
  go_wp2_with fail
  refine (hra _).mono ?_
  rintro e w3 ⟨rfl, hk3⟩
  obtain ⟨b0, b1, b2, b3⟩ := row4 (hk3.blk hbB1 (not_No _))
  obtain ⟨r0, r1, r2, r3⟩ := row4 (hk3.blk hbA1 (not_No _))
  go_upto_region 2 with fail
  have hbX := heap_alloc_new w3 (.cells #[.int .i64 A.k, .int .i64 A.n, .string A.s, .int .u64 (A.f : Int)] 37)
  have hkX : Keeps No w3 (w3.alloc (.cells #[.int .i64 A.k, .int .i64 A.n, .string A.s, .int .u64 (A.f : Int)] 37)) := (Keeps.refl No w3).alloc _
  generalize (w3.alloc (.cells #[.int .i64 A.k, .int .i64 A.n, .string A.s, .int .u64 (A.f : Int)] 37)) = w4 at hbX hkX ⊢
  obtain ⟨b0, b1, b2, b3⟩ := row4 ((hk3.transNo hkX).blk hbB1 (not_No _))
  go_wp2_with fail
  refine (hrb _).mono ?_
  rintro e w5 ⟨rfl, hk5⟩
  go_upto_region 3 with fail
  have hbX5 := ((hk5.alloc (.cells #[.int .i64 B.k, .int .i64 B.n, .string B.s, .int .u64 (B.f : Int)] 37))).blk hbX (not_No _)
  have hbY5 := heap_alloc_new w5 (.cells #[.int .i64 B.k, .int .i64 B.n, .string B.s, .int .u64 (B.f : Int)] 37)
  have hk06 : Keeps No w (w5.alloc (.cells #[.int .i64 B.k, .int .i64 B.n, .string B.s, .int .u64 (B.f : Int)] 37)) := (((hkW.transNo hk3).transNo hkX).transNo hk5).alloc _
  generalize (w5.alloc (.cells #[.int .i64 B.k, .int .i64 B.n, .string B.s, .int .u64 (B.f : Int)] 37)) = w6 at hbX5 hbY5 hk06 ⊢
  obtain ⟨c0, c1, c2, c3⟩ := row4 hbX5
  obtain ⟨d0, d1, d2, d3⟩ := row4 hbY5
  clear a0 a1 a2 a3 b0 b1 b2 b3 r0 r1 r2 r3 hra hrb hbA1 hbB1 hkW hk3 hkX hk5 hbX
  have hv : R = _ := HR.out.trans (vorder_right HrA.out HrB.out)
  have hrA2 : rightOf A = A := by unfold rightOf; rw [if_pos HrA.out]
  have hrB2 : rightOf B = B := by unfold rightOf; rw [if_pos HrB.out]
  by_cases hkk : A.k = B.k
  case neg =>
    have e2 : (A.k != B.k) = true := by simp [hkk]
    rw [if_pos hkk] at hv
    have Hr := Lib.hid hv
    clear hkk hv hrA2 hrB2
    go_wp2_with fail
    refine (refnum_any A.k B.k _).mono ?_
    rintro e w7 ⟨rfl, rfl⟩
    go_wp2_with fail
    go_ret
    exact ⟨ret_num Hr.out.symm, hk06⟩
  have e2 : (A.k != B.k) = false := by simp [hkk]
  rw [if_neg (by simp [hkk])] at hv
  by_cases hk4 : A.k = 4
  · rw [if_pos hk4] at hv
    have e3 : (A.k == 4) = true := by simp [hk4]
    have Hr := Lib.hid hv
    clear hkk hk4 hv hrA2 hrB2
    go_wp2_with fail
    refine (refford_any A.f B.f hA.2.2 hB.2.2 _).mono ?_
    rintro e w7 ⟨rfl, rfl⟩
    go_wp2_with fail
    go_ret
    exact ⟨ret_num Hr.out.symm, hk06⟩
  have e3 : (A.k == 4) = false := by simp [hk4]
  rw [if_neg hk4] at hv
  have hc : (vcmp A B).1 = R := by
    unfold vcmp
    rw [hrA2, hrB2]
    by_cases hk0 : A.k = 0
    · rw [if_pos (.inr hk0), hv, if_pos hk0]
    · rw [if_neg (by simp [hkk]; omega), if_neg hk4, hv, if_neg hk0]
      exact vcmp_right HrA.out HrB.out hkk hk0 hk4
  have hcall := fun wx => refvcmp_any A B hA hB hsA hsB wx
  rw [hc] at hcall
  generalize (vcmp A B).2 = q at hcall
  unfold Va.agg at hcall
  have Hr := Lib.hid hv
  have Hc := Lib.hid hc
  clear hkk hk4 hv hrA2 hrB2 hc
  go_wp2_with fail
  refine (hcall _).mono ?_
  rintro e w7 ⟨rfl, hk7⟩
  go_wp2_with fail
  go_ret
  exact ⟨rfl, hk06.transNo hk7⟩
end Go.Proofs.Ytmhmpnbcjcmnnaa
