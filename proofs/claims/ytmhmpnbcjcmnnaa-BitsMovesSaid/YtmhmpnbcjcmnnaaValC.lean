/- The walks of package value: right, Compare, Order. -/
import Derived.Test.YtmhmpnbcjcmnnaaVal
namespace Go.Proofs.Ytmhmpnbcjcmnnaa
open Go.RowKit
set_option linter.unusedSimpArgs false
set_option linter.unusedVariables false

def rightOf (v : Va) : Va := if rightV v = true then v else Va.zero
theorem rightv_any (v : Va) (hv : v.wf) (w : World) : Calls Try.prog 76 #[v.agg] w fun e w' => e = .returned (rightOf v).agg ∧ Keeps No w w' := by
  have hr := fun wx => right_any v hv wx
  obtain ⟨r, hrr⟩ : ∃ r, r = rightOf v := ⟨_, rfl⟩
  have hrd : rightOf v = if rightV v = true then v else Va.zero := rfl
  have Hrr := Lib.hid hrr
  have Hrd := Lib.hid hrd
  rw [← hrr]
  clear hrr hrd
  obtain ⟨k, n, s, f⟩ := v
  unfold Va.agg at hr ⊢
  simp only at hr ⊢
  go_enter Try.func76, Try.ntmps76
  go_wp2_with fail
  refine (hr _).mono ?_
  rintro e w1 ⟨rfl, hk1⟩
  have hbA := hk1.blk ((((Keeps.refl No (w.alloc (.cells #[.int .i64 k, .int .i64 n, .string s, .int .u64 (f : Int)] 37))).alloc _)).blk (heap_alloc_new w _) (not_No _)) (not_No _)
  have hbB := hk1.blk (heap_alloc_new (w.alloc (.cells #[.int .i64 k, .int .i64 n, .string s, .int .u64 (f : Int)] 37)) (.cells #[.int .i64 0, .int .i64 0, .string ByteArray.empty, .int .u64 0] 37)) (not_No _)
  rw [show (w.alloc (.cells #[.int .i64 k, .int .i64 n, .string s, .int .u64 (f : Int)] 37)).heap.size = w.heap.size + 1 from by simp] at hbB
  have hkAB : Keeps No w w1 := (((Keeps.refl No w).alloc _).alloc _).transNo hk1
  cases hv0 : rightV ⟨k, n, s, f⟩
  · have hr0 : r = Va.zero := by rw [Hrr.out, Hrd.out, hv0]; rfl
    subst hr0
    go_wp2_with (refine wpList_storeRow rfl 37 (.tmp 2) (.tmp 6) rfl (w.heap.size + 1) #[.int .i64 0, .int .i64 0, .string ByteArray.empty, .int .u64 0] rfl rfl 37 _ hbB (by kernel_rfl) rfl (by kernel_rfl) ?_)
    intro w2 hb2 hz2 hk2
    have c0 := cell_of_row w2 _ 0 _ _ (0, 0) hb2
    have c1 := cell_of_row w2 _ 1 _ _ (0, 0) hb2
    have c2 := cell_of_row w2 _ 2 _ _ (0, 0) hb2
    have c3 := cell_of_row w2 _ 3 _ _ (0, 0) hb2
    go_wp2_with fail
    (try simp only [Exit.inBlock, Exit.then]); refine bodyPost_ret (results_cell_row rfl _ _ _ _ _ _ _ rfl hb2 Try.underlying37 rfl (by kernel_rfl)) rfl ?_
    exact ⟨rfl, hkAB.trans hk2 (fun i hi e => by omega)⟩
  · have hr0 : r = ⟨k, n, s, f⟩ := by rw [Hrr.out, Hrd.out, hv0]; rfl
    subst hr0
    have d0 := cell_of_row w1 _ 0 _ _ (0, 0) hbA
    have d1 := cell_of_row w1 _ 1 _ _ (0, 0) hbA
    have d2 := cell_of_row w1 _ 2 _ _ (0, 0) hbA
    have d3 := cell_of_row w1 _ 3 _ _ (0, 0) hbA
    go_wp2_with (refine wpList_storeRow rfl 37 (.tmp 2) (.tmp 7) rfl (w.heap.size + 1) #[.int .i64 k, .int .i64 n, .string s, .int .u64 (f : Int)] rfl rfl 37 _ hbB (by kernel_rfl) rfl (by kernel_rfl) ?_)
    intro w2 hb2 hz2 hk2
    have c0 := cell_of_row w2 _ 0 _ _ (0, 0) hb2
    have c1 := cell_of_row w2 _ 1 _ _ (0, 0) hb2
    have c2 := cell_of_row w2 _ 2 _ _ (0, 0) hb2
    have c3 := cell_of_row w2 _ 3 _ _ (0, 0) hb2
    go_wp2_with fail
    (try simp only [Exit.inBlock, Exit.then]); refine bodyPost_ret (results_cell_row rfl _ _ _ _ _ _ _ rfl hb2 Try.underlying37 rfl (by kernel_rfl)) rfl ?_
    exact ⟨rfl, hkAB.trans hk2 (fun i hi e => by omega)⟩

theorem rightOf_wf (v : Va) (hv : v.wf) : (rightOf v).wf := by
  unfold rightOf
  split
  · exact hv
  · exact ⟨by decide, by decide, by decide⟩
theorem rightOf_right (v : Va) : rightV (rightOf v) = true := by
  unfold rightOf
  split
  · assumption
  · decide
def vcmp (a b : Va) : Int × Bool :=
  if (rightOf a).k ≠ (rightOf b).k ∨ (rightOf a).k = 0 then (0, false)
  else if (rightOf a).k = 4 then fcmp (rightOf a).f (rightOf b).f
  else (orL [cmp3 (rightOf a).n (rightOf b).n, cmpS (rightOf a).s (rightOf b).s], true)
def vorder (a b : Va) : Int :=
  orL [cmp3 (rightOf a).k (rightOf b).k, cmp3 (rightOf a).n (rightOf b).n, cmpS (rightOf a).s (rightOf b).s, forder (rightOf a).f (rightOf b).f]

set_option maxHeartbeats 2000000 in
set_option maxRecDepth 100000 in
theorem vcompare_any (a b : Va) (ha : a.wf) (hb : b.wf) (w : World) : Calls Try.prog 52 #[a.agg, b.agg] w fun e w' => e = .returned (.tuple #[.int .i64 (vcmp a b).1, .bool (vcmp a b).2]) ∧ Keeps No w w' := by
  have hra := fun wx => rightv_any a ha wx
  have hrb := fun wx => rightv_any b hb wx
  have hA := rightOf_wf a ha
  have hB := rightOf_wf b hb
  obtain ⟨R, hR⟩ : ∃ R, R = vcmp a b := ⟨_, rfl⟩
  rw [← hR]
  unfold vcmp at hR
  generalize rightOf a = A at hra hA hR
  generalize rightOf b = B at hrb hB hR
  have HR := Lib.hid hR
  clear hR
  obtain ⟨ka, na, sa, fa⟩ := a
  obtain ⟨kb, nb, sb, fb⟩ := b
  unfold Va.agg at hra hrb ⊢
  simp only at hra hrb ⊢
  go_enter Try.func52, Try.ntmps52
  go_wp2_with fail
  have hbA0 := heap_alloc_new w (.cells #[.int .i64 ka, .int .i64 na, .string sa, .int .u64 (fa : Int)] 37)
  have hbB0 := heap_alloc_new (w.alloc (.cells #[.int .i64 ka, .int .i64 na, .string sa, .int .u64 (fa : Int)] 37)) (.cells #[.int .i64 kb, .int .i64 nb, .string sb, .int .u64 (fb : Int)] 37)
  have hbA1 := ((Keeps.refl No (w.alloc (.cells #[.int .i64 ka, .int .i64 na, .string sa, .int .u64 (fa : Int)] 37))).alloc (.cells #[.int .i64 kb, .int .i64 nb, .string sb, .int .u64 (fb : Int)] 37)).blk hbA0 (not_No _)
  rw [show (w.alloc (.cells #[.int .i64 ka, .int .i64 na, .string sa, .int .u64 (fa : Int)] 37)).heap.size = w.heap.size + 1 from by simp] at hbB0
  have hkW : Keeps No w ((w.alloc (.cells #[.int .i64 ka, .int .i64 na, .string sa, .int .u64 (fa : Int)] 37)).alloc (.cells #[.int .i64 kb, .int .i64 nb, .string sb, .int .u64 (fb : Int)] 37)) := (((Keeps.refl No w).alloc _).alloc _)
  have hzW : ((w.alloc (.cells #[.int .i64 ka, .int .i64 na, .string sa, .int .u64 (fa : Int)] 37)).alloc (.cells #[.int .i64 kb, .int .i64 nb, .string sb, .int .u64 (fb : Int)] 37)).heap.size = w.heap.size + 2 := by simp
  generalize ((w.alloc (.cells #[.int .i64 ka, .int .i64 na, .string sa, .int .u64 (fa : Int)] 37)).alloc (.cells #[.int .i64 kb, .int .i64 nb, .string sb, .int .u64 (fb : Int)] 37)) = W at hbA1 hbB0 hkW hzW ⊢
  clear hbA0
  have hbA2 : W.drew.heap[w.heap.size]? = _ := hbA1
  have hbB2 : W.drew.heap[w.heap.size + 1]? = _ := hbB0
  have hrd : ∀ (x : Value) (y : Value) (z : Value) (u : Value) (g : Nat) (wx : World), wx.heap[g]? = some (.cells #[x, y, z, u] 37 (0, 0)) → wx.cell? ⟨g, 0, none⟩ = some x ∧ wx.cell? ⟨g, 1, none⟩ = some y ∧ wx.cell? ⟨g, 2, none⟩ = some z ∧ wx.cell? ⟨g, 3, none⟩ = some u := fun x y z u g wx hb =>
    ⟨cell_of_row wx _ 0 _ _ (0, 0) hb, cell_of_row wx _ 1 _ _ (0, 0) hb, cell_of_row wx _ 2 _ _ (0, 0) hb, cell_of_row wx _ 3 _ _ (0, 0) hb⟩
  have Hrd := Lib.hid hrd
  clear hrd
  obtain ⟨a0, a1, a2, a3⟩ := Hrd.out _ _ _ _ _ _ hbA2
  refine region_L (fun wx => wx.cell? ⟨w.heap.size + 1, 0, none⟩ = some (.int .i64 kb) ∧ wx.cell? ⟨w.heap.size + 1, 1, none⟩ = some (.int .i64 nb) ∧ wx.cell? ⟨w.heap.size + 1, 2, none⟩ = some (.string sb) ∧ wx.cell? ⟨w.heap.size + 1, 3, none⟩ = some (.int .u64 (fb : Int))) 5 (by kernel_rfl) (Hrd.out _ _ _ _ _ _ hbB2) (fun hS => ?_)
  refine tkL (i := 2) (oi := ⟨some 8, _, _, _, _, _⟩) (v := ?_) rfl (by kernel_rfl) (fun _ _ _ h => h) (by assumption) (by rfl) (fun w hSw => ?_) ?_; rotate_left; (focus (first | (go_simp; done) | (go_simp; with_reducible rfl))); simp only [Act.put, List.setIfInBounds_toArray, List.set_cons_zero, List.set_cons_succ]
  refine aloneL (i := 0) (oi := ⟨some 6, _, _, _, _, _⟩) rfl (by kernel_rfl) (by rfl) (fun K hK => ?_)
  go_simp
  refine hK.out (fun wx => wx.cell? ⟨w.heap.size + 1, 0, none⟩ = some (.int .i64 kb) ∧ wx.cell? ⟨w.heap.size + 1, 1, none⟩ = some (.int .i64 nb) ∧ wx.cell? ⟨w.heap.size + 1, 2, none⟩ = some (.string sb) ∧ wx.cell? ⟨w.heap.size + 1, 3, none⟩ = some (.int .u64 (fb : Int))) _ _ (fun _ h => h) (fun _ => hS) ?_
  clear hK K hS
  intro hS
  replace hS := hS rfl
  refine aloneL (i := 1) (oi := ⟨some 7, _, _, _, _, _⟩) rfl (by kernel_rfl) (by rfl) (fun K hK => ?_); go_simp
  refine (hra _).mono ?_
  rintro e w3 ⟨rfl, hk3⟩
  refine hK.out (fun wx => wx.cell? ⟨w.heap.size + 1, 0, none⟩ = some (.int .i64 kb) ∧ wx.cell? ⟨w.heap.size + 1, 1, none⟩ = some (.int .i64 nb) ∧ wx.cell? ⟨w.heap.size + 1, 2, none⟩ = some (.string sb) ∧ wx.cell? ⟨w.heap.size + 1, 3, none⟩ = some (.int .u64 (fb : Int))) _ _ (fun _ h => h) (fun _ => Hrd.out _ _ _ _ _ _ (hk3.blk hbB2 (not_No _))) ?_
  clear hK K hS
  intro hS
  replace hS := hS rfl
  refine aloneL (i := 3) (oi := ⟨some 9, _, _, _, _, _⟩) rfl (by kernel_rfl) (by rfl) (fun K hK => ?_); go_simp
  refine (hrb _).mono ?_
  rintro e w4 ⟨rfl, hk4⟩
  refine hK.out (fun wx => wx.cell? ⟨w.heap.size + 1, 0, none⟩ = some (.int .i64 kb) ∧ wx.cell? ⟨w.heap.size + 1, 1, none⟩ = some (.int .i64 nb) ∧ wx.cell? ⟨w.heap.size + 1, 2, none⟩ = some (.string sb) ∧ wx.cell? ⟨w.heap.size + 1, 3, none⟩ = some (.int .u64 (fb : Int))) _ _ (fun _ h => h) (fun _ => Hrd.out _ _ _ _ _ _ (hk4.blk (hk3.blk hbB2 (not_No _)) (not_No _))) ?_
  clear hK K hS
  intro hS
  replace hS := hS rfl
  refine aloneL (i := 4) (oi := ⟨none, _, _, _, _, _⟩) rfl (by kernel_rfl) (by rfl) (fun K hK => ?_)
  refine wp_storeRow 37 (.tmp 2) (.tmp 7) rfl w.heap.size #[.int .i64 A.k, .int .i64 A.n, .string A.s, .int .u64 (A.f : Int)] rfl rfl 37 _ (hk4.blk (hk3.blk hbA2 (not_No _)) (not_No _)) (by kernel_rfl) rfl (by kernel_rfl) ?_
  intro w5 hb5 hz5 hk5
  have hbB5 := hk5.blk (hk4.blk (hk3.blk hbB2 (not_No _)) (not_No _)) (show ¬ w.heap.size + 1 = w.heap.size by omega)
  refine hK.out (fun wx => wx.cell? ⟨w.heap.size + 1, 0, none⟩ = some (.int .i64 kb) ∧ wx.cell? ⟨w.heap.size + 1, 1, none⟩ = some (.int .i64 nb) ∧ wx.cell? ⟨w.heap.size + 1, 2, none⟩ = some (.string sb) ∧ wx.cell? ⟨w.heap.size + 1, 3, none⟩ = some (.int .u64 (fb : Int))) _ _ (fun _ h => h) (fun _ => Hrd.out _ _ _ _ _ _ hbB5) ?_
  clear hK K hS
  intro hS
  replace hS := hS rfl
  refine aloneL (i := 5) (oi := ⟨none, _, _, _, _, _⟩) rfl (by kernel_rfl) (by rfl) (fun K hK => ?_)
  refine wp_storeRow 37 (.tmp 3) (.tmp 9) rfl (w.heap.size + 1) #[.int .i64 B.k, .int .i64 B.n, .string B.s, .int .u64 (B.f : Int)] rfl rfl 37 _ hbB5 (by kernel_rfl) rfl (by kernel_rfl) ?_
  intro w6 hb6 hz6 hk6
  refine hK.out (fun wx => wx.cell? ⟨w.heap.size + 1, 0, none⟩ = some (.int .i64 kb) ∧ wx.cell? ⟨w.heap.size + 1, 1, none⟩ = some (.int .i64 nb) ∧ wx.cell? ⟨w.heap.size + 1, 2, none⟩ = some (.string sb) ∧ wx.cell? ⟨w.heap.size + 1, 3, none⟩ = some (.int .u64 (fb : Int))) _ _ (fun _ h => h) (fun e => absurd (show true = false from e) (by decide)) ?_
  clear hK K hS
  intro hS
  refine doneL (by kernel_rfl) ?_ _
  clear hS
  have hb5' := hk6.blk hb5 (show ¬ w.heap.size = w.heap.size + 1 by omega)
  have hk06 : Keeps No w w6 := (((hkW.drew.transNo hk3).transNo hk4).trans hk5 (fun i hi e => by omega)).trans hk6 (fun i hi e => by omega)
  have hz6' : w.heap.size + 2 ≤ w6.heap.size := by
    have h3 := hk3.size
    have h4 := hk4.size
    have h0 : W.drew.heap.size = w.heap.size + 2 := hzW
    omega
  have hfam := fun wx (hx : Keeps No w6 wx) => Hrd.out _ _ _ _ _ _ (hx.blk hb5' (not_No _))
  have hfamB := fun wx (hx : Keeps No w6 wx) => Hrd.out _ _ _ _ _ _ (hx.blk hb6 (not_No _))
  obtain ⟨c0, c1, c2, c3⟩ := hfam _ (Keeps.refl _ _)
  obtain ⟨d0, d1, d2, d3⟩ := hfamB _ (Keeps.refl _ _)
  have HfA := Lib.hid hfam
  have HfB := Lib.hid hfamB
  clear hbA1 hbB0 hkW hzW hbA2 hbB2 a0 a1 a2 a3 hk3 hk4 hk5 hk6 hz5 hz6 hb5 hb6 hb5' hbB5 hra hrb hfam hfamB Hrd
  by_cases hkk : A.k = B.k
  · have hkb : (A.k != B.k) = false := by simp [hkk]
    by_cases hk0 : A.k = 0
    · have hr : R = (0, false) := by rw [HR.out, if_pos (.inr hk0)]
      have Hr := Lib.hid hr
      have hk0b : (A.k == 0) = true := by simp [hk0]
      clear hkk hk0 hr
      go_wp2_with fail
      go_ret2
      exact ⟨by rw [Hr.out]; rfl, hk06⟩
    · have hk0b : (A.k == 0) = false := by simp [hk0]
      by_cases hk4 : A.k = 4
      · have hr : R = fcmp A.f B.f := by rw [HR.out, if_neg (by simp [hkk, hk0]; omega), if_pos hk4]
        have hk4b : (A.k == 4) = true := by simp [hk4]
        have Hr := Lib.hid hr
        clear hkk hk0 hr hk4
        go_wp2_with fail
        refine (fcompare_any A.f B.f _).mono ?_
        rintro e w7 ⟨rfl, rfl⟩
        go_wp2_with fail
        go_ret2
        exact ⟨by rw [Hr.out]; rfl, hk06⟩
      · have hr : R = (orL [cmp3 A.n B.n, cmpS A.s B.s], true) := by rw [HR.out, if_neg (by simp [hkk, hk0]; omega), if_neg hk4]
        have hk4b : (A.k == 4) = false := by simp [hk4]
        have Hr := Lib.hid hr
        clear hkk hk0 hr hk4
        have hfA := HfA.out
        have hfB := HfB.out
        go_wp2_with fail
        refine wp_region_held_drew (S := fun wx => Keeps No w6 wx) (by kernel_rfl) ((Keeps.refl _ _).drew) (fun hS => ?_)
        refine tk (i := 0) (oi := ⟨some 32, _, _, _, _, _⟩) (v := ?_) rfl (by kernel_rfl) (fun _ _ _ h => h) (by assumption) (by rfl) (fun w hSw => ?_) ?_; rotate_left; (focus (first | (go_simp; done) | (go_simp; with_reducible rfl))); simp only [Act.put, List.setIfInBounds_toArray, List.set_cons_zero, List.set_cons_succ]
        refine tk (i := 1) (oi := ⟨some 33, _, _, _, _, _⟩) (v := ?_) rfl (by kernel_rfl) (fun _ _ _ h => h) (by assumption) (by rfl) (fun w hSw => ?_) ?_; rotate_left; (focus (first | (go_simp; done) | (go_simp; with_reducible rfl))); simp only [Act.put, List.setIfInBounds_toArray, List.set_cons_zero, List.set_cons_succ]
        refine tk (i := 2) (oi := ⟨some 34, _, _, _, _, _⟩) (v := ?_) rfl (by kernel_rfl) (fun _ _ _ h => h) (by assumption) (by rfl) (fun w hSw => ?_) ?_; rotate_left; (focus (first | (go_simp; done) | (go_simp; with_reducible rfl))); simp only [Act.put, List.setIfInBounds_toArray, List.set_cons_zero, List.set_cons_succ]
        refine tk (i := 3) (oi := ⟨some 35, _, _, _, _, _⟩) (v := ?_) rfl (by kernel_rfl) (fun _ _ _ h => h) (by assumption) (by rfl) (fun w hSw => ?_) ?_; rotate_left; (focus (first | (go_simp; done) | (go_simp; with_reducible rfl))); simp only [Act.put, List.setIfInBounds_toArray, List.set_cons_zero, List.set_cons_succ]
        refine tk (i := 5) (oi := ⟨some 37, _, _, _, _, _⟩) (v := ?_) rfl (by kernel_rfl) (fun _ _ _ h => h) (by assumption) (by rfl) (fun w hSw => ?_) ?_; rotate_left; (focus (first | (go_simp; done) | (go_simp; with_reducible rfl))); simp only [Act.put, List.setIfInBounds_toArray, List.set_cons_zero, List.set_cons_succ]
        refine tk (i := 6) (oi := ⟨some 38, _, _, _, _, _⟩) (v := ?_) rfl (by kernel_rfl) (fun _ _ _ h => h) (by assumption) (by rfl) (fun w hSw => ?_) ?_; rotate_left; (focus (first | (go_simp; done) | (go_simp; with_reducible rfl))); simp only [Act.put, List.setIfInBounds_toArray, List.set_cons_zero, List.set_cons_succ]
        refine tk (i := 7) (oi := ⟨some 39, _, _, _, _, _⟩) (v := ?_) rfl (by kernel_rfl) (fun _ _ _ h => h) (by assumption) (by rfl) (fun w hSw => ?_) ?_; rotate_left; (focus (first | (go_simp; done) | (go_simp; with_reducible rfl))); simp only [Act.put, List.setIfInBounds_toArray, List.set_cons_zero, List.set_cons_succ]
        refine tk (i := 8) (oi := ⟨some 40, _, _, _, _, _⟩) (v := ?_) rfl (by kernel_rfl) (fun _ _ _ h => h) (by assumption) (by rfl) (fun w hSw => ?_) ?_; rotate_left; (focus (first | (go_simp; done) | (go_simp; with_reducible rfl))); simp only [Act.put, List.setIfInBounds_toArray, List.set_cons_zero, List.set_cons_succ]
        refine alone (i := 4) (oi := ⟨some 36, _, _, _, _, _⟩) rfl (by kernel_rfl) (by rfl) (fun K hK => ?_); go_simp
        refine (cmpI64_any A.n B.n _).mono ?_
        rintro e w7 ⟨rfl, rfl⟩
        refine hK.out (fun wx => Keeps No w6 wx) _ _ (fun _ h => h) (hS) ?_
        clear hK K hS
        intro hS
        refine alone (i := 9) (oi := ⟨some 41, _, _, _, _, _⟩) rfl (by kernel_rfl) (by rfl) (fun K hK => ?_); go_simp
        refine (scompare_any A.s B.s _).mono ?_
        rintro e w7 ⟨rfl, rfl⟩
        refine hK.out (fun wx => Keeps No w6 wx) _ _ (fun _ h => h) (hS) ?_
        clear hK K hS
        intro hS
        refine alone (i := 10) (oi := ⟨some 42, _, _, _, _, _⟩) rfl (by kernel_rfl) (by rfl) (fun K hK => ?_); go_simp
        refine hK.out (fun wx => Keeps No w6 wx) _ _ (fun _ h => h) (hS.alloc _) ?_
        clear hK K hS
        intro hS
        refine alone (i := 11) (oi := ⟨some 43, _, _, _, _, _⟩) rfl (by kernel_rfl) (by rfl) (fun K hK => ?_); go_simp
        refine (cmpOr_any _ 2 2 [cmp3 A.n B.n, cmpS A.s B.s] _ ((Sl.lit w6 #[.int .i64 (cmp3 A.n B.n), .int .i64 (cmpS A.s B.s)] 3 _ rfl 2 rfl (by decide)).kept (Keeps.refl No _).drew)).mono ?_
        rintro e w7 ⟨rfl, rfl⟩
        refine hK.out (fun wx => Keeps No w6 wx) _ _ (fun _ h => h) (hS) ?_
        clear hK K hS
        intro hS
        refine tk (i := 12) (oi := ⟨some 4, _, _, _, _, _⟩) (v := ?_) rfl (by kernel_rfl) (fun _ _ _ h => h) (by assumption) (by rfl) (fun w hSw => ?_) ?_; rotate_left; (focus (first | (go_simp; done) | (go_simp; with_reducible rfl))); simp only [Act.put, List.setIfInBounds_toArray, List.set_cons_zero, List.set_cons_succ]
        refine tk (i := 13) (oi := ⟨some 5, _, _, _, _, _⟩) (v := ?_) rfl (by kernel_rfl) (fun _ _ _ h => h) (by assumption) (by rfl) (fun w hSw => ?_) ?_; rotate_left; (focus (first | (go_simp; done) | (go_simp; with_reducible rfl))); simp only [Act.put, List.setIfInBounds_toArray, List.set_cons_zero, List.set_cons_succ]
        refine wpAnyH_done (by kernel_rfl) ?_ _
        clear hS
        go_wp2_with fail
        go_ret2
        exact ⟨by rw [Hr.out]; rfl, (hk06.alloc _).drew⟩
  · have hkb : (A.k != B.k) = true := by simp [hkk]
    have hr : R = (0, false) := by rw [HR.out, if_pos (.inl hkk)]
    have Hr := Lib.hid hr
    clear hkk hr
    go_wp2_with fail
    go_ret2
    exact ⟨by rw [Hr.out]; rfl, hk06⟩
set_option maxHeartbeats 2000000 in
set_option maxRecDepth 100000 in
theorem vorder_any (a b : Va) (ha : a.wf) (hb : b.wf) (w : World) : Calls Try.prog 75 #[a.agg, b.agg] w fun e w' => e = .returned (.int .i64 (vorder a b)) ∧ Keeps No w w' := by
  have hra := fun wx => rightv_any a ha wx
  have hrb := fun wx => rightv_any b hb wx
  have hA := rightOf_wf a ha
  have hB := rightOf_wf b hb
  obtain ⟨R, hR⟩ : ∃ R, R = vorder a b := ⟨_, rfl⟩
  rw [← hR]
  unfold vorder at hR
  generalize rightOf a = A at hra hA hR
  generalize rightOf b = B at hrb hB hR
  have HR := Lib.hid hR
  clear hR
  obtain ⟨ka, na, sa, fa⟩ := a
  obtain ⟨kb, nb, sb, fb⟩ := b
  unfold Va.agg at hra hrb ⊢
  simp only at hra hrb ⊢
  go_enter Try.func75, Try.ntmps75
  go_wp2_with fail
  have hbA0 := heap_alloc_new w (.cells #[.int .i64 ka, .int .i64 na, .string sa, .int .u64 (fa : Int)] 37)
  have hbB0 := heap_alloc_new (w.alloc (.cells #[.int .i64 ka, .int .i64 na, .string sa, .int .u64 (fa : Int)] 37)) (.cells #[.int .i64 kb, .int .i64 nb, .string sb, .int .u64 (fb : Int)] 37)
  have hbA1 := ((Keeps.refl No (w.alloc (.cells #[.int .i64 ka, .int .i64 na, .string sa, .int .u64 (fa : Int)] 37))).alloc (.cells #[.int .i64 kb, .int .i64 nb, .string sb, .int .u64 (fb : Int)] 37)).blk hbA0 (not_No _)
  rw [show (w.alloc (.cells #[.int .i64 ka, .int .i64 na, .string sa, .int .u64 (fa : Int)] 37)).heap.size = w.heap.size + 1 from by simp] at hbB0
  have hkW : Keeps No w ((w.alloc (.cells #[.int .i64 ka, .int .i64 na, .string sa, .int .u64 (fa : Int)] 37)).alloc (.cells #[.int .i64 kb, .int .i64 nb, .string sb, .int .u64 (fb : Int)] 37)) := (((Keeps.refl No w).alloc _).alloc _)
  have hzW : ((w.alloc (.cells #[.int .i64 ka, .int .i64 na, .string sa, .int .u64 (fa : Int)] 37)).alloc (.cells #[.int .i64 kb, .int .i64 nb, .string sb, .int .u64 (fb : Int)] 37)).heap.size = w.heap.size + 2 := by simp
  generalize ((w.alloc (.cells #[.int .i64 ka, .int .i64 na, .string sa, .int .u64 (fa : Int)] 37)).alloc (.cells #[.int .i64 kb, .int .i64 nb, .string sb, .int .u64 (fb : Int)] 37)) = W at hbA1 hbB0 hkW hzW ⊢
  clear hbA0
  have hbA2 : W.drew.heap[w.heap.size]? = _ := hbA1
  have hbB2 : W.drew.heap[w.heap.size + 1]? = _ := hbB0
  have hrd : ∀ (x : Value) (y : Value) (z : Value) (u : Value) (g : Nat) (wx : World), wx.heap[g]? = some (.cells #[x, y, z, u] 37 (0, 0)) → wx.cell? ⟨g, 0, none⟩ = some x ∧ wx.cell? ⟨g, 1, none⟩ = some y ∧ wx.cell? ⟨g, 2, none⟩ = some z ∧ wx.cell? ⟨g, 3, none⟩ = some u := fun x y z u g wx hb =>
    ⟨cell_of_row wx _ 0 _ _ (0, 0) hb, cell_of_row wx _ 1 _ _ (0, 0) hb, cell_of_row wx _ 2 _ _ (0, 0) hb, cell_of_row wx _ 3 _ _ (0, 0) hb⟩
  have Hrd := Lib.hid hrd
  clear hrd
  obtain ⟨a0, a1, a2, a3⟩ := Hrd.out _ _ _ _ _ _ hbA2
  refine region_L (fun wx => wx.cell? ⟨w.heap.size + 1, 0, none⟩ = some (.int .i64 kb) ∧ wx.cell? ⟨w.heap.size + 1, 1, none⟩ = some (.int .i64 nb) ∧ wx.cell? ⟨w.heap.size + 1, 2, none⟩ = some (.string sb) ∧ wx.cell? ⟨w.heap.size + 1, 3, none⟩ = some (.int .u64 (fb : Int))) 5 (by kernel_rfl) (Hrd.out _ _ _ _ _ _ hbB2) (fun hS => ?_)
  refine tkL (i := 2) (oi := ⟨some 7, _, _, _, _, _⟩) (v := ?_) rfl (by kernel_rfl) (fun _ _ _ h => h) (by assumption) (by rfl) (fun w hSw => ?_) ?_; rotate_left; (focus (first | (go_simp; done) | (go_simp; with_reducible rfl))); simp only [Act.put, List.setIfInBounds_toArray, List.set_cons_zero, List.set_cons_succ]
  refine aloneL (i := 0) (oi := ⟨some 5, _, _, _, _, _⟩) rfl (by kernel_rfl) (by rfl) (fun K hK => ?_)
  go_simp
  refine hK.out (fun wx => wx.cell? ⟨w.heap.size + 1, 0, none⟩ = some (.int .i64 kb) ∧ wx.cell? ⟨w.heap.size + 1, 1, none⟩ = some (.int .i64 nb) ∧ wx.cell? ⟨w.heap.size + 1, 2, none⟩ = some (.string sb) ∧ wx.cell? ⟨w.heap.size + 1, 3, none⟩ = some (.int .u64 (fb : Int))) _ _ (fun _ h => h) (fun _ => hS) ?_
  clear hK K hS
  intro hS
  replace hS := hS rfl
  refine aloneL (i := 1) (oi := ⟨some 6, _, _, _, _, _⟩) rfl (by kernel_rfl) (by rfl) (fun K hK => ?_); go_simp
  refine (hra _).mono ?_
  rintro e w3 ⟨rfl, hk3⟩
  refine hK.out (fun wx => wx.cell? ⟨w.heap.size + 1, 0, none⟩ = some (.int .i64 kb) ∧ wx.cell? ⟨w.heap.size + 1, 1, none⟩ = some (.int .i64 nb) ∧ wx.cell? ⟨w.heap.size + 1, 2, none⟩ = some (.string sb) ∧ wx.cell? ⟨w.heap.size + 1, 3, none⟩ = some (.int .u64 (fb : Int))) _ _ (fun _ h => h) (fun _ => Hrd.out _ _ _ _ _ _ (hk3.blk hbB2 (not_No _))) ?_
  clear hK K hS
  intro hS
  replace hS := hS rfl
  refine aloneL (i := 3) (oi := ⟨some 8, _, _, _, _, _⟩) rfl (by kernel_rfl) (by rfl) (fun K hK => ?_); go_simp
  refine (hrb _).mono ?_
  rintro e w4 ⟨rfl, hk4⟩
  refine hK.out (fun wx => wx.cell? ⟨w.heap.size + 1, 0, none⟩ = some (.int .i64 kb) ∧ wx.cell? ⟨w.heap.size + 1, 1, none⟩ = some (.int .i64 nb) ∧ wx.cell? ⟨w.heap.size + 1, 2, none⟩ = some (.string sb) ∧ wx.cell? ⟨w.heap.size + 1, 3, none⟩ = some (.int .u64 (fb : Int))) _ _ (fun _ h => h) (fun _ => Hrd.out _ _ _ _ _ _ (hk4.blk (hk3.blk hbB2 (not_No _)) (not_No _))) ?_
  clear hK K hS
  intro hS
  replace hS := hS rfl
  refine aloneL (i := 4) (oi := ⟨none, _, _, _, _, _⟩) rfl (by kernel_rfl) (by rfl) (fun K hK => ?_)
  refine wp_storeRow 37 (.tmp 2) (.tmp 6) rfl w.heap.size #[.int .i64 A.k, .int .i64 A.n, .string A.s, .int .u64 (A.f : Int)] rfl rfl 37 _ (hk4.blk (hk3.blk hbA2 (not_No _)) (not_No _)) (by kernel_rfl) rfl (by kernel_rfl) ?_
  intro w5 hb5 hz5 hk5
  have hbB5 := hk5.blk (hk4.blk (hk3.blk hbB2 (not_No _)) (not_No _)) (show ¬ w.heap.size + 1 = w.heap.size by omega)
  refine hK.out (fun wx => wx.cell? ⟨w.heap.size + 1, 0, none⟩ = some (.int .i64 kb) ∧ wx.cell? ⟨w.heap.size + 1, 1, none⟩ = some (.int .i64 nb) ∧ wx.cell? ⟨w.heap.size + 1, 2, none⟩ = some (.string sb) ∧ wx.cell? ⟨w.heap.size + 1, 3, none⟩ = some (.int .u64 (fb : Int))) _ _ (fun _ h => h) (fun _ => Hrd.out _ _ _ _ _ _ hbB5) ?_
  clear hK K hS
  intro hS
  replace hS := hS rfl
  refine aloneL (i := 5) (oi := ⟨none, _, _, _, _, _⟩) rfl (by kernel_rfl) (by rfl) (fun K hK => ?_)
  refine wp_storeRow 37 (.tmp 3) (.tmp 8) rfl (w.heap.size + 1) #[.int .i64 B.k, .int .i64 B.n, .string B.s, .int .u64 (B.f : Int)] rfl rfl 37 _ hbB5 (by kernel_rfl) rfl (by kernel_rfl) ?_
  intro w6 hb6 hz6 hk6
  refine hK.out (fun wx => wx.cell? ⟨w.heap.size + 1, 0, none⟩ = some (.int .i64 kb) ∧ wx.cell? ⟨w.heap.size + 1, 1, none⟩ = some (.int .i64 nb) ∧ wx.cell? ⟨w.heap.size + 1, 2, none⟩ = some (.string sb) ∧ wx.cell? ⟨w.heap.size + 1, 3, none⟩ = some (.int .u64 (fb : Int))) _ _ (fun _ h => h) (fun e => absurd (show true = false from e) (by decide)) ?_
  clear hK K hS
  intro hS
  refine doneL (by kernel_rfl) ?_ _
  clear hS
  have hb5' := hk6.blk hb5 (show ¬ w.heap.size = w.heap.size + 1 by omega)
  have hk06 : Keeps No w w6 := (((hkW.drew.transNo hk3).transNo hk4).trans hk5 (fun i hi e => by omega)).trans hk6 (fun i hi e => by omega)
  have hz6' : w.heap.size + 2 ≤ w6.heap.size := by
    have h3 := hk3.size
    have h4 := hk4.size
    have h0 : W.drew.heap.size = w.heap.size + 2 := hzW
    omega
  have hfam := fun wx (hx : Keeps No w6 wx) => Hrd.out _ _ _ _ _ _ (hx.blk hb5' (not_No _))
  have hfamB := fun wx (hx : Keeps No w6 wx) => Hrd.out _ _ _ _ _ _ (hx.blk hb6 (not_No _))
  obtain ⟨c0, c1, c2, c3⟩ := hfam _ (Keeps.refl _ _)
  obtain ⟨d0, d1, d2, d3⟩ := hfamB _ (Keeps.refl _ _)
  have HfA := Lib.hid hfam
  have HfB := Lib.hid hfamB
  clear hbA1 hbB0 hkW hzW hbA2 hbB2 a0 a1 a2 a3 hk3 hk4 hk5 hk6 hz5 hz6 hb5 hb6 hb5' hbB5 hra hrb hfam hfamB Hrd
  have hfA := HfA.out
  have hfB := HfB.out
  go_wp2_with fail
  refine wp_region_held_drew (S := fun wx => Keeps No w6 wx) (by kernel_rfl) ((Keeps.refl _ _).drew) (fun hS => ?_)
  refine tk (i := 0) (oi := ⟨some 9, _, _, _, _, _⟩) (v := ?_) rfl (by kernel_rfl) (fun _ _ _ h => h) (by assumption) (by rfl) (fun w hSw => ?_) ?_; rotate_left; (focus (first | (go_simp; done) | (go_simp; with_reducible rfl))); simp only [Act.put, List.setIfInBounds_toArray, List.set_cons_zero, List.set_cons_succ]
  refine tk (i := 1) (oi := ⟨some 10, _, _, _, _, _⟩) (v := ?_) rfl (by kernel_rfl) (fun _ _ _ h => h) (by assumption) (by rfl) (fun w hSw => ?_) ?_; rotate_left; (focus (first | (go_simp; done) | (go_simp; with_reducible rfl))); simp only [Act.put, List.setIfInBounds_toArray, List.set_cons_zero, List.set_cons_succ]
  refine tk (i := 2) (oi := ⟨some 11, _, _, _, _, _⟩) (v := ?_) rfl (by kernel_rfl) (fun _ _ _ h => h) (by assumption) (by rfl) (fun w hSw => ?_) ?_; rotate_left; (focus (first | (go_simp; done) | (go_simp; with_reducible rfl))); simp only [Act.put, List.setIfInBounds_toArray, List.set_cons_zero, List.set_cons_succ]
  refine tk (i := 3) (oi := ⟨some 12, _, _, _, _, _⟩) (v := ?_) rfl (by kernel_rfl) (fun _ _ _ h => h) (by assumption) (by rfl) (fun w hSw => ?_) ?_; rotate_left; (focus (first | (go_simp; done) | (go_simp; with_reducible rfl))); simp only [Act.put, List.setIfInBounds_toArray, List.set_cons_zero, List.set_cons_succ]
  refine tk (i := 5) (oi := ⟨some 14, _, _, _, _, _⟩) (v := ?_) rfl (by kernel_rfl) (fun _ _ _ h => h) (by assumption) (by rfl) (fun w hSw => ?_) ?_; rotate_left; (focus (first | (go_simp; done) | (go_simp; with_reducible rfl))); simp only [Act.put, List.setIfInBounds_toArray, List.set_cons_zero, List.set_cons_succ]
  refine tk (i := 6) (oi := ⟨some 15, _, _, _, _, _⟩) (v := ?_) rfl (by kernel_rfl) (fun _ _ _ h => h) (by assumption) (by rfl) (fun w hSw => ?_) ?_; rotate_left; (focus (first | (go_simp; done) | (go_simp; with_reducible rfl))); simp only [Act.put, List.setIfInBounds_toArray, List.set_cons_zero, List.set_cons_succ]
  refine tk (i := 7) (oi := ⟨some 16, _, _, _, _, _⟩) (v := ?_) rfl (by kernel_rfl) (fun _ _ _ h => h) (by assumption) (by rfl) (fun w hSw => ?_) ?_; rotate_left; (focus (first | (go_simp; done) | (go_simp; with_reducible rfl))); simp only [Act.put, List.setIfInBounds_toArray, List.set_cons_zero, List.set_cons_succ]
  refine tk (i := 8) (oi := ⟨some 17, _, _, _, _, _⟩) (v := ?_) rfl (by kernel_rfl) (fun _ _ _ h => h) (by assumption) (by rfl) (fun w hSw => ?_) ?_; rotate_left; (focus (first | (go_simp; done) | (go_simp; with_reducible rfl))); simp only [Act.put, List.setIfInBounds_toArray, List.set_cons_zero, List.set_cons_succ]
  refine tk (i := 10) (oi := ⟨some 19, _, _, _, _, _⟩) (v := ?_) rfl (by kernel_rfl) (fun _ _ _ h => h) (by assumption) (by rfl) (fun w hSw => ?_) ?_; rotate_left; (focus (first | (go_simp; done) | (go_simp; with_reducible rfl))); simp only [Act.put, List.setIfInBounds_toArray, List.set_cons_zero, List.set_cons_succ]
  refine tk (i := 11) (oi := ⟨some 20, _, _, _, _, _⟩) (v := ?_) rfl (by kernel_rfl) (fun _ _ _ h => h) (by assumption) (by rfl) (fun w hSw => ?_) ?_; rotate_left; (focus (first | (go_simp; done) | (go_simp; with_reducible rfl))); simp only [Act.put, List.setIfInBounds_toArray, List.set_cons_zero, List.set_cons_succ]
  refine tk (i := 12) (oi := ⟨some 21, _, _, _, _, _⟩) (v := ?_) rfl (by kernel_rfl) (fun _ _ _ h => h) (by assumption) (by rfl) (fun w hSw => ?_) ?_; rotate_left; (focus (first | (go_simp; done) | (go_simp; with_reducible rfl))); simp only [Act.put, List.setIfInBounds_toArray, List.set_cons_zero, List.set_cons_succ]
  refine tk (i := 13) (oi := ⟨some 22, _, _, _, _, _⟩) (v := ?_) rfl (by kernel_rfl) (fun _ _ _ h => h) (by assumption) (by rfl) (fun w hSw => ?_) ?_; rotate_left; (focus (first | (go_simp; done) | (go_simp; with_reducible rfl))); simp only [Act.put, List.setIfInBounds_toArray, List.set_cons_zero, List.set_cons_succ]
  refine tk (i := 15) (oi := ⟨some 24, _, _, _, _, _⟩) (v := ?_) rfl (by kernel_rfl) (fun _ _ _ h => h) (by assumption) (by rfl) (fun w hSw => ?_) ?_; rotate_left; (focus (first | (go_simp; done) | (go_simp; with_reducible rfl))); simp only [Act.put, List.setIfInBounds_toArray, List.set_cons_zero, List.set_cons_succ]
  refine tk (i := 16) (oi := ⟨some 25, _, _, _, _, _⟩) (v := ?_) rfl (by kernel_rfl) (fun _ _ _ h => h) (by assumption) (by rfl) (fun w hSw => ?_) ?_; rotate_left; (focus (first | (go_simp; done) | (go_simp; with_reducible rfl))); simp only [Act.put, List.setIfInBounds_toArray, List.set_cons_zero, List.set_cons_succ]
  refine tk (i := 17) (oi := ⟨some 26, _, _, _, _, _⟩) (v := ?_) rfl (by kernel_rfl) (fun _ _ _ h => h) (by assumption) (by rfl) (fun w hSw => ?_) ?_; rotate_left; (focus (first | (go_simp; done) | (go_simp; with_reducible rfl))); simp only [Act.put, List.setIfInBounds_toArray, List.set_cons_zero, List.set_cons_succ]
  refine tk (i := 18) (oi := ⟨some 27, _, _, _, _, _⟩) (v := ?_) rfl (by kernel_rfl) (fun _ _ _ h => h) (by assumption) (by rfl) (fun w hSw => ?_) ?_; rotate_left; (focus (first | (go_simp; done) | (go_simp; with_reducible rfl))); simp only [Act.put, List.setIfInBounds_toArray, List.set_cons_zero, List.set_cons_succ]
  refine alone (i := 4) (oi := ⟨some 13, _, _, _, _, _⟩) rfl (by kernel_rfl) (by rfl) (fun K hK => ?_); go_simp
  refine (cmpKind_any A.k B.k _).mono ?_
  rintro e w7 ⟨rfl, rfl⟩
  refine hK.out (fun wx => Keeps No w6 wx) _ _ (fun _ h => h) (hS) ?_
  clear hK K hS
  intro hS
  refine alone (i := 9) (oi := ⟨some 18, _, _, _, _, _⟩) rfl (by kernel_rfl) (by rfl) (fun K hK => ?_); go_simp
  refine (cmpI64_any A.n B.n _).mono ?_
  rintro e w7 ⟨rfl, rfl⟩
  refine hK.out (fun wx => Keeps No w6 wx) _ _ (fun _ h => h) (hS) ?_
  clear hK K hS
  intro hS
  refine alone (i := 14) (oi := ⟨some 23, _, _, _, _, _⟩) rfl (by kernel_rfl) (by rfl) (fun K hK => ?_); go_simp
  refine (scompare_any A.s B.s _).mono ?_
  rintro e w7 ⟨rfl, rfl⟩
  refine hK.out (fun wx => Keeps No w6 wx) _ _ (fun _ h => h) (hS) ?_
  clear hK K hS
  intro hS
  refine alone (i := 19) (oi := ⟨some 28, _, _, _, _, _⟩) rfl (by kernel_rfl) (by rfl) (fun K hK => ?_); go_simp
  refine (forder_any A.f B.f hA.2.2 hB.2.2 _).mono ?_
  rintro e w7 ⟨rfl, rfl⟩
  refine hK.out (fun wx => Keeps No w6 wx) _ _ (fun _ h => h) (hS) ?_
  clear hK K hS
  intro hS
  refine alone (i := 20) (oi := ⟨some 29, _, _, _, _, _⟩) rfl (by kernel_rfl) (by rfl) (fun K hK => ?_); go_simp
  refine hK.out (fun wx => Keeps No w6 wx) _ _ (fun _ h => h) (hS.alloc _) ?_
  clear hK K hS
  intro hS
  refine alone (i := 21) (oi := ⟨some 30, _, _, _, _, _⟩) rfl (by kernel_rfl) (by rfl) (fun K hK => ?_); go_simp
  refine (cmpOr_any _ 4 4 [cmp3 A.k B.k, cmp3 A.n B.n, cmpS A.s B.s, forder A.f B.f] _ ((Sl.lit w6 #[.int .i64 (cmp3 A.k B.k), .int .i64 (cmp3 A.n B.n), .int .i64 (cmpS A.s B.s), .int .i64 (forder A.f B.f)] 3 _ rfl 4 rfl (by decide)).kept (Keeps.refl No _).drew)).mono ?_
  rintro e w7 ⟨rfl, rfl⟩
  refine hK.out (fun wx => Keeps No w6 wx) _ _ (fun _ h => h) (hS) ?_
  clear hK K hS
  intro hS
  refine tk (i := 22) (oi := ⟨some 4, _, _, _, _, _⟩) (v := ?_) rfl (by kernel_rfl) (fun _ _ _ h => h) (by assumption) (by rfl) (fun w hSw => ?_) ?_; rotate_left; (focus (first | (go_simp; done) | (go_simp; with_reducible rfl))); simp only [Act.put, List.setIfInBounds_toArray, List.set_cons_zero, List.set_cons_succ]
  refine wpAnyH_done (by kernel_rfl) ?_ _
  clear hS
  go_wp2_with fail
  go_ret
  exact ⟨by rw [HR.out]; rfl, (hk06.alloc _).drew⟩
end Go.Proofs.Ytmhmpnbcjcmnnaa