/- The walks of the statements on zones: first, long, ZoneHolds, ZoneOne. -/
import Derived.Test.YtmhmpnbcjcmnnaaPlainZoneB
import Derived.Lib.MinMax
namespace Go.Proofs.Ytmhmpnbcjcmnnaa
open Go.RowKit
set_option linter.unusedSimpArgs false
set_option linter.unusedVariables false

theorem SlK.lit (w : World) (arr : Array Value) (t : TypeId) {k : Nat} (xs : List (List Value)) (h : arr.toList = xs.flatten) (hw : ∀ x ∈ xs, x.length = k) (n : Nat) (hn : xs.length = n) (hm : n ≤ maxLen) : SlK (w.alloc (.cells arr t)) k (some ⟨w.heap.size, 0, Option.none⟩) n n xs := by
  refine ⟨hn, Nat.le_refl _, hm, fun h => by simp at h, hw, fun i hi j hj => ?_⟩
  have : (w.alloc (.cells arr t)).heap[w.heap.size]? = some (.cells arr t (0, 0)) := heap_alloc_new w _
  show (w.alloc (.cells arr t)).cell? ((⟨w.heap.size, 0, Option.none⟩ : Addr).add _) = _
  rw [Addr.add_lit, Nat.zero_add, cell_of_row _ w.heap.size _ _ t (0, 0) this, ← flat_at xs hw i j hj, ← h]
  simp
theorem Va.cells_len (v : Va) : v.cells.length = 4 := rfl
theorem vals_wide (l : List Va) : ∀ x ∈ l.map Va.cells, x.length = 4 := by
  intro x hx; obtain ⟨v, _, rfl⟩ := List.mem_map.1 hx; rfl

def three : Va := ⟨1, 3, ByteArray.empty, 0⟩
def seven : Va := ⟨1, 7, ByteArray.empty, 0⟩
def zone37 : Zo := ⟨3, 1, 0, three, seven⟩
theorem of37 : ofZ [three, Va.zero, seven] = zone37 := by decide
theorem may37a : zmay zone37 2 three = false := by decide
theorem may37b : zmay zone37 3 three = true := by decide
theorem holds33 : zholds 5 three three = 1 := by decide
theorem wf_three : three.wf := ⟨by decide, by decide, by decide⟩
theorem wf_seven' : seven.wf := ⟨by decide, by decide, by decide⟩
theorem wf_37 : zone37.wf := ⟨by decide, by decide, by decide, wf_three, wf_seven'⟩

set_option maxRecDepth 100000 in
set_option maxHeartbeats 4000000 in
theorem first15_any (w : World) :
    Calls Try.prog 20 #[] w fun e w' => e = .returned (.bool true) ∧ Keeps No w w' := by
  have hm2 := fun wx => may_any zone37 2 three wf_37 wf_three (by decide) wx
  have hm3 := fun wx => may_any zone37 3 three wf_37 wf_three (by decide) wx
  have hh := fun wx => zholds_any 5 three three wf_three wf_three (by decide) wx
  rw [may37a] at hm2
  rw [may37b] at hm3
  rw [holds33] at hh
  unfold zone37 three seven Zo.agg Va.agg at hm2 hm3
  unfold three Va.agg at hh
  simp only at hm2 hm3 hh
  go_enter Try.func20, Try.ntmps20
  go_wp2_with fail
  refine (of_any _ 3 3 [three, Va.zero, seven] _ (SlK.lit w #[.int .i64 1, .int .i64 3, .string ⟨#[]⟩, .int .u64 0, .int .i64 0, .int .i64 0, .string ⟨#[]⟩, .int .u64 0, .int .i64 1, .int .i64 7, .string ⟨#[]⟩, .int .u64 0] 37 _ rfl (vals_wide _) 3 rfl (by decide)) ?_).mono ?_
  · intro v hv
    simp at hv
    rcases hv with rfl | rfl | rfl
    · exact wf_three
    · exact zero_wf
    · exact wf_seven'
  rw [of37]
  unfold zone37 three seven Zo.agg
  simp only
  rintro e w1 ⟨rfl, hk1⟩
  have hk01 : Keeps No w w1 := hk1.ofAlloc
  go_upto_region 3 with fail
  have hbz := ((Keeps.refl No (w1.alloc (.cells #[.int .i64 3, .int .i64 1, .int .i64 0, .int .i64 1, .int .i64 3, .string ByteArray.empty, .int .u64 0, .int .i64 1, .int .i64 7, .string ByteArray.empty, .int .u64 0] 39))).alloc (.cells #[.int .i64 1, .int .i64 3, .string ⟨#[]⟩, .int .u64 0] 37)).blk (heap_alloc_new w1 (.cells #[.int .i64 3, .int .i64 1, .int .i64 0, .int .i64 1, .int .i64 3, .string ByteArray.empty, .int .u64 0, .int .i64 1, .int .i64 7, .string ByteArray.empty, .int .u64 0] 39)) (not_No _)
  have hbt := heap_alloc_new (w1.alloc (.cells #[.int .i64 3, .int .i64 1, .int .i64 0, .int .i64 1, .int .i64 3, .string ByteArray.empty, .int .u64 0, .int .i64 1, .int .i64 7, .string ByteArray.empty, .int .u64 0] 39)) (.cells #[.int .i64 1, .int .i64 3, .string ⟨#[]⟩, .int .u64 0] 37)
  rw [show (w1.alloc (.cells #[.int .i64 3, .int .i64 1, .int .i64 0, .int .i64 1, .int .i64 3, .string ByteArray.empty, .int .u64 0, .int .i64 1, .int .i64 7, .string ByteArray.empty, .int .u64 0] 39)).heap.size = w1.heap.size + 1 from by simp] at hbt
  have hkW : Keeps No w1 ((w1.alloc (.cells #[.int .i64 3, .int .i64 1, .int .i64 0, .int .i64 1, .int .i64 3, .string ByteArray.empty, .int .u64 0, .int .i64 1, .int .i64 7, .string ByteArray.empty, .int .u64 0] 39)).alloc (.cells #[.int .i64 1, .int .i64 3, .string ⟨#[]⟩, .int .u64 0] 37)) := ((Keeps.refl No w1).alloc _).alloc _
  generalize ((w1.alloc (.cells #[.int .i64 3, .int .i64 1, .int .i64 0, .int .i64 1, .int .i64 3, .string ByteArray.empty, .int .u64 0, .int .i64 1, .int .i64 7, .string ByteArray.empty, .int .u64 0] 39)).alloc (.cells #[.int .i64 1, .int .i64 3, .string ⟨#[]⟩, .int .u64 0] 37)) = W at hbz hbt hkW ⊢
  obtain ⟨z0, z1, z2, z3, z4, z5, z6, z7, z8, z9, z10⟩ := row11 hbz
  obtain ⟨t0, t1, t2, t3⟩ := row4 hbt
  go_wp2_with fail
  refine (hm2 _).mono ?_
  rintro e w2 ⟨rfl, hk2⟩
  obtain ⟨z0, z1, z2, z3, z4, z5, z6, z7, z8, z9, z10⟩ := row11 (hk2.blk hbz (not_No _))
  obtain ⟨t0, t1, t2, t3⟩ := row4 (hk2.blk hbt (not_No _))
  go_wp2_with fail
  refine (hm3 _).mono ?_
  rintro e w3 ⟨rfl, hk3⟩
  obtain ⟨t0, t1, t2, t3⟩ := row4 ((hk2.transNo hk3).blk hbt (not_No _))
  go_wp2_with fail
  refine (hh _).mono ?_
  rintro e w4 ⟨rfl, hk4⟩
  go_wp2_with fail
  refine (flip_any 2 _).mono ?_
  rintro e w5 ⟨rfl, hk5⟩
  rw [show flipO 2 = 4 from by decide]
  go_wp2_with fail
  refine (neg_any 2 _).mono ?_
  rintro e w6 ⟨rfl, hk6⟩
  rw [show negO 2 = 5 from by decide]
  go_wp2_with fail
  go_ret
  exact ⟨rfl, (((((hk01.transNo hkW).transNo hk2).transNo hk3).transNo hk4).transNo hk5).transNo hk6⟩

def longB (l : List Va) : Bool := decide (200 < l.length) || l.any fun v => decide (200 < v.s.size)
theorem longB_small {l : List Va} (h : longB l = false) : l.length ≤ 200 ∧ ∀ v ∈ l, v.s.size ≤ 200 := by
  unfold longB at h
  simp only [Bool.or_eq_false_iff, decide_eq_false_iff_not, List.any_eq_false, decide_eq_true_eq] at h
  exact ⟨by omega, fun v hv => by have := h.2 v hv; omega⟩
set_option maxRecDepth 100000 in
set_option maxHeartbeats 2000000 in
theorem long_any (a : Option Addr) (n c : Nat) (l : List Va) (w : World) (hs : SlK w 4 a n c (l.map Va.cells)) (hn : n ≤ 140737488351232) : Calls Try.prog 21 #[.slice a n c] w fun e w' => e = .returned (.bool (longB l)) ∧ Keeps No w w' := by
  have hlen : l.length = n := by simpa using hs.len
  have Hlen := Lib.hid hlen
  clear hlen
  go_enter Try.func21, Try.ntmps21
  go_wp2_with fail
  go_loopg [7] n (fun q v7 wr => ∃ j : Nat, v7 = .int .i64 (j : Int) ∧ j ≤ n ∧ j ≤ 200 ∧ q = n - j ∧ (∀ i (h : i < l.length), i < j → l[i].s.size ≤ 200) ∧ Keeps No w wr)
  case atStart => exact ⟨0, rfl, Nat.zero_le _, Nat.zero_le _, rfl, fun i h hi => by omega, Keeps.refl _ _⟩
  case round =>
    obtain ⟨j, rfl, hj, hj2, hq, hall, hkr⟩ := hrel
    have Hq := Lib.hid hq
    have Hall := Lib.hid hall
    clear hq hall
    by_cases hlt : j < n
    · have hjl : j < l.length := by rw [Hlen.out]; exact hlt
      obtain ⟨v, hv⟩ : ∃ v, v = l[j] := ⟨_, rfl⟩
      have hsr := hs.kept hkr
      have hix := hsr.ix (P := Try.prog) Try.underlying32 (by kernel_rfl) hlt .i64
      have hld := (hsr.load (P := Try.prog) Try.underlying37 rfl (by kernel_rfl) hlt).1
      have hb : (l.map Va.cells).getD j [] = v.cells := by rw [hv]; simp [hjl]
      rw [hb] at hld
      have Hv := Lib.hid hv
      clear hv hb
      obtain ⟨k, nn, s, f⟩ := v
      unfold Va.cells at hld
      simp only at hld
      have hkA : Keeps No wr (wr.alloc (.cells #[.int .i64 k, .int .i64 nn, .string s, .int .u64 (f : Int)] 37)) := (Keeps.refl No wr).alloc _
      go_upto_region 4 with (refine wpList_loadV rfl 37 _ rfl _ rfl _ hld ?_)
      by_cases h200 : j = 200
      · have hr : longB l = true := by unfold longB; rw [decide_eq_true (by omega)]; rfl
        have Hr := Lib.hid hr
        clear hr
        subst h200
        go_wp2_with fail
        go_ret
        exact ⟨ret_bool Hr.out.symm, hkr.transNo hkA⟩
      · by_cases hbig : 200 < s.size
        · have hr : longB l = true := by
            unfold longB
            rw [Bool.or_eq_true]
            right
            rw [List.any_eq_true]
            exact ⟨l[j], List.getElem_mem hjl, by rw [← Hv.out]; exact decide_eq_true hbig⟩
          have Hr := Lib.hid hr
          clear hr
          go_wp2_with fail
          go_ret
          exact ⟨ret_bool Hr.out.symm, hkr.transNo hkA⟩
        · go_wp2_with fail
          go_roundg (n - (j + 1))
          case rel =>
            refine ⟨j + 1, by go_num, by omega, by omega, rfl, fun i h hi => ?_, hkr.transNo hkA⟩
            rcases Nat.lt_or_ge i j with h' | h'
            · exact Hall.out i h h'
            · obtain rfl : i = j := by omega
              rw [← Hv.out]
              exact Nat.le_of_not_lt hbig
          case measure => have := Hq.out; omega
    · obtain rfl : j = n := by omega
      have hr : longB l = false := by
        unfold longB
        rw [decide_eq_false (by have := Hlen.out; omega), Bool.false_or, List.any_eq_false]
        intro v hv
        obtain ⟨i, hi, rfl⟩ := List.mem_iff_getElem.1 hv
        have := Hall.out i hi (by have := Hlen.out; omega)
        simp
        omega
      have Hr := Lib.hid hr
      clear hr
      go_wp2_with fail
      go_ret
      exact ⟨ret_bool Hr.out.symm, hkr⟩

set_option maxRecDepth 100000 in
set_option maxHeartbeats 4000000 in
theorem zoneHolds_any (op : Int) (a b : Va) (hop : (Lit.int .i64 op).wf = true) (ha : a.wf) (hb : b.wf) (hsa : a.s.size ≤ 140737488351232) (hsb : b.s.size ≤ 140737488351232) (w : World) :
    Calls Try.prog 7 #[.int .i64 op, a.agg, b.agg] w fun e w' => e = .returned (.bool true) ∧ Keeps No w w' := by
  have hz := fun wx => zholds_any op a b ha hb hop wx
  have hr := fun wx => refholds_any op a b ha hb (by omega) (by omega) hop wx
  have wf' : ∀ o, (Lit.int .i64 o).wf = true → (Lit.int .i64 (flipO o)).wf = true ∧ (Lit.int .i64 (negO o)).wf = true := fun o ho => by
    by_cases h : 0 ≤ o ∧ o ≤ 5
    · rcases (show o = 0 ∨ o = 1 ∨ o = 2 ∨ o = 3 ∨ o = 4 ∨ o = 5 by omega) with rfl | rfl | rfl | rfl | rfl | rfl <;> decide
    · rw [(flip_out h).1, (flip_out h).2]; exact ⟨ho, ho⟩
  have hzf := fun wx => zholds_any (flipO op) b a hb ha (wf' op hop).1 wx
  have hzn := fun wx => zholds_any (negO op) a b ha hb (wf' op hop).2 wx
  rw [holds_flip] at hzf
  have hnn := holds_neg op a b
  have hff := flip_flip op
  have hgg := neg_neg' op
  generalize zholds op a b = T at hz hr hzf hnn
  generalize zholds (negO op) a b = N at hzn hnn
  have Hnn := Lib.hid hnn
  have Hff := Lib.hid hff
  have Hgg := Lib.hid hgg
  clear hnn hff hgg wf'
  obtain ⟨ka, na, sa, fa⟩ := a
  obtain ⟨kb, nb, sb, fb⟩ := b
  unfold Va.agg at hz hr hzf hzn ⊢
  simp only at hz hr hzf hzn hsa hsb ⊢
  go_enter Try.func7, Try.ntmps7
  go_upto_region 1 with fail
  have hbA := ((Keeps.refl No (w.alloc (.cells #[.int .i64 ka, .int .i64 na, .string sa, .int .u64 (fa : Int)] 37))).alloc (.cells #[.int .i64 kb, .int .i64 nb, .string sb, .int .u64 (fb : Int)] 37)).blk (heap_alloc_new w (.cells #[.int .i64 ka, .int .i64 na, .string sa, .int .u64 (fa : Int)] 37)) (not_No _)
  have hbB := heap_alloc_new (w.alloc (.cells #[.int .i64 ka, .int .i64 na, .string sa, .int .u64 (fa : Int)] 37)) (.cells #[.int .i64 kb, .int .i64 nb, .string sb, .int .u64 (fb : Int)] 37)
  rw [show (w.alloc (.cells #[.int .i64 ka, .int .i64 na, .string sa, .int .u64 (fa : Int)] 37)).heap.size = w.heap.size + 1 from by simp] at hbB
  have hkW : Keeps No w ((w.alloc (.cells #[.int .i64 ka, .int .i64 na, .string sa, .int .u64 (fa : Int)] 37)).alloc (.cells #[.int .i64 kb, .int .i64 nb, .string sb, .int .u64 (fb : Int)] 37)) := ((Keeps.refl No w).alloc _).alloc _
  generalize ((w.alloc (.cells #[.int .i64 ka, .int .i64 na, .string sa, .int .u64 (fa : Int)] 37)).alloc (.cells #[.int .i64 kb, .int .i64 nb, .string sb, .int .u64 (fb : Int)] 37)) = W at hbA hbB hkW ⊢
  go_wp2_with fail
  refine (first15_any _).mono ?_
  rintro e w1 ⟨rfl, hk1⟩
  have hk01 := hkW.transNo hk1
  have hbA1 := hk1.blk hbA (not_No _)
  have hbB1 := hk1.blk hbB (not_No _)
  clear hbA hbB hkW
  obtain ⟨a0, a1, a2, a3⟩ := row4 hbA1
  obtain ⟨b0, b1, b2, b3⟩ := row4 hbB1
  by_cases hbig : sa.size ≤ 300 ∧ sb.size ≤ 300
  case neg =>
    have hd : decide ((300 : Int) < max (sa.size : Int) (sb.size : Int)) = true := by simp; omega
    go_wp2_with fail
    go_ret
    exact ⟨rfl, hk01⟩
  have hd : decide ((300 : Int) < max (sa.size : Int) (sb.size : Int)) = false := by simp; omega
  go_wp2_with fail
  refine (hz _).mono ?_
  rintro e w2 ⟨rfl, hk2⟩
  have hfA := fun wx (hx : Keeps No w2 wx) => row4 ((hk2.transNo hx).blk hbA1 (not_No _))
  have hfB := fun wx (hx : Keeps No w2 wx) => row4 ((hk2.transNo hx).blk hbB1 (not_No _))
  have hk02 := hk01.transNo hk2
  clear a0 a1 a2 a3 b0 b1 b2 b3 hd
  go_wp2_with fail
  refine wp_region_held_drew (S := fun wx => Keeps No w2 wx) (by kernel_rfl) ((Keeps.refl _ _).drew) (fun hS => ?_)
  refine tk (i := 0) (oi := ⟨some 22, _, _, _, _, _⟩) (v := ?_) rfl (by kernel_rfl) (fun _ _ _ h => h) (by assumption) (by rfl) (fun w hSw => ?_) ?_; rotate_left; (focus (first | (go_simp; done) | (go_simp; with_reducible rfl))); simp only [Act.put, List.setIfInBounds_toArray, List.set_cons_zero, List.set_cons_succ]
  refine tk (i := 1) (oi := ⟨some 23, _, _, _, _, _⟩) (v := ?_) rfl (by kernel_rfl) (fun _ _ _ h => h) (by assumption) (by rfl) (fun w hSw => ?_) ?_; rotate_left; (focus (first | (go_simp; done) | (go_simp; with_reducible rfl))); simp only [Act.put, List.setIfInBounds_toArray, List.set_cons_zero, List.set_cons_succ]
  refine tk (i := 2) (oi := ⟨some 24, _, _, _, _, _⟩) (v := ?_) rfl (by kernel_rfl) (fun _ _ _ h => h) (by assumption) (by rfl) (fun w hSw => ?_) ?_; rotate_left; (focus (first | (go_simp; done) | (go_simp; with_reducible rfl))); simp only [Act.put, List.setIfInBounds_toArray, List.set_cons_zero, List.set_cons_succ]
  refine tk (i := 3) (oi := ⟨some 25, _, _, _, _, _⟩) (v := ?_) rfl (by kernel_rfl) (fun _ _ _ h => h) (by assumption) (by rfl) (fun w hSw => ?_) ?_; rotate_left; (focus (first | (go_simp; done) | (go_simp; with_reducible rfl))); simp only [Act.put, List.setIfInBounds_toArray, List.set_cons_zero, List.set_cons_succ]
  refine alone (i := 4) (oi := ⟨some 26, _, _, _, _, _⟩) rfl (by kernel_rfl) (by rfl) (fun K hK => ?_); go_simp
  refine (hr _).mono ?_
  rintro e w3 ⟨rfl, hk3⟩
  refine hK.out (fun wx => Keeps No w2 wx) _ _ (fun _ h => h) (hS.transNo hk3) ?_
  clear hK K hS
  intro hS
  refine tk (i := 5) (oi := ⟨some 27, _, _, _, _, _⟩) (v := ?_) rfl (by kernel_rfl) (fun _ _ _ h => h) (by assumption) (by rfl) (fun w hSw => ?_) ?_; rotate_left; (focus (first | (go_simp; done) | (go_simp; with_reducible rfl))); simp only [Act.put, List.setIfInBounds_toArray, List.set_cons_zero, List.set_cons_succ]
  refine tk (i := 6) (oi := ⟨some 28, _, _, _, _, _⟩) (v := ?_) rfl (by kernel_rfl) (fun _ _ _ h => h) (by assumption) (by rfl) (fun w hSw => ?_) ?_; rotate_left; (focus (first | (go_simp; done) | (go_simp; with_reducible rfl))); simp only [Act.put, List.setIfInBounds_toArray, List.set_cons_zero, List.set_cons_succ]
  refine tk (i := 7) (oi := ⟨some 29, _, _, _, _, _⟩) (v := ?_) rfl (by kernel_rfl) (fun _ _ _ h => h) (by assumption) (by rfl) (fun w hSw => ?_) ?_; rotate_left; (focus (first | (go_simp; done) | (go_simp; with_reducible rfl))); simp only [Act.put, List.setIfInBounds_toArray, List.set_cons_zero, List.set_cons_succ]
  refine tk (i := 8) (oi := ⟨some 30, _, _, _, _, _⟩) (v := ?_) rfl (by kernel_rfl) (fun _ _ _ h => h) (by assumption) (by rfl) (fun w hSw => ?_) ?_; rotate_left; (focus (first | (go_simp; done) | (go_simp; with_reducible rfl))); simp only [Act.put, List.setIfInBounds_toArray, List.set_cons_zero, List.set_cons_succ]
  refine tk (i := 10) (oi := ⟨some 32, _, _, _, _, _⟩) (v := ?_) rfl (by kernel_rfl) (fun _ _ _ h => h) (by assumption) (by rfl) (fun w hSw => ?_) ?_; rotate_left; (focus (first | (go_simp; done) | (go_simp; with_reducible rfl))); simp only [Act.put, List.setIfInBounds_toArray, List.set_cons_zero, List.set_cons_succ]
  refine tk (i := 11) (oi := ⟨some 33, _, _, _, _, _⟩) (v := ?_) rfl (by kernel_rfl) (fun _ _ _ h => h) (by assumption) (by rfl) (fun w hSw => ?_) ?_; rotate_left; (focus (first | (go_simp; done) | (go_simp; with_reducible rfl))); simp only [Act.put, List.setIfInBounds_toArray, List.set_cons_zero, List.set_cons_succ]
  refine alone (i := 9) (oi := ⟨some 31, _, _, _, _, _⟩) rfl (by kernel_rfl) (by rfl) (fun K hK => ?_); go_simp
  refine (flip_any op _).mono ?_
  rintro e w4 ⟨rfl, hk4⟩
  refine hK.out (fun wx => Keeps No w2 wx) _ _ (fun _ h => h) (hS.transNo hk4) ?_
  clear hK K hS
  intro hS
  refine alone (i := 12) (oi := ⟨some 34, _, _, _, _, _⟩) rfl (by kernel_rfl) (by rfl) (fun K hK => ?_); go_simp
  refine (hzf _).mono ?_
  rintro e w5 ⟨rfl, hk5⟩
  refine hK.out (fun wx => Keeps No w2 wx) _ _ (fun _ h => h) (hS.transNo hk5) ?_
  clear hK K hS
  intro hS
  refine tk (i := 13) (oi := ⟨some 35, _, _, _, _, _⟩) (v := ?_) rfl (by kernel_rfl) (fun _ _ _ h => h) (by assumption) (by rfl) (fun w hSw => ?_) ?_; rotate_left; (focus (first | (go_simp; done) | (go_simp; with_reducible rfl))); simp only [Act.put, List.setIfInBounds_toArray, List.set_cons_zero, List.set_cons_succ]
  refine tk (i := 14) (oi := ⟨some 36, _, _, _, _, _⟩) (v := ?_) rfl (by kernel_rfl) (fun _ _ _ h => h) (by assumption) (by rfl) (fun w hSw => ?_) ?_; rotate_left; (focus (first | (go_simp; done) | (go_simp; with_reducible rfl))); simp only [Act.put, List.setIfInBounds_toArray, List.set_cons_zero, List.set_cons_succ]
  refine tk (i := 15) (oi := ⟨some 37, _, _, _, _, _⟩) (v := ?_) rfl (by kernel_rfl) (fun _ _ _ h => h) (by assumption) (by rfl) (fun w hSw => ?_) ?_; rotate_left; (focus (first | (go_simp; done) | (go_simp; with_reducible rfl))); simp only [Act.put, List.setIfInBounds_toArray, List.set_cons_zero, List.set_cons_succ]
  refine tk (i := 16) (oi := ⟨some 38, _, _, _, _, _⟩) (v := ?_) rfl (by kernel_rfl) (fun _ _ _ h => h) (by assumption) (by rfl) (fun w hSw => ?_) ?_; rotate_left; (focus (first | (go_simp; done) | (go_simp; with_reducible rfl))); simp only [Act.put, List.setIfInBounds_toArray, List.set_cons_zero, List.set_cons_succ]
  refine tk (i := 17) (oi := ⟨some 39, _, _, _, _, _⟩) (v := ?_) rfl (by kernel_rfl) (fun _ _ _ h => h) (by assumption) (by rfl) (fun w hSw => ?_) ?_; rotate_left; (focus (first | (go_simp; done) | (go_simp; with_reducible rfl))); simp only [Act.put, List.setIfInBounds_toArray, List.set_cons_zero, List.set_cons_succ]
  refine tk (i := 19) (oi := ⟨some 41, _, _, _, _, _⟩) (v := ?_) rfl (by kernel_rfl) (fun _ _ _ h => h) (by assumption) (by rfl) (fun w hSw => ?_) ?_; rotate_left; (focus (first | (go_simp; done) | (go_simp; with_reducible rfl))); simp only [Act.put, List.setIfInBounds_toArray, List.set_cons_zero, List.set_cons_succ]
  refine tk (i := 20) (oi := ⟨some 42, _, _, _, _, _⟩) (v := ?_) rfl (by kernel_rfl) (fun _ _ _ h => h) (by assumption) (by rfl) (fun w hSw => ?_) ?_; rotate_left; (focus (first | (go_simp; done) | (go_simp; with_reducible rfl))); simp only [Act.put, List.setIfInBounds_toArray, List.set_cons_zero, List.set_cons_succ]
  refine alone (i := 18) (oi := ⟨some 40, _, _, _, _, _⟩) rfl (by kernel_rfl) (by rfl) (fun K hK => ?_); go_simp
  refine (neg_any op _).mono ?_
  rintro e w6 ⟨rfl, hk6⟩
  refine hK.out (fun wx => Keeps No w2 wx) _ _ (fun _ h => h) (hS.transNo hk6) ?_
  clear hK K hS
  intro hS
  refine alone (i := 21) (oi := ⟨some 43, _, _, _, _, _⟩) rfl (by kernel_rfl) (by rfl) (fun K hK => ?_); go_simp
  refine (hzn _).mono ?_
  rintro e w7 ⟨rfl, hk7⟩
  refine hK.out (fun wx => Keeps No w2 wx) _ _ (fun _ h => h) (hS.transNo hk7) ?_
  clear hK K hS
  intro hS
  refine alone (i := 22) (oi := ⟨some 44, _, _, _, _, _⟩) rfl (by kernel_rfl) (by rfl) (fun K hK => ?_); go_simp
  refine (refnot_any N _).mono ?_
  rw [Hnn.out]
  rintro e w8 ⟨rfl, rfl⟩
  refine hK.out (fun wx => Keeps No w2 wx) _ _ (fun _ h => h) (hS) ?_
  clear hK K hS
  intro hS
  refine tk (i := 23) (oi := ⟨some 45, _, _, _, _, _⟩) (v := ?_) rfl (by kernel_rfl) (fun _ _ _ h => h) (by assumption) (by rfl) (fun w hSw => ?_) ?_; rotate_left; (focus (first | (go_simp; done) | (go_simp; with_reducible rfl))); simp only [Act.put, List.setIfInBounds_toArray, List.set_cons_zero, List.set_cons_succ]
  refine tk (i := 24) (oi := ⟨some 46, _, _, _, _, _⟩) (v := ?_) rfl (by kernel_rfl) (fun _ _ _ h => h) (by assumption) (by rfl) (fun w hSw => ?_) ?_; rotate_left; (focus (first | (go_simp; done) | (go_simp; with_reducible rfl))); simp only [Act.put, List.setIfInBounds_toArray, List.set_cons_zero, List.set_cons_succ]
  refine wpAnyH_done (by kernel_rfl) ?_ _
  have hk08 := hk02.transNo hS
  clear hS
  go_wp2_with fail
  refine (flip_any op _).mono ?_
  rintro e w9 ⟨rfl, hk9⟩
  go_wp2_with fail
  refine (flip_any (flipO op) _).mono ?_
  rw [Hff.out]
  rintro e w10 ⟨rfl, hk10⟩
  go_wp2_with fail
  refine (neg_any op _).mono ?_
  rintro e w11 ⟨rfl, hk11⟩
  go_wp2_with fail
  refine (neg_any (negO op) _).mono ?_
  rw [Hgg.out]
  rintro e w12 ⟨rfl, hk12⟩
  go_wp2_with fail
  go_ret
  exact ⟨rfl, (((hk08.transNo hk9).transNo hk10).transNo hk11).transNo hk12⟩

set_option maxRecDepth 100000 in
set_option maxHeartbeats 4000000 in
theorem zoneOne_any (op : Int) (a b : Va) (hop : (Lit.int .i64 op).wf = true) (ha : a.wf) (hb : b.wf) (hsa : a.s.size ≤ 140737488351232) (hsb : b.s.size ≤ 140737488351232) (w : World) :
    Calls Try.prog 10 #[.int .i64 op, a.agg, b.agg] w fun e w' => e = .returned (.bool true) ∧ Keeps No w w' := by
  have hright := fun wx => refright_any a ha wx
  have hmay := fun wx => may_any (ofZ [a]) op b (ofZ_wf _ (fun v hv => by simp at hv; subst hv; exact ha)) hb hop wx
  have hz := fun wx => zholds_any op a b ha hb hop wx
  have hone := fun h => zone_one op a b h
  have hofa := fun (wx : World) p c hs => of_any p 1 c [a] wx hs (fun v hv => by simp at hv; subst hv; exact ha)
  generalize hZ : ofZ [a] = Z at hmay hone hofa
  generalize zmay Z op b = M at hmay hone
  generalize hT : zholds op a b = T at hz hone
  clear hT hZ
  have Hone := Lib.hid hone
  have Hofa := Lib.hid hofa
  clear hone hofa
  generalize hrr : rightV a = rb at hright Hone
  clear hrr
  obtain ⟨ka, na, sa, fa⟩ := a
  obtain ⟨kb, nb, sb, fb⟩ := b
  unfold Va.agg at hz hmay hright ⊢
  simp only at hz hmay hright hsa hsb ⊢
  go_enter Try.func10, Try.ntmps10
  go_upto_region 1 with fail
  have hbA := ((Keeps.refl No (w.alloc (.cells #[.int .i64 ka, .int .i64 na, .string sa, .int .u64 (fa : Int)] 37))).alloc (.cells #[.int .i64 kb, .int .i64 nb, .string sb, .int .u64 (fb : Int)] 37)).blk (heap_alloc_new w (.cells #[.int .i64 ka, .int .i64 na, .string sa, .int .u64 (fa : Int)] 37)) (not_No _)
  have hbB := heap_alloc_new (w.alloc (.cells #[.int .i64 ka, .int .i64 na, .string sa, .int .u64 (fa : Int)] 37)) (.cells #[.int .i64 kb, .int .i64 nb, .string sb, .int .u64 (fb : Int)] 37)
  rw [show (w.alloc (.cells #[.int .i64 ka, .int .i64 na, .string sa, .int .u64 (fa : Int)] 37)).heap.size = w.heap.size + 1 from by simp] at hbB
  have hkW : Keeps No w ((w.alloc (.cells #[.int .i64 ka, .int .i64 na, .string sa, .int .u64 (fa : Int)] 37)).alloc (.cells #[.int .i64 kb, .int .i64 nb, .string sb, .int .u64 (fb : Int)] 37)) := ((Keeps.refl No w).alloc _).alloc _
  generalize ((w.alloc (.cells #[.int .i64 ka, .int .i64 na, .string sa, .int .u64 (fa : Int)] 37)).alloc (.cells #[.int .i64 kb, .int .i64 nb, .string sb, .int .u64 (fb : Int)] 37)) = W at hbA hbB hkW ⊢
  go_wp2_with fail
  refine (first15_any _).mono ?_
  rintro e w1 ⟨rfl, hk1⟩
  have hk01 := hkW.transNo hk1
  have hbA1 := hk1.blk hbA (not_No _)
  have hbB1 := hk1.blk hbB (not_No _)
  clear hbA hbB hkW
  obtain ⟨a0, a1, a2, a3⟩ := row4 hbA1
  obtain ⟨b0, b1, b2, b3⟩ := row4 hbB1
  by_cases hbig : sa.size ≤ 200 ∧ sb.size ≤ 200
  case neg =>
    have hd : decide ((200 : Int) < max (sa.size : Int) (sb.size : Int)) = true := by simp; omega
    go_wp2_with fail
    go_ret
    exact ⟨rfl, hk01⟩
  have hd : decide ((200 : Int) < max (sa.size : Int) (sb.size : Int)) = false := by simp; omega
  go_wp2_with fail
  refine (hright _).mono ?_
  rintro e w2 ⟨rfl, hk2⟩
  have hk02 := hk01.transNo hk2
  cases rb
  case false =>
    go_wp2_with fail
    go_ret
    exact ⟨rfl, hk02⟩
  have hone := Hone.out rfl
  subst hone
  have hfA := fun wx (hx : Keeps No w2 wx) => row4 ((hk2.transNo hx).blk hbA1 (not_No _))
  have hfB := fun wx (hx : Keeps No w2 wx) => row4 ((hk2.transNo hx).blk hbB1 (not_No _))
  clear a0 a1 a2 a3 b0 b1 b2 b3 hd hright Hone
  obtain ⟨z1, z2, z3, ⟨z4, z5, z6, z7⟩, ⟨z8, z9, z10, z11⟩⟩ := Z
  unfold Zo.agg at hmay
  simp only at hmay
  have hof := Hofa.out
  unfold Zo.agg at hof
  simp only at hof
  have Hof := Lib.hid hof
  clear Hofa hof
  go_wp2_with fail
  refine wp_region_held_drew (S := fun wx => Keeps No w2 wx) (by kernel_rfl) ((Keeps.refl _ _).drew) (fun hS => ?_)
  refine tk (i := 0) (oi := ⟨some 22, _, _, _, _, _⟩) (v := ?_) rfl (by kernel_rfl) (fun _ _ _ h => h) (by assumption) (by rfl) (fun w hSw => ?_) ?_; rotate_left; (focus (first | (go_simp; done) | (go_simp; with_reducible rfl))); simp only [Act.put, List.setIfInBounds_toArray, List.set_cons_zero, List.set_cons_succ]
  refine tk (i := 3) (oi := ⟨some 25, _, _, _, _, _⟩) (v := ?_) rfl (by kernel_rfl) (fun _ _ _ h => h) (by assumption) (by rfl) (fun w hSw => ?_) ?_; rotate_left; (focus (first | (go_simp; done) | (go_simp; with_reducible rfl))); simp only [Act.put, List.setIfInBounds_toArray, List.set_cons_zero, List.set_cons_succ]
  refine tk (i := 4) (oi := ⟨some 26, _, _, _, _, _⟩) (v := ?_) rfl (by kernel_rfl) (fun _ _ _ h => h) (by assumption) (by rfl) (fun w hSw => ?_) ?_; rotate_left; (focus (first | (go_simp; done) | (go_simp; with_reducible rfl))); simp only [Act.put, List.setIfInBounds_toArray, List.set_cons_zero, List.set_cons_succ]
  refine tk (i := 6) (oi := ⟨some 28, _, _, _, _, _⟩) (v := ?_) rfl (by kernel_rfl) (fun _ _ _ h => h) (by assumption) (by rfl) (fun w hSw => ?_) ?_; rotate_left; (focus (first | (go_simp; done) | (go_simp; with_reducible rfl))); simp only [Act.put, List.setIfInBounds_toArray, List.set_cons_zero, List.set_cons_succ]
  refine tk (i := 7) (oi := ⟨some 29, _, _, _, _, _⟩) (v := ?_) rfl (by kernel_rfl) (fun _ _ _ h => h) (by assumption) (by rfl) (fun w hSw => ?_) ?_; rotate_left; (focus (first | (go_simp; done) | (go_simp; with_reducible rfl))); simp only [Act.put, List.setIfInBounds_toArray, List.set_cons_zero, List.set_cons_succ]
  refine tk (i := 8) (oi := ⟨some 30, _, _, _, _, _⟩) (v := ?_) rfl (by kernel_rfl) (fun _ _ _ h => h) (by assumption) (by rfl) (fun w hSw => ?_) ?_; rotate_left; (focus (first | (go_simp; done) | (go_simp; with_reducible rfl))); simp only [Act.put, List.setIfInBounds_toArray, List.set_cons_zero, List.set_cons_succ]
  refine alone (i := 1) (oi := ⟨some 23, _, _, _, _, _⟩) rfl (by kernel_rfl) (by rfl) (fun K hK => ?_); go_simp
  refine hK.out (fun wx => Keeps No w2 wx) _ _ (fun _ h => h) (hS.alloc _) ?_
  clear hK K hS
  intro hS
  refine alone (i := 2) (oi := ⟨some 24, _, _, _, _, _⟩) rfl (by kernel_rfl) (by rfl) (fun K hK => ?_); go_simp
  refine (Hof.out _ _ _ ((SlK.one w2 [.int .i64 ka, .int .i64 na, .string sa, .int .u64 (fa : Int)] 37 rfl).kept (Keeps.refl No _).drew)).mono ?_
  rintro e w3 ⟨rfl, hk3⟩
  refine hK.out (fun wx => Keeps No w2 wx) _ _ (fun _ h => h) (hS.transNo hk3) ?_
  clear hK K hS
  intro hS
  refine alone (i := 5) (oi := ⟨some 27, _, _, _, _, _⟩) rfl (by kernel_rfl) (by rfl) (fun K hK => ?_); go_simp
  refine (hmay _).mono ?_
  rintro e w4 ⟨rfl, hk4⟩
  refine hK.out (fun wx => Keeps No w2 wx) _ _ (fun _ h => h) (hS.transNo hk4) ?_
  clear hK K hS
  intro hS
  refine alone (i := 9) (oi := ⟨some 31, _, _, _, _, _⟩) rfl (by kernel_rfl) (by rfl) (fun K hK => ?_); go_simp
  refine (hz _).mono ?_
  rintro e w5 ⟨rfl, hk5⟩
  refine hK.out (fun wx => Keeps No w2 wx) _ _ (fun _ h => h) (hS.transNo hk5) ?_
  clear hK K hS
  intro hS
  refine tk (i := 10) (oi := ⟨some 32, _, _, _, _, _⟩) (v := ?_) rfl (by kernel_rfl) (fun _ _ _ h => h) (by assumption) (by rfl) (fun w hSw => ?_) ?_; rotate_left; (focus (first | (go_simp; done) | (go_simp; with_reducible rfl))); simp only [Act.put, List.setIfInBounds_toArray, List.set_cons_zero, List.set_cons_succ]
  refine tk (i := 11) (oi := ⟨some 33, _, _, _, _, _⟩) (v := ?_) rfl (by kernel_rfl) (fun _ _ _ h => h) (by assumption) (by rfl) (fun w hSw => ?_) ?_; rotate_left; (focus (first | (go_simp; done) | (go_simp; with_reducible rfl))); simp only [Act.put, List.setIfInBounds_toArray, List.set_cons_zero, List.set_cons_succ]
  refine tk (i := 12) (oi := ⟨some 6, _, _, _, _, _⟩) (v := ?_) rfl (by kernel_rfl) (fun _ _ _ h => h) (by assumption) (by rfl) (fun w hSw => ?_) ?_; rotate_left; (focus (first | (go_simp; done) | (go_simp; with_reducible rfl))); simp only [Act.put, List.setIfInBounds_toArray, List.set_cons_zero, List.set_cons_succ]
  refine wpAnyH_done (by kernel_rfl) ?_ _
  have hk08 := hk02.transNo hS
  clear hS
  go_wp2_with fail
  go_ret
  exact ⟨ret_bool (by by_cases h : T = 1 <;> simp [h]), hk08⟩
end Go.Proofs.Ytmhmpnbcjcmnnaa
