/- The walk of PageLater. -/
import Derived.Test.YthimnkmoeonheaaDoorLawSevenB
import Derived.Test.YthimnkmoeonheaaDoorRowKit
namespace Go.Proofs.YthimnkmoeonheaaDoor
open Go.RowKit
set_option linter.unusedSimpArgs false
set_option linter.unusedVariables false
set_option maxRecDepth 100000
attribute [local go_sem high] run_min_ints3

def D2 (W : List WR) : DS := ⟨List.replicate 2 (full []), W, none⟩
def pvOf (p : PG) (n : {n : Int // (Lit.int .i64 n).wf = true}) : PG := (p.1, p.2.1, n)
theorem later_w (W : List WR) (A : List AE) (p : PG) (b : List UInt8) (hb : ¬ badKey p.1) (hl : b.length ≤ 65536) : pwriteA (D2 W) A [] 1 p b = (D2 (W ++ [(1, full (bytes8 (A.length + 1)))]), A ++ [(p.1, besS p 1, b)], 0) :=
  pwriteA_ok (D2 W) A [] 1 p b rfl (by decide) (by show (1 : Int) < ((List.replicate 2 (full [])).length : Int); rw [List.length_replicate]; decide) hb hl (by simp)
theorem later_r (W : List WR) (A : List AE) (p q : PG) (b : List UInt8) (hA : A.length ≤ 100) : preadA (D2 (W ++ [(1, full (bytes8 (A.length + 1)))])) (A ++ [(p.1, besS p 1, b)]) [] 1 q = if q = p then (b, 0) else ([], 51) := by
  have hr : (D2 (W ++ [(1, full (bytes8 (A.length + 1)))])).read 1 = (full (bytes8 (A.length + 1)), 0) := by
    have := read_snoc (List.replicate 2 (full [])) W 1 (full (bytes8 (A.length + 1))) 1 (by rw [List.length_replicate]; decide)
    rw [if_pos rfl] at this
    exact this
  rw [preadA_h _ _ _ _ _ (A.length + 1) hr (by omega) (by omega), openA_page _ _ q p 1 1 b (A.length + 1) (by simp) (by omega) (by simp)]
  simp

set_option maxHeartbeats 4000000 in
theorem pageLater_any (p : PG) (ar : Option Addr) (n c : Nat) (L : List {n : Int // (Lit.int .i64 n).wf = true}) (w : World) (hs : Sl w ar n c (L.map i64V)) :
    Calls Tryd.prog 6 #[.agg (pgCells p).toArray, .slice ar n c] w fun e w' => e = .returned (.bool true) ∧ Keeps No w w' := by
  have hlen : L.length = n := by simpa using hs.len
  have hwm := hs.max
  have hwl := hs.le
  unfold maxLen at hwm
  have hk0 : Keeps No w (w.alloc (.cells (pgCells p).toArray 25)) := (Keeps.refl No w).alloc _
  have hP0 := heap_alloc_new w (.cells (pgCells p).toArray 25)
  unfold pgCells at hk0 hP0 ⊢
  go_enter Tryd.func6, Tryd.ntmps6
  go_wp2_with fail
  generalize (w.alloc (.cells #[.int .i64 p.1.1.1, .int .i64 p.1.2.1.1, .int .i64 p.1.2.2.1, .int .i64 p.2.1.1, .int .i64 p.2.2.1] 25)) = w0 at hk0 hP0 ⊢
  refine (first07_any _).mono ?_
  rintro e w1 ⟨rfl, hk1⟩
  have hP1 := hk1.blk hP0 (not_No _)
  have hk01 := hk0.transNo hk1
  have hz1 := (Array.getElem?_eq_some_iff.1 hP1).1
  clear hP0 hk0 hk1
  obtain ⟨c0, c1, c2, c3, c4⟩ := cells5 hP1
  by_cases hb : badKey p.1
  · have h0 : decide (min p.1.1.1 (min p.1.2.1.1 p.1.2.2.1) < 0) = true := decide_eq_true (by unfold badKey at hb; omega)
    have Hb := Lib.hid hb
    clear hb
    go_wp2_with fail
    go_ret
    exact ⟨rfl, hk01⟩
  have h0 : decide (min p.1.1.1 (min p.1.2.1.1 p.1.2.2.1) < 0) = false := by unfold badKey at hb; simp; omega
  have HB := Lib.hid hb
  clear hb
  go_wp2_with fail
  clear c0 c1 c2 c3 c4
  refine (d_new 2 w1 (by omega) (by omega)).mono ?_
  rintro e w2 ⟨bd, Fd, rfl, hd2, hF, hk2⟩
  go_wp2_with fail
  refine (f_new w2).mono ?_
  rintro e w3 ⟨bv, Fv, rfl, hv3, hF3, hk3⟩
  obtain ⟨F, hV, hFw⟩ := pvnew 2 w1 bd bv Fd Fv _ [] [] w2 w3 hd2 hF hv3 hF3 hk2 hk3
  have hD0 : (⟨List.replicate 2 (full []), [], none⟩ : DS) = D2 [] := rfl
  rw [hD0] at hV
  have hk13 := hk2.transNo hk3
  have hk03 := hk01.transNo hk13
  have hP3 := hk13.blk hP1 (not_No _)
  have hz13 := hk13.size
  clear hd2 hv3 hF hF3 hk2 hk3 hD0 hk01 hP1 hk13
  obtain ⟨c0, c1, c2, c3, c4⟩ := cells5 hP3
  have kc := convB
  have hlA := Sl.litK w3 #[.int .u8 102, .int .u8 105, .int .u8 114, .int .u8 115, .int .u8 116] 5 (5, 6) [102, 105, 114, 115, 116] rfl 5 rfl (by decide)
  have hkB : Keeps No w3 (w3.alloc (.cells #[.int .u8 102, .int .u8 105, .int .u8 114, .int .u8 115, .int .u8 116] 5 (5, 6))) := (Keeps.refl No _).alloc _
  have hcall := pwrite_any bd bv F (D2 []) [] [] 1 p _ _ _ [102, 105, 114, 115, 116] _ (hV.kept hkB) (by decide) (by show 0 ≤ _; omega) (by show 0 ≤ _; omega) hlA (by omega)
  rw [later_w [] [] p _ HB.out (by decide)] at hcall
  unfold PWPost pgCells at hcall
  go_wp2_with fail
  refine hcall.mono ?_
  rintro e w5 ⟨rfl, F5, hV5, hs5⟩
  have hk05 : Keeps No w w5 := (hk03.transNo hkB).trans hs5.keeps (fun i hi h => by have := hFw i h; omega)
  have hF5 : ∀ i, F5 i → w1.heap.size ≤ i := fun i hi => (hs5.fresh i hi).elim (hFw i) (fun h => Nat.le_trans hz13 (Nat.le_trans hkB.size h))
  have hP5 := hs5.keeps.blk (hkB.blk hP3 (not_No _)) (fun h => by have := hFw _ h; omega)
  have hz15 : w1.heap.size ≤ w5.heap.size := Nat.le_trans hz13 (Nat.le_trans hkB.size hs5.keeps.size)
  clear hcall hs5 hlA hkB hP3 hFw c0 c1 c2 c3 c4 hV hk03 kc
  have Hlen := Lib.hid hlen
  clear hlen
  go_wp2_with fail
  go_loopg [8, 46] n (fun q v8 v46 wr => ∃ (k : Nat) (lst : {n : Int // (Lit.int .i64 n).wf = true}) (F : Nat → Prop) (W : List WR) (A : List AE), k ≤ n ∧ q = n - k ∧ v46 = .int .i64 (k : Int) ∧ v8 = .int .i64 lst.1 ∧ PV wr bd bv F (D2 W) A [] ∧ W.length = A.length ∧ A.length ≤ k + 1 ∧ A.length ≤ 21 ∧ (∀ i, F i → w1.heap.size ≤ i) ∧ Keeps No w wr ∧
    wr.heap[w.heap.size]? = some (.cells #[.int .i64 p.1.1.1, .int .i64 p.1.2.1.1, .int .i64 p.1.2.2.1, .int .i64 p.2.1.1, .int .i64 p.2.2.1] 25 (0, 0)) ∧ w1.heap.size ≤ wr.heap.size)
  case atStart => exact ⟨0, p.2.2, F5, _, _, by omega, rfl, rfl, rfl, hV5, rfl, by simp, by simp, hF5, hk05, hP5, hz15⟩
  case round =>
    obtain ⟨k, lst, F6, W, A, hk, hq, rfl, rfl, hV6, hWA, hA1, hA2, hF6, hk6, hP6, hzz⟩ := hrel
    have Hq := Lib.hid hq
    clear hq
    by_cases hlt : k < n
    · have hkL : k < L.length := by rw [Hlen.out]; exact hlt
      have hix := hs.ix (P := Tryd.prog) Tryd.underlying50 (by kernel_rfl) hlt .i64
      have hcm := (hs.kept hk6).at_ hlt
      obtain ⟨x, hx⟩ : ∃ x, x = L[k] := ⟨_, rfl⟩
      have hbv : (L.map i64V).getD k undef = .int .i64 x.1 := by rw [hx]; simp [hkL, i64V]
      rw [hbv] at hcm
      have Hx := Lib.hid hx
      clear hx hbv
      have hz6 := (Array.getElem?_eq_some_iff.1 hP6).1
      by_cases h20 : 20 ≤ k
      · have n1 : decide ((20 : Int) ≤ (k : Int)) = true := decide_eq_true (by omega)
        go_wp2_with fail
        go_roundg (n - (k + 1))
        case measure => have := Hq.out; omega
        case rel => exact ⟨k + 1, lst, F6, W, A, by omega, rfl, by go_num, rfl, hV6, hWA, by omega, hA2, hF6, hk6, hP6, hzz⟩
      have n1 : decide ((20 : Int) ≤ (k : Int)) = false := decide_eq_false (by omega)
      by_cases hxl : x.1 = lst.1
      · have n2 : (x.1 == lst.1) = true := by rw [beq_iff_eq]; exact hxl
        have Hxl := Lib.hid hxl
        clear hxl
        go_wp2_with fail
        go_roundg (n - (k + 1))
        case measure => have := Hq.out; omega
        case rel => exact ⟨k + 1, lst, F6, W, A, by omega, rfl, by go_num, rfl, hV6, hWA, by omega, hA2, hF6, hk6, hP6, hzz⟩
      have n2 : (x.1 == lst.1) = false := by rw [beq_eq_false_iff_ne]; exact hxl
      have Hxl := Lib.hid hxl
      clear hxl
      obtain ⟨c0, c1, c2, c3, c4⟩ := cells5 hP6
      go_wp2_with fail
      have hk20 : k < 20 := by omega
      have hcw : (pgCells (pvOf p lst)).toArray = #[.int .i64 p.1.1.1, .int .i64 p.1.2.1.1, .int .i64 p.1.2.2.1, .int .i64 p.2.1.1, .int .i64 lst.1] := rfl
      have hcq : (pgCells (pvOf p x)).toArray = #[.int .i64 p.1.1.1, .int .i64 p.1.2.1.1, .int .i64 p.1.2.2.1, .int .i64 p.2.1.1, .int .i64 x.1] := rfl
      have hkW : Keeps No wr (wr.alloc (.cells #[.int .i64 p.1.1.1, .int .i64 p.1.2.1.1, .int .i64 p.1.2.2.1, .int .i64 p.2.1.1, .int .i64 lst.1] 25)) := (Keeps.refl No wr).alloc _
      have hW7 := heap_alloc_new wr (.cells #[.int .i64 p.1.1.1, .int .i64 p.1.2.1.1, .int .i64 p.1.2.2.1, .int .i64 p.2.1.1, .int .i64 lst.1] 25)
      have hkQ : Keeps No (wr.alloc (.cells #[.int .i64 p.1.1.1, .int .i64 p.1.2.1.1, .int .i64 p.1.2.2.1, .int .i64 p.2.1.1, .int .i64 lst.1] 25)) ((wr.alloc (.cells #[.int .i64 p.1.1.1, .int .i64 p.1.2.1.1, .int .i64 p.1.2.2.1, .int .i64 p.2.1.1, .int .i64 lst.1] 25)).alloc (.cells #[.int .i64 p.1.1.1, .int .i64 p.1.2.1.1, .int .i64 p.1.2.2.1, .int .i64 p.2.1.1, .int .i64 x.1] 25)) := (Keeps.refl No _).alloc _
      have hQ7 := heap_alloc_new (wr.alloc (.cells #[.int .i64 p.1.1.1, .int .i64 p.1.2.1.1, .int .i64 p.1.2.2.1, .int .i64 p.2.1.1, .int .i64 lst.1] 25)) (.cells #[.int .i64 p.1.1.1, .int .i64 p.1.2.1.1, .int .i64 p.1.2.2.1, .int .i64 p.2.1.1, .int .i64 x.1] 25)
      rw [show (wr.alloc (.cells #[.int .i64 p.1.1.1, .int .i64 p.1.2.1.1, .int .i64 p.1.2.2.1, .int .i64 p.2.1.1, .int .i64 lst.1] 25)).heap.size = wr.heap.size + 1 from by simp] at hQ7
      have hz7 : ((wr.alloc (.cells #[.int .i64 p.1.1.1, .int .i64 p.1.2.1.1, .int .i64 p.1.2.2.1, .int .i64 p.2.1.1, .int .i64 lst.1] 25)).alloc (.cells #[.int .i64 p.1.1.1, .int .i64 p.1.2.1.1, .int .i64 p.1.2.2.1, .int .i64 p.2.1.1, .int .i64 x.1] 25)).heap.size = wr.heap.size + 2 := by simp
      replace hW7 := hkQ.blk hW7 (not_No _)
      have hk67 := hkW.transNo hkQ
      generalize hw7 : ((wr.alloc (.cells #[.int .i64 p.1.1.1, .int .i64 p.1.2.1.1, .int .i64 p.1.2.2.1, .int .i64 p.2.1.1, .int .i64 lst.1] 25)).alloc (.cells #[.int .i64 p.1.1.1, .int .i64 p.1.2.1.1, .int .i64 p.1.2.2.1, .int .i64 p.2.1.1, .int .i64 x.1] 25)) = w7 at hQ7 hW7 hk67 hz7 ⊢
      clear hw7 hkW hkQ c0 c1 c2 c3 c4
      have hV7 := hV6.kept hk67
      have hP7 := hk67.blk hP6 (not_No _)
      have hlB := Sl.litK w7 #[.int .u8 (k : Int)] 5 (0, 0) [UInt8.ofNat k] (by simp [byteV]; omega) 1 rfl (by decide)
      rw [hz7] at hlB
      have hkB : Keeps No w7 (w7.alloc (.cells #[.int .u8 (k : Int)] 5)) := (Keeps.refl No _).alloc _
      have hcall := pwrite_any bd bv F6 (D2 W) A [] 1 (pvOf p x) _ _ _ [UInt8.ofNat k] _ (hV7.kept hkB) (by decide) (by omega) (by show W.length ≤ _; omega) hlB (by omega)
      rw [later_w W A (pvOf p x) _ HB.out (by simp), hcq] at hcall
      unfold PWPost at hcall
      refine hcall.mono ?_
      rintro e w8 ⟨rfl, F8, hV8, hs8⟩
      have hlt6 := hV6.lt
      have hk8 : Keeps No w w8 := (hk6.transNo (hk67.transNo hkB)).trans hs8.keeps (fun i hi h => absurd (hF6 i h) (by omega))
      have hF8 : ∀ i, F8 i → w1.heap.size ≤ i := fun i hi => (hs8.fresh i hi).elim (hF6 i) (fun h => by have := hk67.size; have := hkB.size; omega)
      have hP8 := hs8.keeps.blk (hkB.blk hP7 (not_No _)) (fun h => by have := hF6 _ h; omega)
      have hW8 := hs8.keeps.blk (hkB.blk hW7 (not_No _)) (fun h => by have := hlt6 _ h; omega)
      have hQ8 := hs8.keeps.blk (hkB.blk hQ7 (not_No _)) (fun h => by have := hlt6 _ h; omega)
      have hz8 := Nat.le_trans (Nat.le_trans hk67.size hkB.size) hs8.keeps.size
      clear hcall hs8 hlB hkB hP7 hW7 hQ7 hV7 hV6 hk67 hk6 hP6
      obtain ⟨c0, c1, c2, c3, c4⟩ := cells5 hQ8
      have hcall := pread_any bd bv F8 _ _ [] 1 (pvOf p x) w8 hV8 (by decide) (by simp; omega)
      rw [later_r W A (pvOf p x) (pvOf p x) _ (by omega), if_pos rfl, hcq] at hcall
      go_wp2_with fail
      refine hcall.mono ?_
      rintro e w9 ⟨v9, rfl, hk9, hown9⟩
      obtain ⟨a9, c9, rfl, hs9, _⟩ := Sl.ofOwn hown9
      have hP9 := hk9.blk hP8 (not_No _)
      have hW9 := hk9.blk hW8 (not_No _)
      have hV9 := hV8.kept hk9
      have hk09 := hk8.transNo hk9
      have hz89 := hk9.size
      clear hcall c0 c1 c2 c3 c4 hown9 hP8 hQ8 hk9 hk8 hV8
      obtain ⟨c0, c1, c2, c3, c4⟩ := cells5 hW9
      have hne : pvOf p lst ≠ pvOf p x := fun h => Hxl.out (by have := congrArg (fun z : PG => z.2.2.1) h; exact this.symm)
      have hcall := pread_any bd bv F8 _ _ [] 1 (pvOf p lst) w9 hV9 (by decide) (by simp; omega)
      rw [later_r W A (pvOf p x) (pvOf p lst) _ (by omega), if_neg hne, hcw] at hcall
      have hne := Lib.hid hne
      go_wp2_with fail
      refine hcall.mono ?_
      rintro e wa ⟨va, rfl, hka, howna⟩
      have hsa := hs9.kept hka
      simp only [List.length_cons, List.length_nil, Nat.zero_add] at hsa
      have hstr := strB hsa
      have hPa := hka.blk hP9 (not_No _)
      have hVa := hV9.kept hka
      have hk0a := hk09.transNo hka
      have hz9a := hka.size
      have hlC := Sl.litK wa #[.int .u8 (k : Int)] 5 (0, 0) [UInt8.ofNat k] (by simp [byteV]; omega) 1 rfl (by decide)
      have hkC : Keeps No wa (wa.alloc (.cells #[.int .u8 (k : Int)] 5)) := (Keeps.refl No _).alloc _
      have hstr2 := strB hlC
      have heq : (([UInt8.ofNat k] : List UInt8) == (⟨[UInt8.ofNat k].toArray⟩ : ByteArray).toList) = true := by rw [ByteArray.toList_eq, beq_iff_eq]
      clear hcall c0 c1 c2 c3 c4
      have hzC := hkC.size
      go_wp2_with fail
      go_roundg (n - (k + 1))
      case measure => have := Hq.out; omega
      case rel => exact ⟨k + 1, x, F8, _, _, by omega, rfl, by go_num, rfl, hVa.kept hkC, by simp [hWA], by simp; omega, by simp; omega, hF8, hk0a.transNo hkC, hkC.blk hPa (not_No _), by omega⟩
    · obtain rfl : k = n := by omega
      go_wp2_with fail
      go_ret
      exact ⟨rfl, hk6⟩
theorem pageLater_walk (p : PG) (ar : Option Addr) (n c : Nat) (L : List {n : Int // (Lit.int .i64 n).wf = true}) (w : World) (hs : Sl w ar n c (L.map i64V)) (_ : n * 8 ≤ reachBytes) :
    Calls Tryd.prog 6 #[.agg (pgCells p).toArray, .slice ar n c] w fun e w' => e = .returned (.bool true) ∧ Keeps No w w' := pageLater_any p ar n c L w hs
end Go.Proofs.YthimnkmoeonheaaDoor
