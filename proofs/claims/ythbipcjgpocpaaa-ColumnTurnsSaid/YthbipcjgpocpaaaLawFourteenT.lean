/- The walk of the statement ColumnTurns. -/
import Derived.Test.YthbipcjgpocpaaaLawFourteen
namespace Go.Proofs.Ythbipcjgpocpaaa
open Go.RowKit
set_option linter.unusedSimpArgs false
set_option linter.unusedVariables false
set_option maxRecDepth 100000

set_option maxHeartbeats 4000000 in
theorem columnTurns_any (k : Int) (a : Option Addr) (n c : Nat) (L : List Va) (w : World) (hs : SlK w 4 a n c (L.map Va.cells)) (hL : ∀ v ∈ L, v.wf) (hn : n ≤ 140737488351232) :
    Calls Try.prog 9 #[.int .i64 k, .slice a n c] w fun e w' => e = .returned (.bool true) ∧ Keeps No w w' := by
  have hlen : L.length = n := by simpa using hs.len
  have Hlen := Lib.hid hlen
  have hput := fun wx hs => colput_any k a n c L wx hs hL
  have hcodes := fun wx hs => codes_any k a n c L wx hs hL
  have HL := Lib.hid hL
  clear hlen hL
  go_enter Try.func9, Try.ntmps9
  go_wp2_with fail
  refine (first14_any _).mono ?_
  rintro e w1 ⟨rfl, hk1⟩
  by_cases hbig : 200 < n
  · go_wp2_with fail
    go_ret
    exact ⟨rfl, hk1⟩
  have hs1 := hs.kept hk1
  go_wp2_with fail
  go_loopg [21, 5] n (fun q i bv wr => ∃ (m : Nat) (X : List Va), m ≤ n ∧ q = n - m ∧ i = .int .i64 (m : Int) ∧ Hid (X = L.reverse.take m) ∧ X.length = m ∧ wr.ownsRow w1.heap.size 39 4 bv m (X.map Va.cells).flatten ∧ Keeps No w1 wr)
  case atStart => exact ⟨0, [], Nat.zero_le _, rfl, rfl, Lib.hid rfl, rfl, World.ownsRow_nil _ _ _ _, Keeps.refl _ _⟩
  case round =>
    obtain ⟨m, X, hm, hq, rfl, HX, hXl, hown, hkr⟩ := hrel
    have Hq := Lib.hid hq
    have HXl := Lib.hid hXl
    have hzr := hkr.size
    clear hq hXl
    by_cases hlt : m < n
    · have hlt' : n - 1 - m < L.length := by rw [Hlen.out]; omega
      have hltn : n - 1 - m < n := by omega
      have hsr := hs1.kept hkr
      have hix := hsr.ixz (P := Try.prog) Try.underlying33 val_size ((n : Int) - 1 - (m : Int)) (i := n - 1 - m) (by omega) hltn .i64
      obtain ⟨hld, _⟩ := hsr.load (P := Try.prog) (ty := 39) Try.underlying39 rfl val_size hltn
      rw [vget L hlt'] at hld
      obtain ⟨x, hx⟩ : ∃ x, x = L.getD (n - 1 - m) Va.zero := ⟨_, rfl⟩
      rw [← hx] at hld
      have hmr : m < L.reverse.length := by rw [List.length_reverse, Hlen.out]; exact hlt
      have htk : L.reverse.take (m + 1) = L.reverse.take m ++ [x] := by
        rw [List.take_succ_eq_append_getElem hmr, List.getElem_reverse, hx]
        simp only [Hlen.out]
        simp [hlt']
      have Htk := Lib.hid htk
      clear hx htk hsr
      obtain ⟨xk, xn, xs, xf⟩ := x
      unfold Va.cells at hld
      simp only at hld
      have hkB : Keeps No wr (wr.alloc (.cells #[.int .i64 xk, .int .i64 xn, .string xs, .int .u64 (xf : Int)] 39)) := (Keeps.refl No wr).alloc _
      have hownB := hkB.own hown (fun _ _ => not_No _)
      have hone : SlK (wr.alloc (.cells #[.int .i64 xk, .int .i64 xn, .string xs, .int .u64 (xf : Int)] 39)) 4 (some ⟨wr.heap.size, 0, none⟩) 1 1 [Va.cells ⟨xk, xn, xs, xf⟩] := SlK.one wr (Va.cells ⟨xk, xn, xs, xf⟩) 39 rfl
      go_wp2_with (first | (refine wpList_loadV (op := ⟨some 32, _, _, _, _, _⟩) rfl 39 (.tmp 31) rfl _ rfl _ hld ?_) | (at_builtin; go_loud (refine app_ownK rfl _ _ 33 rfl w1.heap.size 39 _ 4 40 Try.underlying33 val_info rfl (by decide) (by decide) _ m (X.map Va.cells).flatten rfl hownB _ 1 1 [Va.cells ⟨xk, xn, xs, xf⟩] rfl hone ?h1 ?hb ?hB ?_)))
      case h1 => exact vals_one [⟨xk, xn, xs, xf⟩]
      case hb => omega
      case hB => simp; omega
      intro v7 w7 hown7 hg7 _
      go_wp2_with fail
      go_roundg (n - (m + 1))
      case measure => have := Hq.out; omega
      case rel =>
        refine ⟨m + 1, X ++ [⟨xk, xn, xs, xf⟩], by omega, rfl, by go_num, Lib.hid (by rw [Htk.out, HX.out]), by rw [List.length_append, HXl.out]; rfl, ?_, (hkr.transNo hkB).grown hg7 (fun i hi hlt2 => by have := (hown.lt i hi).1; exact absurd hlt2 (by omega))⟩
        rw [List.map_append, List.flatten_append]; exact hown7
    · obtain rfl : m = n := by omega
      have hXr : X = L.reverse := by rw [HX.out, List.take_of_length_le (by rw [List.length_reverse, Hlen.out]; exact Nat.le_refl _)]
      obtain ⟨aX, cX, rfl, hsX, _⟩ := SlK.ofOwn (k := 4) (by decide) (vals_wide X) hown
      have HXr := Lib.hid hXr
      have hXw : ∀ v ∈ X, v.wf := fun v hv => HL.out v (by rw [hXr] at hv; exact List.mem_reverse.1 hv)
      have hrr : rightC k X = rightC k L := by rw [hXr]; exact right_reverse k L
      have hcc : codesL k X = codesL k L := by rw [hXr]; exact codes_reverse k L
      have hll : (colPut k X).length = (colPut k L).length := by rw [hXr]; exact colPut_reverse k L
      have Hrr := Lib.hid hrr
      have Hcc := Lib.hid hcc
      have Hll := Lib.hid hll
      have HXw := Lib.hid hXw
      have hsr := hs1.kept hkr
      clear hXr hrr hcc hll hXw HX hown
      go_wp2_with fail
      refine (hput _ hsr).mono ?_
      intro e w2 h2
      cases hr : rightC k L with
      | false =>
        obtain ⟨rfl, hk2⟩ := h2.outNo hr
        have hr' : rightC k X = false := by rw [Hrr.out, hr]
        have Hr' := Lib.hid hr'
        clear hr hr' h2
        go_wp2_with fail
        refine (colput_any k aX m cX X _ (hsX.kept hk2) HXw.out).mono ?_
        intro e w3 h3
        obtain ⟨rfl, hk3⟩ := h3.outNo Hr'.out
        clear h3
        go_wp2_with fail
        go_ret
        exact ⟨rfl, ((hk1.transNo hkr).transNo hk2).transNo hk3⟩
      | true =>
        obtain ⟨a2, c2, rfl, hs2, hk2⟩ := h2.outOk hr
        have hr' : rightC k X = true := by rw [Hrr.out, hr]
        have Hr' := Lib.hid hr'
        clear hr hr' h2
        go_wp2_with fail
        refine (colput_any k aX m cX X _ (hsX.kept hk2) HXw.out).mono ?_
        intro e w3 h3
        obtain ⟨a3, c3, rfl, hs3, hk3⟩ := h3.outOk Hr'.out
        have hcl := colPut_len Hr'.out HXw.out
        rw [Hll.out] at hs3 hcl ⊢
        clear h3
        go_wp2_with fail
        refine (colget_any a3 _ c3 _ _ hs3 (by omega)).mono ?_
        intro e w4 h4
        obtain ⟨a4, c4, rfl, hs4, hk4⟩ := h4.outPut Hr'.out HXw.out
        rw [HXl.out] at hs4 ⊢
        clear h4
        have hkA := (hk2.transNo hk3).transNo hk4
        have hsX4 := hsX.kept hkA
        go_wp2_with fail
        refine (vsame_any _ _ _ X _ _ _ X _ hs4 hsX4 (by omega)).mono ?_
        rintro e w5 ⟨rfl, hk5⟩
        rw [decide_eq_true rfl]
        have hkB := hkA.transNo hk5
        have hs5 := hsr.kept hkB
        have hsX5 := hsX.kept hkB
        go_wp2_with fail
        refine (hcodes _ hs5).mono ?_
        rintro e w6 ⟨a6, c6, rfl, hs6, hk6⟩
        clear hcodes hput
        have hsX6 := hsX5.kept hk6
        have hkC := hkB.transNo hk6
        go_wp2_with fail
        refine (codes_any k aX m cX X _ hsX6 HXw.out).mono ?_
        rintro e w7 ⟨a7, c7, rfl, hs7, hk7⟩
        rw [Hcc.out] at hs7 ⊢
        have hs67 := hs6.kept hk7
        have hc4 : (codesL k L).length ≤ 4 := by unfold codesL; split; rw [sizesC_eq]; simp; simp
        go_wp2_with fail
        refine (rsame_any _ _ _ (codesL k L) _ _ _ (codesL k L) _ hs67 hs7 (by omega) (by omega)).mono ?_
        rintro e w8 ⟨rfl, hk8⟩
        rw [decide_eq_true rfl]
        go_wp2_with fail
        go_ret
        exact ⟨ret_bool (by simp), (((hk1.transNo hkr).transNo hkC).transNo hk7).transNo hk8⟩
theorem columnTurns_walk (k : Int) (a : Option Addr) (n c : Nat) (l : List VR) (w : World) (hk : (Lit.int .i64 k).wf = true) (hs : SlK w 4 a n c (l.map vrCells)) (hn : n * 40 ≤ 140737488351232) :
    Calls Try.prog 9 #[.int .i64 k, .slice a n c] w fun e w' => e = .returned (.bool true) ∧ Keeps No w w' := by
  rw [vr_map] at hs
  exact columnTurns_any k a n c _ w hs (vr_all l) (by omega)
end Go.Proofs.Ythbipcjgpocpaaa
