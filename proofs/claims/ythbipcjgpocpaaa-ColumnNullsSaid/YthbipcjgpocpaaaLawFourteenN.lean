/- The walk of the statement ColumnNulls. -/
import Derived.Test.YthbipcjgpocpaaaLawFourteen
namespace Go.Proofs.Ythbipcjgpocpaaa
open Go.RowKit
set_option linter.unusedSimpArgs false
set_option linter.unusedVariables false
set_option maxRecDepth 100000

theorem own_apart {w w' : World} {b2 k2 n2 : Nat} {e2 : TypeId} {v1 v2 : Value} {x2 : List Value} (h2 : w.ownsRow b2 e2 k2 v2 n2 x2) (hg : w.grownBy w' v1.ownBlock) (hd : ∀ g, v1.ownBlock = some g → v2.ownBlock ≠ some g) : w'.ownsRow b2 e2 k2 v2 n2 x2 := by
  refine ⟨h2.1, ?_⟩
  rcases h2.2 with hn | ⟨g, cap, cur, rfl, hb, hgg, rest⟩
  · exact .inl hn
  · exact .inr ⟨g, cap, cur, rfl, hb, (hg.block g ((Array.getElem?_eq_some_iff.1 hgg).1) (fun e => hd g e.symm rfl)).trans hgg, rest⟩
theorem full_full (L : List Va) : fullC (fullC L) = fullC L := by unfold fullC; rw [List.filter_filter]; simp
theorem full_app (A B : List Va) : fullC (A ++ B) = fullC A ++ fullC B := by simp [fullC]
theorem ok_zero (k : Int) : okC k Va.zero = true := by
  unfold okC
  rw [show rightV Va.zero = true by decide]
  simp [Va.zero]
/-- The mixed list beside the full one. -/
structure Mix (k : Int) (X M : List Va) (m : Nat) : Prop where
  full : fullC M = X
  all : M.all (okC k) = X.all (okC k)
  lenX : X.length ≤ m
  lenM : M.length ≤ 2 * m
  wf : ∀ v ∈ M, v.wf
  wfX : ∀ v ∈ X, v.wf
theorem Mix.add {k : Int} {X M : List Va} {m : Nat} (h : Mix k X M m) {x : Va} (hx : x.wf) (hk : x.k ≠ 0) (b : Bool) : Mix k (X ++ [x]) ((if b = true then M ++ [Va.zero] else M) ++ [x]) (m + 1) := by
  have hz : fullC [Va.zero] = [] := by decide
  have h1 : fullC [x] = [x] := by simp [fullC, hk]
  have hzw : Va.zero.wf := ⟨by decide, by decide, by decide⟩
  cases b
  · refine ⟨by simp only [Bool.false_eq_true, if_false]; rw [full_app, h.full, h1], by simp only [Bool.false_eq_true, if_false]; rw [List.all_append, List.all_append, h.all], by have := h.lenX; simp; omega, by have := h.lenM; simp; omega, fun v hv => ?_, fun v hv => ?_⟩
    · simp only [Bool.false_eq_true, if_false] at hv
      rcases List.mem_append.1 hv with h' | h'
      · exact h.wf v h'
      · simp at h'; rw [h']; exact hx
    · rcases List.mem_append.1 hv with h' | h'
      · exact h.wfX v h'
      · simp at h'; rw [h']; exact hx
  · refine ⟨by simp only [if_true]; rw [full_app, full_app, h.full, h1, hz, List.append_nil], by simp only [if_true]; rw [List.all_append, List.all_append, List.all_append, h.all]; simp [ok_zero], by have := h.lenX; simp; omega, by have := h.lenM; simp; omega, fun v hv => ?_, fun v hv => ?_⟩
    · simp only [if_true] at hv
      rcases List.mem_append.1 hv with h' | h'
      · rcases List.mem_append.1 h' with h'' | h''
        · exact h.wf v h''
        · simp at h''; rw [h'']; exact hzw
      · simp at h'; rw [h']; exact hx
    · rcases List.mem_append.1 hv with h' | h'
      · exact h.wfX v h'
      · simp at h'; rw [h']; exact hx
theorem Mix.mono {k : Int} {X M : List Va} {m : Nat} (h : Mix k X M m) : Mix k X M (m + 1) := ⟨h.full, h.all, by have := h.lenX; omega, by have := h.lenM; omega, h.wf, h.wfX⟩
theorem Mix.right {k : Int} {X M : List Va} {m : Nat} (h : Mix k X M m) (hm : m ≤ 100) : rightC k M = rightC k X := by
  unfold rightC
  rw [h.all]
  have h1 := h.lenX
  have h2 := h.lenM
  congr 1
  exact decide_eq_decide.2 ⟨fun h => ⟨h.1, h.2.1, by omega⟩, fun h => ⟨h.1, h.2.1, by omega⟩⟩
theorem Mix.fullX {k : Int} {X M : List Va} {m : Nat} (h : Mix k X M m) : fullC X = fullC M := by rw [← h.full, full_full]
theorem Mix.best {k : Int} {X M : List Va} {m : Nat} (h : Mix k X M m) : bestC k M = bestC k X := by unfold bestC; rw [h.fullX]
theorem Mix.codes {k : Int} {X M : List Va} {m : Nat} (h : Mix k X M m) (hm : m ≤ 100) : codesL k M = codesL k X := by unfold codesL; rw [h.right hm, h.fullX]

theorem ColPutPost.outOk2 {k : Int} {L : List Va} {w w' : World} {e : Ending} (h : ColPutPost k L w e w') (hr : rightC k L = true) : ∃ (D : List UInt8) (n : Nat) (a : Option Addr) (c : Nat), Hid (D = colPut k L) ∧ Hid (n = (colPut k L).length) ∧ e = .returned (.tuple #[.slice a n c, .int .i64 0]) ∧ Sl w' a n c (D.map byteV) ∧ Keeps No w w' := by
  obtain ⟨a, c, he, hs, hk⟩ := h.outOk hr
  exact ⟨_, _, a, c, Lib.hid rfl, Lib.hid rfl, he, hs, hk⟩

set_option maxHeartbeats 8000000 in
theorem columnNulls_any (k : Int) (a : Option Addr) (n c : Nat) (L : List Va) (wh : Nat) (w : World) (hs : SlK w 4 a n c (L.map Va.cells)) (hL : ∀ v ∈ L, v.wf) (hn : n ≤ 140737488351232) (hwh : wh < 18446744073709551616) :
    Calls Try.prog 8 #[.int .i64 k, .slice a n c, .int .u64 (wh : Int)] w fun e w' => e = .returned (.bool true) ∧ Keeps No w w' := by
  have hlen : L.length = n := by simpa using hs.len
  have Hlen := Lib.hid hlen
  have HL := Lib.hid hL
  clear hlen hL
  go_enter Try.func8, Try.ntmps8
  go_wp2_with fail
  refine (first14_any _).mono ?_
  rintro e w1 ⟨rfl, hk1⟩
  by_cases hbig : 100 < n
  · go_wp2_with fail
    go_ret
    exact ⟨rfl, hk1⟩
  have hs1 := hs.kept hk1
  go_wp2_with fail
  go_loopg [29, 7, 8] n (fun q i xv mv wr => ∃ (m : Nat) (X M : List Va), m ≤ n ∧ q = n - m ∧ i = .int .i64 (m : Int) ∧ Hid (Mix k X M m) ∧ X.length ≤ m ∧ M.length ≤ 2 * m ∧ wr.ownsRow w1.heap.size 39 4 xv X.length (X.map Va.cells).flatten ∧ wr.ownsRow w1.heap.size 39 4 mv M.length (M.map Va.cells).flatten ∧ (∀ g, xv.ownBlock = some g → mv.ownBlock ≠ some g) ∧ Keeps No w1 wr)
  case atStart => exact ⟨0, [], [], Nat.zero_le _, rfl, rfl, Lib.hid ⟨rfl, rfl, Nat.le_refl _, Nat.le_refl _, fun v hv => by simp at hv, fun v hv => by simp at hv⟩, Nat.le_refl _, Nat.le_refl _, World.ownsRow_nil _ _ _ _, World.ownsRow_nil _ _ _ _, (fun g h => (by cases h)), Keeps.refl _ _⟩
  case round =>
    obtain ⟨m, X, M, hm, hq, rfl, HM, hXl, hMl, hox, hom, hdis, hkr⟩ := hrel
    have Hq := Lib.hid hq
    have hzr := hkr.size
    clear hq
    by_cases hlt : m < n
    · have hlt' : m < L.length := by rw [Hlen.out]; exact hlt
      have hsr := hs1.kept hkr
      have hix := hsr.ix (P := Try.prog) Try.underlying33 val_size hlt .i64
      obtain ⟨hld, _⟩ := hsr.load (P := Try.prog) (ty := 39) Try.underlying39 rfl val_size hlt
      rw [vget L hlt'] at hld
      obtain ⟨x, hx⟩ : ∃ x, x = L.getD m Va.zero := ⟨_, rfl⟩
      rw [← hx] at hld
      have hxw : x.wf := HL.out x (by rw [hx]; simp [hlt'])
      have Hxw := Lib.hid hxw
      clear hx hsr hxw
      obtain ⟨xk, xn, xs, xf⟩ := x
      unfold Va.cells at hld
      simp only at hld
      have hkN : Keeps No wr (wr.alloc (.cells #[.int .i64 xk, .int .i64 xn, .string xs, .int .u64 (xf : Int)] 39)) := (Keeps.refl No wr).alloc _
      by_cases h0 : xk = 0
      · have e0 : (xk == 0) = true := by simp [h0]
        clear h0
        go_wp2_with (refine wpList_loadV (op := ⟨some 33, _, _, _, _, _⟩) rfl 39 (.tmp 32) rfl _ rfl _ hld ?_)
        go_roundg (n - (m + 1))
        case measure => have := Hq.out; omega
        case rel => exact ⟨m + 1, X, M, by omega, rfl, by go_num, Lib.hid HM.out.mono, by omega, by omega, hkN.own hox (fun _ _ => not_No _), hkN.own hom (fun _ _ => not_No _), hdis, hkr.transNo hkN⟩
      · have e0 : (xk == 0) = false := by simp [h0]
        have H0 := Lib.hid h0
        clear h0
        have hbN := heap_alloc_new wr (.cells #[.int .i64 xk, .int .i64 xn, .string xs, .int .u64 (xf : Int)] 39)
        have hkB : Keeps No wr ((wr.alloc (.cells #[.int .i64 xk, .int .i64 xn, .string xs, .int .u64 (xf : Int)] 39)).alloc (.cells #[.int .i64 xk, .int .i64 xn, .string xs, .int .u64 (xf : Int)] 39)) := hkN.alloc _
        have hoxB := hkB.own hox (fun _ _ => not_No _)
        have homB := hkB.own hom (fun _ _ => not_No _)
        have hbB := ((Keeps.refl No _).alloc (.cells #[.int .i64 xk, .int .i64 xn, .string xs, .int .u64 (xf : Int)] 39)).blk hbN (not_No _)
        have hone := SlK.one (wr.alloc (.cells #[.int .i64 xk, .int .i64 xn, .string xs, .int .u64 (xf : Int)] 39)) (Va.cells ⟨xk, xn, xs, xf⟩) 39 (k := 4) rfl
        rw [show (wr.alloc (.cells #[.int .i64 xk, .int .i64 xn, .string xs, .int .u64 (xf : Int)] 39)).heap.size = wr.heap.size + 1 by simp] at hone
        have hoxl := fun g h => (hox.lt g h).2
        have homl := fun g h => (hom.lt g h).2
        go_wp2_with (first | (refine wpList_loadV (op := ⟨some 33, _, _, _, _, _⟩) rfl 39 (.tmp 32) rfl _ rfl _ hld ?_) | (at_builtin; go_loud (refine app_ownK rfl _ _ 33 rfl w1.heap.size 39 _ 4 40 Try.underlying33 val_info rfl (by decide) (by decide) _ X.length (X.map Va.cells).flatten rfl hoxB _ 1 1 [Va.cells ⟨xk, xn, xs, xf⟩] rfl hone ?h1 ?hb ?hB ?_)))
        case h1 => exact vals_one [⟨xk, xn, xs, xf⟩]
        case hb => omega
        case hB => exact (hkr.transNo hkB).size
        intro v5 w5 hox5 hg5 hn5
        have hgs : ((wr.alloc (.cells #[.int .i64 xk, .int .i64 xn, .string xs, .int .u64 (xf : Int)] 39)).alloc (.cells #[.int .i64 xk, .int .i64 xn, .string xs, .int .u64 (xf : Int)] 39)).heap.size = wr.heap.size + 2 := by simp
        have hom5 := own_apart homB hg5 hdis
        have hk05 := (hkr.transNo hkB).grown hg5 (fun i hi hlt2 => by have := (hoxB.lt i hi).1; exact absurd hlt2 (by omega))
        have hb5 : w5.heap[wr.heap.size]? = some (.cells #[.int .i64 xk, .int .i64 xn, .string xs, .int .u64 (xf : Int)] 39 (0, 0)) := (hg5.block wr.heap.size (by rw [hgs]; omega) (fun e => by have := hoxl _ e.symm; omega)).trans hbB
        have hz5 := hg5.size
        rw [hgs] at hz5
        have hdis5 : ∀ g, v5.ownBlock = some g → u8.ownBlock ≠ some g := fun g hg hm => by
          rcases hn5 g hg with h | h
          · exact hdis g h hm
          · have := homl g hm; first | omega | (simp at h; omega)
        have hox5' : w5.ownsRow w1.heap.size 39 4 v5 (X ++ [(⟨xk, xn, xs, xf⟩ : Va)]).length ((X ++ [(⟨xk, xn, xs, xf⟩ : Va)]).map Va.cells).flatten := by
          rw [List.map_append, List.flatten_append, List.length_append]; exact hox5
        have hv5l := fun g h => (hox5'.lt g h).2
        have hbm : ∀ g, wr.heap.size ≤ g → g < wr.heap.size + 2 → u8.ownBlock ≠ some g := fun g h1 _ h => by have := homl g h; omega
        clear hoxB homB hone hox5 hoxl hox hom hbN hbB hld hkB
        go_upto_region 11 with fail
        go_cut [47] (fun t wx => ∃ B : Bool, t = .bool B ∧ wx = w5)
        case first =>
          go_wp2_with fail
          go_meet
          exact ⟨_, rfl, rfl⟩
        case rest =>
          obtain ⟨B, rfl, hwc⟩ := hcut
          subst hwc
          have hmix := HM.out.add Hxw.out H0.out B
          have Hmix := Lib.hid hmix
          clear hmix
          cases B with
          | false =>
            have hl5 := (load_cells (P := Try.prog) (ty := 39) (k := 4) Try.underlying39 rfl val_size ⟨wr.heap.size, 0, none⟩ [.int .i64 xk, .int .i64 xn, .string xs, .int .u64 (xf : Int)] rfl (fun j v hj => by
              rw [Addr.add_lit, Nat.zero_add, cell_of_row _ wr.heap.size _ _ _ (0, 0) hb5]
              simpa using hj)).1
            have hkC : Keeps No wc (wc.alloc (.cells #[.int .i64 xk, .int .i64 xn, .string xs, .int .u64 (xf : Int)] 39)) := (Keeps.refl No wc).alloc _
            have homC := hkC.own hom5 (fun _ _ => not_No _)
            have hoxC := hkC.own hox5' (fun _ _ => not_No _)
            have hone : SlK (wc.alloc (.cells #[.int .i64 xk, .int .i64 xn, .string xs, .int .u64 (xf : Int)] 39)) 4 (some ⟨wc.heap.size, 0, none⟩) 1 1 [Va.cells ⟨xk, xn, xs, xf⟩] := SlK.one wc (Va.cells ⟨xk, xn, xs, xf⟩) 39 rfl
            have homl5 := fun g h => (hom5.lt g h).2
            go_wp2_with (first | (refine wpList_loadV (op := ⟨some 53, _, _, _, _, _⟩) rfl 39 (.tmp 10) rfl _ rfl _ hl5 ?_) | (at_builtin; go_loud (refine app_ownK rfl _ _ 33 rfl w1.heap.size 39 _ 4 40 Try.underlying33 val_info rfl (by decide) (by decide) _ M.length (M.map Va.cells).flatten rfl homC _ 1 1 [Va.cells ⟨xk, xn, xs, xf⟩] rfl hone ?h1 ?hb ?hB ?_)))
            case h1 => exact vals_one [⟨xk, xn, xs, xf⟩]
            case hb => omega
            case hB => exact (hk05.transNo hkC).size
            intro v6 w6 hom6 hg6 hn6
            have hox6 := own_apart hoxC hg6 (fun g hg hm2 => hdis5 g hm2 hg)
            have hk06 := (hk05.transNo hkC).grown hg6 (fun i hi hlt2 => by have := (homC.lt i hi).1; exact absurd hlt2 (by omega))
            go_wp2_with fail
            go_roundg (n - (m + 1))
            case measure => have := Hq.out; omega
            case rel =>
              refine ⟨m + 1, X ++ [⟨xk, xn, xs, xf⟩], M ++ [⟨xk, xn, xs, xf⟩], by omega, rfl, by go_num, Lib.hid (by simpa using Hmix.out), by simp; omega, by simp; omega, hox6, ?_, fun g hg hm2 => ?_, hk06⟩
              · rw [List.map_append, List.flatten_append, List.length_append]; exact hom6
              · rcases hn6 g hm2 with h | h
                · exact hdis5 g hg h
                · have := hv5l g hg; omega
          | true =>
            have hkZ : Keeps No wc (wc.alloc (.cells #[.int .i64 0, .int .i64 0, .string ⟨#[]⟩, .int .u64 0] 39)) := (Keeps.refl No wc).alloc _
            have homZ := hkZ.own hom5 (fun _ _ => not_No _)
            have hoxZ := hkZ.own hox5' (fun _ _ => not_No _)
            have hbZ := hkZ.blk hb5 (not_No _)
            have homl5 := fun g h => (hom5.lt g h).2
            go_wp2_with (at_builtin; go_loud (refine app_ownK rfl _ _ 33 rfl w1.heap.size 39 _ 4 40 Try.underlying33 val_info rfl (by decide) (by decide) _ M.length (M.map Va.cells).flatten rfl homZ _ 1 1 [Va.cells Va.zero] rfl (SlK.one _ (Va.cells Va.zero) _ rfl) ?h1 ?hb ?hB ?_))
            case h1 => exact vals_one [Va.zero]
            case hb => omega
            case hB => have := (hk05.transNo hkZ).size; first | exact this | (simp at this ⊢; omega)
            intro v6 w6 hom6 hg6 hn6
            have hox6 := own_apart hoxZ hg6 (fun g hg hm2 => hdis5 g hm2 hg)
            have hk06 := (hk05.transNo hkZ).grown hg6 (fun i hi hlt2 => by have := (homZ.lt i hi).1; exact absurd hlt2 (by omega))
            have hb6 : w6.heap[wr.heap.size]? = some (.cells #[.int .i64 xk, .int .i64 xn, .string xs, .int .u64 (xf : Int)] 39 (0, 0)) := (hg6.block wr.heap.size ((Array.getElem?_eq_some_iff.1 hbZ).1) (fun e => hbm wr.heap.size (Nat.le_refl _) (by omega) e.symm)).trans hbZ
            have hdis6 : ∀ g, v5.ownBlock = some g → v6.ownBlock ≠ some g := fun g hg hm2 => by
              rcases hn6 g hm2 with h | h
              · exact hdis5 g hg h
              · have := hv5l g hg; omega
            have hv5l6 : ∀ g, v5.ownBlock = some g → g < w6.heap.size := fun g hg => (hox6.lt g hg).2
            have hom6' : w6.ownsRow w1.heap.size 39 4 v6 (M ++ [Va.zero]).length ((M ++ [Va.zero]).map Va.cells).flatten := by
              rw [List.map_append, List.flatten_append, List.length_append]; exact hom6
            have hl6 := (load_cells (P := Try.prog) (ty := 39) (k := 4) Try.underlying39 rfl val_size ⟨wr.heap.size, 0, none⟩ [.int .i64 xk, .int .i64 xn, .string xs, .int .u64 (xf : Int)] rfl (fun j v hj => by
              rw [Addr.add_lit, Nat.zero_add, cell_of_row _ wr.heap.size _ _ _ (0, 0) hb6]
              simpa using hj)).1
            have hkC : Keeps No w6 (w6.alloc (.cells #[.int .i64 xk, .int .i64 xn, .string xs, .int .u64 (xf : Int)] 39)) := (Keeps.refl No w6).alloc _
            have homC := hkC.own hom6' (fun _ _ => not_No _)
            have hoxC := hkC.own hox6 (fun _ _ => not_No _)
            have hone : SlK (w6.alloc (.cells #[.int .i64 xk, .int .i64 xn, .string xs, .int .u64 (xf : Int)] 39)) 4 (some ⟨w6.heap.size, 0, none⟩) 1 1 [Va.cells ⟨xk, xn, xs, xf⟩] := SlK.one w6 (Va.cells ⟨xk, xn, xs, xf⟩) 39 rfl
            have hMz : (M ++ [Va.zero]).length = M.length + 1 := by simp
            go_wp2_with (first | (refine wpList_loadV (op := ⟨some 53, _, _, _, _, _⟩) rfl 39 (.tmp 10) rfl _ rfl _ hl6 ?_) | (at_builtin; go_loud (refine app_ownK rfl _ _ 33 rfl w1.heap.size 39 _ 4 40 Try.underlying33 val_info rfl (by decide) (by decide) _ (M ++ [Va.zero]).length ((M ++ [Va.zero]).map Va.cells).flatten rfl homC _ 1 1 [Va.cells ⟨xk, xn, xs, xf⟩] rfl hone ?h1 ?hb ?hB ?_)))
            case h1 => exact vals_one [⟨xk, xn, xs, xf⟩]
            case hb => omega
            case hB => exact (hk06.transNo hkC).size
            intro v7 w7 hom7 hg7 hn7
            have hox7 := own_apart hoxC hg7 (fun g hg hm2 => hdis6 g hm2 hg)
            have hk07 := (hk06.transNo hkC).grown hg7 (fun i hi hlt2 => by have := (homC.lt i hi).1; exact absurd hlt2 (by omega))
            go_wp2_with fail
            go_roundg (n - (m + 1))
            case measure => have := Hq.out; omega
            case rel =>
              refine ⟨m + 1, X ++ [⟨xk, xn, xs, xf⟩], M ++ [Va.zero] ++ [⟨xk, xn, xs, xf⟩], by omega, rfl, by go_num, Lib.hid (by simpa using Hmix.out), by simp; omega, by simp; omega, hox7, ?_, fun g hg hm2 => ?_, hk07⟩
              · rw [show (M ++ [Va.zero] ++ [(⟨xk, xn, xs, xf⟩ : Va)]).length = M.length + 1 + 1 by simp, show ((M ++ [Va.zero] ++ [(⟨xk, xn, xs, xf⟩ : Va)]).map Va.cells).flatten = (M.map Va.cells).flatten ++ (Va.zero.cells ++ Va.cells ⟨xk, xn, xs, xf⟩) by simp]
                first | exact hom7 | (simp only [List.append_assoc] at hom7; exact hom7) | simpa [Nat.add_assoc] using hom7
              · rcases hn7 g hm2 with h | h
                · exact hdis6 g hg h
                · have := hv5l6 g hg; omega
    · obtain rfl : m = n := by omega
      have hmix := HM.out
      have hmb : m ≤ 100 := by omega
      have hrr := hmix.right hmb
      obtain ⟨aX, cX, rfl, hsX, _⟩ := SlK.ofOwn (k := 4) (by decide) (vals_wide X) hox
      obtain ⟨aM, cM, rfl, hsM, _⟩ := SlK.ofOwn (k := 4) (by decide) (vals_wide M) hom
      have Hmix := Lib.hid hmix
      clear hmix hox hom hdis HM
      have hk0r := hk1.transNo hkr
      go_wp2_with fail
      refine (colput_any k aX _ cX X wr hsX Hmix.out.wfX).mono ?_
      intro e w2 h2
      cases hr : rightC k X with
      | false =>
        obtain ⟨rfl, hk2⟩ := h2.outNo hr
        have hr' : rightC k M = false := by rw [hrr, hr]
        have Hr' := Lib.hid hr'
        clear hr hr' hrr h2
        go_wp2_with fail
        refine (colput_any k aM _ cM M _ (hsM.kept hk2) Hmix.out.wf).mono ?_
        intro e w3 h3
        obtain ⟨rfl, hk3⟩ := h3.outNo Hr'.out
        clear h3
        go_wp2_with fail
        go_ret
        exact ⟨rfl, (hk0r.transNo hk2).transNo hk3⟩
      | true =>
        obtain ⟨DX, lX, a2, c2, HDX, HlX, rfl, hs2, hk2⟩ := h2.outOk2 hr
        have hr' : rightC k M = true := by rw [hrr, hr]
        have Hr := Lib.hid hr
        have Hr' := Lib.hid hr'
        have hcl : lX ≤ 19000 := by rw [HlX.out]; exact colPut_len hr Hmix.out.wfX
        have hszX : lX = (nat7 X.length).length + 2 + (X.length + 7) / 8 + (bestC k X).length := by rw [HlX.out]; exact col_size
        have HszX := Lib.hid hszX
        clear hszX
        clear hr hrr h2
        go_wp2_with fail
        refine (colput_any k aM _ cM M _ (hsM.kept hk2) Hmix.out.wf).mono ?_
        intro e w3 h3
        obtain ⟨DM, lM, a3, c3, HDM, HlM, rfl, hs3, hk3⟩ := h3.outOk2 Hr'.out
        have hcl' : lM ≤ 19000 := by rw [HlM.out]; exact colPut_len Hr'.out Hmix.out.wf
        have hszM : lM = (nat7 M.length).length + 2 + (M.length + 7) / 8 + (bestC k X).length := by rw [HlM.out, ← Hmix.out.best]; exact col_size
        have HszM := Lib.hid hszM
        clear hszM
        clear h3 hr'
        have hs23 := hs2.kept hk3
        go_wp2_with fail
        refine (colget_any a3 _ c3 _ _ hs3 (by omega)).mono ?_
        intro e w4 h4
        rw [HDM.out] at h4
        obtain ⟨a4, c4, rfl, hs4, hk4⟩ := h4.outPut Hr'.out Hmix.out.wf
        clear h4
        have hkA := (hk2.transNo hk3).transNo hk4
        have hsX4 := hsX.kept hkA
        have hsM4 := hsM.kept hkA
        have hs24 := hs23.kept hk4
        have hs34 := hs3.kept hk4
        clear hs2 hs3 hs23 hsX hsM
        have h7X := nat7_len64 X.length (by omega)
        have h7M := nat7_len64 M.length (by omega)
        go_wp2_with fail
        refine (natural_any none 0 0 [] X.length _ (Sl.none _) (by omega) (by omega)).mono ?_
        rintro e w5 ⟨v5, rfl, hown5, hk5⟩
        simp only [Nat.zero_add, List.nil_append] at hown5
        obtain ⟨a5, c5, rfl, _, _⟩ := Sl.ofOwn hown5
        clear hown5
        go_wp2_with fail
        refine (natural_any none 0 0 [] M.length _ (Sl.none _) (by omega) (by omega)).mono ?_
        rintro e w6 ⟨v6, rfl, hown6, hk6⟩
        simp only [Nat.zero_add, List.nil_append] at hown6
        obtain ⟨a6, c6, rfl, _, _⟩ := Sl.ofOwn hown6
        clear hown6
        have hk46 := hk5.transNo hk6
        have hsX6 := hsX4.kept hk46
        have hsM6 := hsM4.kept hk46
        have hs46 := hs4.kept hk46
        have hs26 := hs24.kept hk46
        have hs36 := hs34.kept hk46
        clear hs24 hs34 hsX4 hsM4 hs4
        have hPX : (nat7 X.length).length + 2 + (X.length + 7) / 8 ≤ lX := by have := HszX.out; omega
        have hPM : (nat7 M.length).length + 2 + (M.length + 7) / 8 ≤ lM := by have := HszM.out; omega
        obtain ⟨aP, hrp1, hrp2, hsp, _⟩ := hs26.from_ (P := Try.prog) (T := 24) Try.underlying24 (by kernel_rfl) (k := (nat7 X.length).length + 2 + (X.length + 7) / 8) hPX .i64 (((nat7 X.length).length : Int) + 2 + ((X.length : Int) + 7) / 8) (by omega)
        obtain ⟨aQ, hrq1, hrq2, hsq, _⟩ := hs36.from_ (P := Try.prog) (T := 24) Try.underlying24 (by kernel_rfl) (k := (nat7 M.length).length + 2 + (M.length + 7) / 8) hPM .i64 (((nat7 M.length).length : Int) + 2 + ((M.length : Int) + 7) / 8) (by omega)
        rw [← List.map_drop, HDX.out, col_rest] at hsp
        rw [← List.map_drop, HDM.out, col_rest, Hmix.out.best] at hsq
        generalize bestC k X = BC at hsp hsq
        have hstrP := fun wx (hx : Keeps No w6 wx) => (hsp.kept hx).str (P := Try.prog) 24 9 _ Try.underlying24 Try.underlying5 Try.underlying9
        have hstrQ := fun wx (hx : Keeps No w6 wx) => (hsq.kept hx).str (P := Try.prog) 24 9 _ Try.underlying24 Try.underlying5 Try.underlying9
        have hsqq := str_eq BC BC
        rw [decide_eq_true rfl] at hsqq
        have hcds := Hmix.out.codes hmb
        have Hcds := Lib.hid hcds
        clear hcds hPX hPM
        go_wp2_with fail
        refine wp_region_held_drew (S := fun wx => Keeps No w6 wx) (by kernel_rfl) ((Keeps.refl No w6).drew) (fun hS => ?_)
        refine tk (i := 0) (oi := ⟨some 108, _, _, _, _, _⟩) (v := ?_) rfl (by kernel_rfl) (fun _ _ _ h => h) (by assumption) (by rfl) (fun w hSw => ?_) ?_; rotate_left; (focus (first | (go_simp; done) | (go_simp; with_reducible rfl))); simp only [Act.put, List.setIfInBounds_toArray, List.set_cons_zero, List.set_cons_succ]
        refine tk (i := 1) (oi := ⟨some 109, _, _, _, _, _⟩) (v := ?_) rfl (by kernel_rfl) (fun _ _ _ h => h) (by assumption) (by rfl) (fun w hSw => ?_) ?_; rotate_left; (focus (first | (go_simp; done) | (go_simp; with_reducible rfl))); simp only [Act.put, List.setIfInBounds_toArray, List.set_cons_zero, List.set_cons_succ]
        refine tk (i := 2) (oi := ⟨some 110, _, _, _, _, _⟩) (v := ?_) rfl (by kernel_rfl) (fun _ _ _ h => h) (by assumption) (by rfl) (fun w hSw => ?_) ?_; rotate_left; (focus (first | (go_simp; done) | (go_simp; with_reducible rfl))); simp only [Act.put, List.setIfInBounds_toArray, List.set_cons_zero, List.set_cons_succ]
        refine tk (i := 3) (oi := ⟨some 111, _, _, _, _, _⟩) (v := ?_) rfl (by kernel_rfl) (fun _ _ _ h => h) (by assumption) (by rfl) (fun w hSw => ?_) ?_; rotate_left; (focus (first | (go_simp; done) | (go_simp; with_reducible rfl))); simp only [Act.put, List.setIfInBounds_toArray, List.set_cons_zero, List.set_cons_succ]
        refine alone (i := 4) (oi := ⟨some 112, _, _, _, _, _⟩) rfl (by kernel_rfl) (by rfl) (fun K hK => ?_); go_simp
        refine (vsame_any _ _ _ M _ _ _ M _ (hs46.kept hS) (hsM6.kept hS) (by omega)).mono ?_
        rintro e w8 ⟨rfl, hk8⟩
        rw [decide_eq_true rfl]
        refine hK.out (fun wx => Keeps No w6 wx) _ _ (fun _ h => h) (hS.transNo hk8) ?_
        clear hK K hS
        intro hS
        refine tk (i := 5) (oi := ⟨some 113, _, _, _, _, _⟩) (v := ?_) rfl (by kernel_rfl) (fun _ _ _ h => h) (by assumption) (by rfl) (fun w hSw => ?_) ?_; rotate_left; (focus (first | (go_simp; done) | (go_simp; with_reducible rfl))); simp only [Act.put, List.setIfInBounds_toArray, List.set_cons_zero, List.set_cons_succ]
        refine tk (i := 6) (oi := ⟨some 114, _, _, _, _, _⟩) (v := ?_) rfl (by kernel_rfl) (fun _ _ _ h => h) (by assumption) (by rfl) (fun w hSw => ?_) ?_; rotate_left; (focus (first | (go_simp; done) | (go_simp; with_reducible rfl))); simp only [Act.put, List.setIfInBounds_toArray, List.set_cons_zero, List.set_cons_succ]
        refine tk (i := 7) (oi := ⟨some 115, _, _, _, _, _⟩) (v := ?_) rfl (by kernel_rfl) (fun _ _ _ h => h) (by assumption) (by rfl) (fun w hSw => ?_) ?_; rotate_left; (focus (first | (go_simp; done) | (go_simp; with_reducible rfl))); simp only [Act.put, List.setIfInBounds_toArray, List.set_cons_zero, List.set_cons_succ]
        refine tk (i := 8) (oi := ⟨some 116, _, _, _, _, _⟩) (v := ?_) rfl (by kernel_rfl) (fun _ _ _ h => h) (by assumption) (by rfl) (fun w hSw => ?_) ?_; rotate_left; (focus (first | (go_simp; done) | (go_simp; with_reducible rfl))); simp only [Act.put, List.setIfInBounds_toArray, List.set_cons_zero, List.set_cons_succ]
        refine tk (i := 9) (oi := ⟨some 117, _, _, _, _, _⟩) (v := ?_) rfl (by kernel_rfl) (fun _ _ _ h => h) (by assumption) (by rfl) (fun w hSw => ?_) ?_; rotate_left; (focus (first | (go_simp; done) | (go_simp; with_reducible rfl))); simp only [Act.put, List.setIfInBounds_toArray, List.set_cons_zero, List.set_cons_succ]
        refine tk (i := 10) (oi := ⟨some 118, _, _, _, _, _⟩) (v := ?_) rfl (by kernel_rfl) (fun _ _ _ h => h) (by assumption) (by rfl) (fun w hSw => ?_) ?_; rotate_left; (focus (first | (go_simp; done) | (go_simp; with_reducible rfl))); simp only [Act.put, List.setIfInBounds_toArray, List.set_cons_zero, List.set_cons_succ]
        refine tk (i := 11) (oi := ⟨some 119, _, _, _, _, _⟩) (v := ?_) rfl (by kernel_rfl) (fun _ _ _ h => h) (by assumption) (by rfl) (fun w hSw => ?_) ?_; rotate_left; (focus (first | (go_simp; done) | (go_simp; with_reducible rfl))); simp only [Act.put, List.setIfInBounds_toArray, List.set_cons_zero, List.set_cons_succ]
        refine tk (i := 12) (oi := ⟨some 120, _, _, _, _, _⟩) (v := ?_) rfl (by kernel_rfl) (fun _ _ _ h => h) (by assumption) (by rfl) (fun w hSw => ?_) ?_; rotate_left; (focus (first | (go_simp; done) | (go_simp; with_reducible rfl))); simp only [Act.put, List.setIfInBounds_toArray, List.set_cons_zero, List.set_cons_succ]
        refine tk (i := 13) (oi := ⟨some 121, _, _, _, _, _⟩) (v := ?_) rfl (by kernel_rfl) (fun _ _ _ h => h) (by assumption) (by rfl) (fun w hSw => ?_) ?_; rotate_left; (focus (first | (go_simp; done) | (go_simp; with_reducible rfl))); simp only [Act.put, List.setIfInBounds_toArray, List.set_cons_zero, List.set_cons_succ]
        refine tk (i := 14) (oi := ⟨some 122, _, _, _, _, _⟩) (v := ?_) rfl (by kernel_rfl) (fun _ _ _ h => h) (by assumption) (by rfl) (fun w hSw => ?_) ?_; rotate_left; (focus (first | (go_simp; done) | (go_simp; with_reducible rfl))); simp only [Act.put, List.setIfInBounds_toArray, List.set_cons_zero, List.set_cons_succ]
        refine tk (i := 15) (oi := ⟨some 123, _, _, _, _, _⟩) (v := ?_) rfl (by kernel_rfl) (fun _ _ _ h => h) (by assumption) (by rfl) (fun w hSw => ?_) ?_; rotate_left; (focus (first | (go_simp; done) | (go_simp; with_reducible rfl))); simp only [Act.put, List.setIfInBounds_toArray, List.set_cons_zero, List.set_cons_succ]
        refine tk (i := 16) (oi := ⟨some 124, _, _, _, _, _⟩) (v := ?_) rfl (by kernel_rfl) (fun _ _ _ h => h) (by assumption) (by rfl) (fun w hSw => ?_) ?_; rotate_left; (focus (first | (go_simp; done) | (go_simp; with_reducible rfl))); simp only [Act.put, List.setIfInBounds_toArray, List.set_cons_zero, List.set_cons_succ]
        refine tk (i := 17) (oi := ⟨some 125, _, _, _, _, _⟩) (v := ?_) rfl (by kernel_rfl) (fun _ _ _ h => h) (by assumption) (by rfl) (fun w hSw => ?_) ?_; rotate_left; (focus (first | (go_simp; done) | (go_simp; with_reducible rfl))); simp only [Act.put, List.setIfInBounds_toArray, List.set_cons_zero, List.set_cons_succ]
        refine tk (i := 18) (oi := ⟨some 126, _, _, _, _, _⟩) (v := ?_) rfl (by kernel_rfl) (fun _ _ _ h => h) (by assumption) (by rfl) (fun w hSw => ?_) ?_; rotate_left; (focus (first | (go_simp; done) | (go_simp; with_reducible rfl))); simp only [Act.put, List.setIfInBounds_toArray, List.set_cons_zero, List.set_cons_succ]
        refine tk (i := 19) (oi := ⟨some 127, _, _, _, _, _⟩) (v := ?_) rfl (by kernel_rfl) (fun _ _ _ h => h) (by assumption) (by rfl) (fun w hSw => ?_) ?_; rotate_left; (focus (first | (go_simp; done) | (go_simp; with_reducible rfl))); simp only [Act.put, List.setIfInBounds_toArray, List.set_cons_zero, List.set_cons_succ]
        refine tk (i := 21) (oi := ⟨some 129, _, _, _, _, _⟩) (v := ?_) rfl (by kernel_rfl) (fun _ _ _ h => h) (by assumption) (by rfl) (fun w hSw => ?_) ?_; rotate_left; (focus (first | (go_simp; done) | (go_simp; with_reducible rfl))); simp only [Act.put, List.setIfInBounds_toArray, List.set_cons_zero, List.set_cons_succ]
        refine tk (i := 22) (oi := ⟨some 130, _, _, _, _, _⟩) (v := ?_) rfl (by kernel_rfl) (fun _ _ _ h => h) (by assumption) (by rfl) (fun w hSw => ?_) ?_; rotate_left; (focus (first | (go_simp; done) | (go_simp; with_reducible rfl))); simp only [Act.put, List.setIfInBounds_toArray, List.set_cons_zero, List.set_cons_succ]
        refine alone (i := 20) (oi := ⟨some 128, _, _, _, _, _⟩) rfl (by kernel_rfl) (by rfl) (fun K hK => ?_); go_simp
        refine (codes_any k aX _ cX X _ (hsX6.kept hS) Hmix.out.wfX).mono ?_
        rintro e w9 ⟨a9, c9, rfl, hs9, hk9⟩
        have hk69 := hS.transNo hk9
        have hsM9 := hsM6.kept hk69
        refine hK.out (fun wx => Keeps No w9 wx) _ _ (fun _ hx => hS.transNo (Keeps.transNo (hk9) hx)) (Keeps.refl _ _) ?_
        clear hK K hS
        intro hS
        refine alone (i := 23) (oi := ⟨some 131, _, _, _, _, _⟩) rfl (by kernel_rfl) (by rfl) (fun K hK => ?_); go_simp
        refine (codes_any k aM _ cM M _ (hsM9.kept hS) Hmix.out.wf).mono ?_
        rintro e w10 ⟨a10, c10, rfl, hs10, hk10⟩
        have hs9' := hs9.kept (hS.transNo hk10)
        have hk910 := hS.transNo hk10
        have hcl4 : ∀ (Y : List Va), (codesL k Y).length ≤ 4 := fun Y => by unfold codesL; split; rw [sizesC_eq]; simp; simp
        have hc9 := hcl4 X
        have hc10 := hcl4 M
        refine hK.out (fun wx => Keeps No w10 wx) _ _ (fun _ hx => hS.transNo (Keeps.transNo (hk10) hx)) (Keeps.refl _ _) ?_
        clear hK K hS
        intro hS
        refine alone (i := 24) (oi := ⟨some 132, _, _, _, _, _⟩) rfl (by kernel_rfl) (by rfl) (fun K hK => ?_); go_simp
        refine (rsame_any _ _ _ (codesL k X) _ _ _ (codesL k M) _ (hs9'.kept hS) (hs10.kept hS) (by omega) (by omega)).mono ?_
        rintro e w11 ⟨rfl, hk11⟩
        rw [decide_eq_true Hcds.out.symm]
        have hkz := hS.transNo hk11
        refine hK.out (fun wx => Keeps No w10 wx) _ _ (fun _ h => h) (hkz) ?_
        clear hK K hS
        intro hS
        refine tk (i := 25) (oi := ⟨some 133, _, _, _, _, _⟩) (v := ?_) rfl (by kernel_rfl) (fun _ _ _ h => h) (by assumption) (by rfl) (fun w hSw => ?_) ?_; rotate_left; (focus (first | (go_simp; done) | (go_simp; with_reducible rfl))); simp only [Act.put, List.setIfInBounds_toArray, List.set_cons_zero, List.set_cons_succ]
        refine tk (i := 26) (oi := ⟨some 6, _, _, _, _, _⟩) (v := ?_) rfl (by kernel_rfl) (fun _ _ _ h => h) (by assumption) (by rfl) (fun w hSw => ?_) ?_; rotate_left; (focus (first | (go_simp; done) | (go_simp; with_reducible rfl))); simp only [Act.put, List.setIfInBounds_toArray, List.set_cons_zero, List.set_cons_succ]
        refine wpAnyH_done (by kernel_rfl) ?_ _
        go_wp2_with fail
        go_ret
        exact ⟨rfl, (((((hk0r.transNo hkA).transNo hk46).transNo hk69).transNo hk910).transNo hkz)⟩
theorem columnNulls_walk (k : Int) (a : Option Addr) (n c : Nat) (l : List VR) (wh : Int) (w : World) (hk : (Lit.int .i64 k).wf = true) (hs : SlK w 4 a n c (l.map vrCells)) (hn : n * 40 ≤ 140737488351232) (hwh : (Lit.int .u64 wh).wf = true) :
    Calls Try.prog 8 #[.int .i64 k, .slice a n c, .int .u64 wh] w fun e w' => e = .returned (.bool true) ∧ Keeps No w w' := by
  obtain ⟨h, rfl, hh⟩ := wf_u64_nat hwh
  rw [vr_map] at hs
  exact columnNulls_any k a n c _ h w hs (vr_all l) (by omega) hh
end Go.Proofs.Ythbipcjgpocpaaa
