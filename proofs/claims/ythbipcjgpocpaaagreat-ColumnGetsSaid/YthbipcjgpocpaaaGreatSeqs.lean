/- slices.Values, Collect, AppendSeq at strings: what they give. Walked inside a fence, as the guide's page on ranges over a function says. -/
import Derived.Test.YthbipcjgpocpaaaGreatMem
import Derived.RangeFuncBox
import Derived.RangeFuncLeaves
import Derived.RangeFuncKeeps
import Derived.RangeFuncWrites
import Derived.Shelf.Abstract
import Derived.WalkKit
import Derived.OwnWalkIn
import Derived.TacticsInMore
import Derived.LoopNIn
import Derived.LoopIn
import Derived.Maps.AppendAt
namespace Go.Proofs.YthbipcjgpocpaaaGreat
open Go.RowKit Go.Shelf
set_option linter.unusedSimpArgs false
set_option linter.unusedVariables false
set_option maxRecDepth 100000
attribute [local go_sem] Oper.semAt_some

theorem str_infoQ : (Tryz.prog.info? 9).map (fun i => (i.zero, i.size, i.bytes)) = some (some (.string ByteArray.empty), 1, 16) := by kernel_rfl

set_option maxHeartbeats 2000000 in
/-- The closure of slices.Values. -/
theorem vals1_in (F : Fence) (n : Nat) (h7 : F.fn 85) (hro : F.round = none) (hn : 1 ≤ n) (l Bs n₀ : Nat) (a : Option Addr) (len cap : Nat) (L : List ByteArray) (J Jx : List ByteArray → World → Prop)
    (hY : ∀ pre x W, J pre W → pre.length < len → YieldAt F (n - 1) Tryz.prog l #[.string x] W fun e W' =>
      (e = .returned (.bool true) ∧ J (pre ++ [x]) W' ∧ Below n₀ W W') ∨ (e = .returned (.bool false) ∧ Jx (pre ++ [x]) W'))
    (W : World) (hBs : W.cell? ⟨Bs, 0, none⟩ = some (.slice a len cap)) (hs : Sl W a len cap (L.map Value.string)) (hb : 0 < len → (a.getD default).block < n₀) (h0 : J [] W) :
    CallsIn F n Tryz.prog 85 #[.func (.yield l) #[] #[], .pointer (some ⟨Bs, 0, none⟩)] W fun e W' => (∃ v, e = .returned v) ∧
      ((∃ ys, ys = L ∧ J ys W') ∨ (∃ pre, pre <+: L ∧ Jx pre W')) := by
  have hlen : L.length = len := by simpa using hs.len
  have hle := hs.le
  have hmx := hs.max
  unfold maxLen at hmx
  refine callsIn_of_wp Tryz.func85 rfl h7 ?_ hro
  simp only [Tryz.ntmps85, List.size_toArray, List.length_cons, List.length_nil, Nat.reduceAdd, Nat.reduceSub, Array.replicate_succ, Array.replicate_zero, List.push_toArray, List.append_toArray, List.nil_append, List.cons_append]
  gi_wp2
  gi_loopw [7] (fun i wr => ∃ k : Nat, k ≤ len ∧ i = .int .i64 k ∧ J (L.take k) wr ∧ Below n₀ W wr)
    (fun i _ => len - (intOf i).toNat)
  case atStart => exact ⟨0, Nat.zero_le _, rfl, h0, Below.refl _ _⟩
  case round =>
    obtain ⟨k, hk, rfl, hJs, hnx⟩ := hrel
    by_cases hlt : k < len
    · have hkL : k < L.length := by omega
      obtain ⟨x, hx⟩ : ∃ x, x = L[k] := ⟨_, rfl⟩
      have hix := hs.ix (P := Tryz.prog) Tryz.underlying64 (by kernel_rfl) hlt .i64
      have hcx : wr.cell? ((a.getD default).add k) = some (.string x) := by
        rw [hnx.cell (p := (a.getD default).add k) (by rw [Sl.block_add]; exact hb (by omega)), hs.at_ hlt, hx]
        simp [hkL]
      have Hx := Lib.hid hx
      clear hx
      obtain ⟨fn, tmps, assign, body, hy, hR⟩ := hY _ x wr hJs (by rw [List.length_take]; omega)
      gi_wp2
      refine hR.mono ?_
      rintro e W3 (⟨rfl, hJ3, hk3⟩ | ⟨rfl, hJx3⟩)
      · gi_wp2
        go_roundw
        case rel => exact ⟨k + 1, by omega, by simp, by rw [List.take_succ_eq_append_getElem hkL, ← Hx.out]; exact hJ3, hnx.trans hk3⟩
        case measure => simp [intOf]; omega
      · gi_wp2
        refine bodyPost_ret (results_none rfl _ _ _) rfl ?_
        refine ⟨⟨_, rfl⟩, .inr ⟨L.take k ++ [x], ?_, hJx3⟩⟩
        rw [Hx.out, ← List.take_succ_eq_append_getElem hkL]
        exact List.take_prefix _ _
    · obtain rfl : k = len := by omega
      gi_wp2
      go_end0
      exact ⟨⟨_, rfl⟩, .inl ⟨_, by rw [← hlen, List.take_length], hJs⟩⟩

theorem values_in (F : Fence) (n : Nat) (h5 : F.fn 72) (hro : F.round = none) (a : Option Addr) (len cap : Nat) (w : World) :
    CallsIn F n Tryz.prog 72 #[.slice a len cap] w fun e w' => e = .returned (.func (.func 85) #[] #[.pointer (some ⟨w.heap.size, 0, none⟩)]) ∧ w' = w.alloc (.cells #[.slice a len cap] 64) := by
  refine callsIn_of_wp Tryz.func72 rfl h5 ?_ hro
  simp only [Tryz.ntmps72, List.size_toArray, List.length_cons, List.length_nil, Nat.reduceAdd, Nat.reduceSub, Array.replicate_succ, Array.replicate_zero, List.push_toArray, List.append_toArray, List.nil_append, List.cons_append]
  gi_wp2
  go_ret
  exact ⟨rfl, rfl⟩

theorem values_stops (F : Fence) (n : Nat) (h7 : F.fn 85) (hro : F.round = none) (hn : 1 ≤ n) (Bs n₀ : Nat) (a : Option Addr) (len cap : Nat) (L : List ByteArray) (w : World) (hBs : Bs < w.heap.size) (hn₀ : n₀ ≤ w.heap.size)
    (hc : w.cell? ⟨Bs, 0, none⟩ = some (.slice a len cap)) (hs : Sl w a len cap (L.map Value.string)) (hb : 0 < len → (a.getD default).block < n₀) :
    SeqStopsK F n Tryz.prog 85 #[.pointer (some ⟨Bs, 0, none⟩)] (fun x : ByteArray => #[Value.string x]) (Below n₀) (fun ys => ys = L) (fun pre => pre <+: L) L.length w := fun l J Jx W hW _ _ hY h0 => by
  have hlen : L.length = len := by simpa using hs.len
  have hc' := (hW.cell (p := ⟨Bs, 0, none⟩) hBs).trans hc
  have hs' : Sl W a len cap (L.map Value.string) := ⟨hs.len, hs.le, hs.max, hs.nil, fun i hi => (hW.cell (p := (a.getD default).add i) (by rw [Sl.block_add]; exact Nat.lt_of_lt_of_le (hb (by omega)) hn₀)).trans (hs.cell i hi)⟩
  exact vals1_in F n h7 hro hn l Bs n₀ a len cap L J Jx (by rw [← hlen]; exact hY) W hc' hs' hb h0

set_option maxHeartbeats 2000000 in
/-- slices.AppendSeq(nil, slices.Values(l)): the same texts, in a row of its own. -/
theorem appendSeq_in (F : Fence) (n : Nat) (h3 : F.fn 89) (h7 : F.fn 85) (hro : F.round = none) (hn : 3 ≤ n) (Bs : Nat) (a : Option Addr) (len cap : Nat) (L : List ByteArray) (hbytes : len * 16 ≤ 140737488355328) (w : World)
    (hBs : Bs < w.heap.size) (hcB : w.cell? ⟨Bs, 0, none⟩ = some (.slice a len cap)) (hs : Sl w a len cap (L.map Value.string)) :
    CallsIn F n Tryz.prog 89 #[.slice none 0 0, .func (.func 85) #[] #[.pointer (some ⟨Bs, 0, none⟩)]] w fun e W' => ∃ v, e = .returned v ∧ W'.ownsRow w.heap.size 9 1 v L.length (L.map Value.string) ∧ Below w.heap.size w W' := by
  have hlen : L.length = len := by simpa using hs.len
  have h1 : 1 ≤ n := by omega
  have hbl : 0 < len → (a.getD default).block < w.heap.size := fun h => hs.lt h
  obtain ⟨i0, hi, hz0, hz1, hz2⟩ := info_parts str_infoQ
  refine callsIn_of_wp_marks Tryz.func89 rfl h3 ?_ hro
  simp only [Tryz.ntmps89, List.size_toArray, List.length_cons, List.length_nil, Nat.reduceAdd, Nat.reduceSub, Array.replicate_succ, Array.replicate_zero, List.push_toArray, List.append_toArray, List.nil_append, List.cons_append]
  gi_wp2
  have bO := Boxed.new w 64 (.slice none 0 0)
  have hB0 : Below w.heap.size w (w.alloc (.cells #[.slice none 0 0] 64)) := (Below.refl _ w).alloc (Nat.le_refl _) _
  have hs0 : Sl (w.alloc (.cells #[.slice none 0 0] 64)) a len cap (L.map Value.string) := hs.kept ((Keeps.refl No w).alloc _)
  refine wpIn_rangeFunc_ownG hro h1 (gf := 85) (lb := #[.pointer (some ⟨Bs, 0, none⟩)]) rfl h7 (enters_of Tryz.func85 (by kernel_rfl) rfl)
    (values_stops F (n - 1) h7 hro (by omega) Bs w.heap.size a len cap L _ (by simp; omega) (by simp) ((hB0.cell (p := ⟨Bs, 0, none⟩) hBs).trans hcB) hs0 hbl) belowK_t (belowK_b (by simp)) (Below.refl _ _) (fun _ => rfl)
    (fun pre W => (∃ v, Boxed W w.heap.size 64 v ∧ W.ownsRow w.heap.size 9 1 v pre.length (pre.map Value.string) ∧ True) ∧ Below w.heap.size w W)
    (fun _ _ _ => False)
    (OwnFrom.and (Own.from (holdsRow_own w.heap.size w.heap.size 64 9 1 (fun pre : List ByteArray => pre.length) (fun pre => pre.map Value.string) (fun pre v => True)) _) (ownFrom_below (Nat.le_refl _) (by simp)))
    (fun _ _ _ _ _ hs _ _ => hs)
    ⟨⟨_, bO, World.ownsRow_nil _ _ _ _, trivial⟩, hB0⟩
    (fun x => { tmps := #[.slice none 0 0, .func (.func 85) #[] #[.pointer (some ⟨Bs, 0, none⟩)], .pointer (some ⟨w.heap.size, 0, none⟩), undef, .slice none 0 0, .string x, .func (.func 85) #[] #[.pointer (some ⟨Bs, 0, none⟩)], .string x, undef, undef, undef, undef, undef], defers := [] }) ?assign ?body ?done ?stop
  case assign =>
    intro l x W K hK
    gi_wp2
    exact hK
  case body =>
    rintro l pre x W ⟨⟨v, hv, hrow, _⟩, hB⟩ hlt
    have hc := hv.cell
    gi_wp2_with (gi_at_builtin; refine wpListIn_append_own _ rfl _ _ 64 rfl w.heap.size 9 i0 (.string ByteArray.empty) 1 16 Tryz.underlying64 hi hz0 hz1 hz2 rfl (by decide) _ _ _ rfl (hrow.alloc _) ⟨W.heap.size, 0, none⟩ 1 1 [.string x] rfl rfl (cell_one_new _ _ _) (by simp [Value.oneCell']) (by unfold maxLen; omega) (by omega) (by have := hB.size; simp; omega) ?_; intro v' w1 hown' hgrow _; obtain ⟨g', cap', rfl⟩ := ownsRow_succ hown'; obtain ⟨hv1, hv2, hr2, hk2, hb2⟩ := hv.appended (by decide) hrow hB.size (Nat.le_refl _) hown' hgrow; have hc1 := hv1.cell; have hf1 := hv1.frozen)
    exact ⟨hk2.from _, hb2, ⟨_, hv2, by simpa using hr2, trivial⟩, hB.trans hb2⟩
  case done =>
    rintro D ys W hD rfl ⟨⟨v, hv, hrow, _⟩, hB⟩ hK
    have hc := hv.cell
    gi_wp2
    refine ⟨by simp, .inl ⟨_, _, rfl, run_takeDeferred hK, ?_⟩⟩
    exact ⟨_, results_tmp rfl _ _ _, v, rfl, ownsRow_putObj hrow _ hK rfl, hB.trans (belowK_b (w := w) (Nat.le_refl _) W D _ _ (by simp at hD; omega) hK rfl rfl)⟩
  case stop =>
    rintro D c pre W _ _ h _
    exact h.elim
end Go.Proofs.YthbipcjgpocpaaaGreat
