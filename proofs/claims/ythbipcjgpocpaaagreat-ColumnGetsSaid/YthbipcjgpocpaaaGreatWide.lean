/- Slices whose elements are of k cells. -/
import Derived.Test.YthbipcjgpocpaaaGreatBase
namespace Go.Proofs.YthbipcjgpocpaaaGreat
open Go.RowKit
set_option linter.unusedSimpArgs false
set_option linter.unusedVariables false

/-- The slice value '.slice a n c' reads as xs, each element k cells. -/
structure SlK (w : World) (k : Nat) (a : Option Addr) (n c : Nat) (xs : List (List Value)) : Prop where
  len : xs.length = n
  le : n ≤ c
  max : c ≤ maxLen
  nil : a = none → n = 0 ∧ c = 0
  wide : ∀ x ∈ xs, x.length = k
  cell : ∀ i, i < n → ∀ j, j < k → w.cell? ((a.getD default).add (i * k + j)) = (xs[i]?).bind (·[j]?)

namespace SlK
variable {w w' : World} {k : Nat} {a : Option Addr} {n c : Nat} {xs : List (List Value)}
theorem none (w : World) (k : Nat) : SlK w k none 0 0 [] := ⟨rfl, Nat.le_refl _, Nat.zero_le _, fun _ => ⟨rfl, rfl⟩, fun _ h => by simp at h, fun i hi => absurd hi (by omega)⟩
theorem isSome (h : SlK w k a n c xs) {i : Nat} (hi : i < n) : a = some (a.getD default) := by
  cases a with
  | none => have := (h.nil rfl).1; omega
  | some x => rfl
theorem at_ (h : SlK w k a n c xs) {i j : Nat} (hi : i < n) (hj : j < k) : w.cell? ((a.getD default).add (i * k + j)) = some ((xs.getD i []).getD j undef) := by
  have hl : i < xs.length := by rw [h.len]; exact hi
  have hx := h.wide (xs[i]) (List.getElem_mem hl)
  have hj' : j < (xs[i]).length := by omega
  rw [h.cell i hi j hj, List.getElem?_eq_getElem hl]
  simp [hl, hj']
theorem lt (h : SlK w k a n c xs) (hn : 0 < n) (hk : 0 < k) : (a.getD default).block < w.heap.size := by
  have := World.block_lt_of_cell? _ _ (h.at_ hn hk)
  rwa [Sl.block_add] at this
theorem keep {S : Nat → Prop} (h : SlK w k a n c xs) (hk : Keeps S w w') (hs : 0 < n → ¬ S (a.getD default).block) : SlK w' k a n c xs := by
  refine ⟨h.len, h.le, h.max, h.nil, h.wide, fun i hi j hj => ?_⟩
  rw [← h.cell i hi j hj]
  refine World.cell?_of_block (w := w) (hk.block _ ?_ ?_)
  · rw [Sl.block_add]; exact h.lt (by omega) (by omega)
  · rw [Sl.block_add]; exact hs (by omega)
theorem kept (h : SlK w k a n c xs) (hk : Keeps No w w') : SlK w' k a n c xs := h.keep hk fun _ => not_No _
theorem ix {P : Program} {T e : TypeId} (h : SlK w k a n c xs) (hu : P.underlying T = some (.slice e)) (hz : (P.info? e).map (·.size) = some k) {i : Nat} (hi : i < n) (kd : IntKind) :
    ∀ wx, (Instr.indexAt T (.slice a n c) (.int kd (i : Int))).run P wx = .ok (.pointer (some ((a.getD default).add (i * k)))) wx := by
  intro wx
  obtain ⟨f, hf, hf1⟩ := Option.map_eq_some_iff.1 hz
  rw [h.isSome hi, run_indexAt_slice (P := P) wx T _ n c kd i (by simp [Program.elem, hu])]
  have : (0 : Int) ≤ (i : Int) ∧ (i : Int) < (n : Int) := by omega
  rw [if_pos this]
  simp [sizeOf, typeInfo, Program.elem, hu, hf, hf1, Result.andThen]
theorem ixz {P : Program} {T e : TypeId} (h : SlK w k a n c xs) (hu : P.underlying T = some (.slice e)) (hz : (P.info? e).map (·.size) = some k) (z : Int) {i : Nat} (hzi : z = (i : Int)) (hi : i < n) (kd : IntKind) :
    ∀ wx, (Instr.indexAt T (.slice a n c) (.int kd z)).run P wx = .ok (.pointer (some ((a.getD default).add (i * k)))) wx := by
  subst hzi
  exact h.ix hu hz hi kd
/-- 'x := s[i]', x a struct of k cells: what the load yields. -/
theorem load {P : Program} (h : SlK w k a n c xs) {ty : TypeId} {d : TypeDesc} (hu : P.underlying ty = some d) (hd : (match d with | .struct _ | .array _ _ => true | _ => false) = true) (hz : (P.info? ty).map (·.size) = some k) {i : Nat} (hi : i < n) :
    (Instr.loadAt ty (.pointer (some ((a.getD default).add (i * k))))).run P w = .ok (.agg (xs.getD i []).toArray) w ∧ (loadVar ty ((a.getD default).add (i * k))).run P w = .ok (.agg (xs.getD i []).toArray) w := by
  have hil : i < xs.length := by rw [h.len]; exact hi
  have hx : (xs.getD i []).length = k := by
    have := h.wide (xs[i]) (List.getElem_mem hil)
    simpa [hil] using this
  have hl : (loadCells ((a.getD default).add (i * k)) (xs.getD i []).length).run P w = .ok (xs.getD i []).toArray w :=
    run_loadCells_list (P := P) w _ (xs.getD i []) (fun j v hv => by
      have hj : j < k := by have := (List.getElem?_eq_some_iff.1 hv).1; omega
      rw [Addr.add_add, h.cell i hi j hj, List.getElem?_eq_getElem hil]
      simpa [hil] using hv)
  rw [hx] at hl
  cases hq : P.info? ty with
  | none => simp [hq] at hz
  | some f =>
    have hs : f.size = k := by simpa [hq] using hz
    have hagg : (isAgg ty).run P w = .ok true w := by
      unfold isAgg
      rw [Sem.run_bind, run_underlying hu w]
      cases d <;> simp_all
    have hv : (loadVar ty ((a.getD default).add (i * k))).run P w = .ok (.agg (xs.getD i []).toArray) w := by
      simp [loadVar, Sem.run_bind, hagg, sizeOf, typeInfo, hq, hs, hl]
    refine ⟨?_, hv⟩
    simp only [Instr.loadAt, Instr.sureAddr, Sem.run_bind, Sem.run_pure, Result.andThen_ok, hv]
theorem toSl {α : Type} {f : α → Value} {w : World} {a : Option Addr} {n c : Nat} {l : List α} (h : SlK w 1 a n c (l.map fun x => [f x])) : Sl w a n c (l.map f) := by
  refine ⟨by simpa using h.len, h.le, h.max, h.nil, fun i hi => ?_⟩
  have := h.cell i hi 0 (by decide)
  rw [Nat.mul_one, Nat.add_zero] at this
  rw [this, List.getElem?_map, List.getElem?_map]
  cases l[i]? <;> rfl
end SlK
/-- A load whose outcome is laid ahead, at the operation: an arm for the walk. -/
theorem wpList_loadV {P : Program} {ops : Array Oper} {rest : List Oper} {op : Oper} {a : Act} {w : World} {Q : Exit → Act → World → Prop} (hgd : op.guard = none) (ty : TypeId) (x : Operand) (ho : op.op = .load ty x)
    (p : Addr) (hx : a.eval x = .pointer (some p)) (v : Value) (hv : (Instr.loadAt ty (.pointer (some p))).run P w = .ok v w)
    (h : wpList P ops Q rest (a.put op.dst v) w) : wpList P ops Q (op :: rest) a w := by
  refine wpList_plain hgd fun K hK => ?_
  unfold Oper.wp execOp
  simp only [ho, hx, Sem.run_bind, hv, Result.andThen_ok, Sem.run_pure]
  exact hK _ _ h
end Go.Proofs.YthbipcjgpocpaaaGreat
