/- From a row's argument, a slice of structs, to the walks' word SlK. -/
import Derived.Test.YthbipcjgpocpaaaGreatRowKit
import Derived.Test.YthbipcjgpocpaaaGreatWide
import Derived.Deep.Slices
import Derived.Deep.Fields
namespace Go.Proofs.YthbipcjgpocpaaaGreat
open Go.ChangeShapes Go.WideShapes Go.ChangeAt Go.RowKit
set_option linter.unusedSimpArgs false
set_option linter.unusedVariables false

section
variable {H : Type} {enc : TypeId × Value → H} {P : Program} {w : World} {base : Nat} {spare : Nat → Bool} {held : Bool}

/-- A slice of elements of k cells, each of the shape 'f x'. -/
theorem arg_slice_k {α : Type} {t e : TypeId} {k : Nat} {a : Option Addr} {n c : Nat} {x : DataW H × List MemPlace} (d : α) (f : α → List Value) (ht : P.underlying t = some (.slice e)) (hc : P.cellsOf e = k) (hk : ∀ y, (f y).length = k)
    (hf : ∀ q cs y, DataW.trod enc P w base (fun _ => true) held q e cs = some y → ∃ a, cs = f a) {fuel : Nat} (h : DataW.trod enc P w base (fun _ => true) held fuel t [.slice a n c] = some x) :
    ∃ xs : List α, SlK w k a n c (xs.map f) ∧ (n = 0 ∨ ∃ el sp, x.1 = .slice el sp ∧ el.length = n) := by
  rcases Go.Deep.open_slice ht h with ⟨hcs, hx⟩ | ⟨ad, len, cap, m, q, D, Pl, hcs, _, hl, hm, hmm, hx, hel⟩
  · simp only [List.cons.injEq, and_true, Value.slice.injEq] at hcs
    obtain ⟨rfl, rfl, rfl⟩ := hcs
    exact ⟨[], SlK.none w k, .inl rfl⟩
  · simp only [List.cons.injEq, and_true, Value.slice.injEq] at hcs
    obtain ⟨rfl, rfl, rfl⟩ := hcs
    have hmc : m = c := by simpa using hmm
    subst hmc
    rw [hc] at hel
    have hg : ∀ i, ∃ y : α, i < n → w.cells? base (ad.add (i * k)) k = some (f y) := by
      intro i
      by_cases hi : i < n
      · obtain ⟨cs', h1, h2⟩ := hel i (by omega)
        obtain ⟨y, hy⟩ := hf _ _ _ h2
        exact ⟨y, fun _ => hy ▸ h1⟩
      · exact ⟨d, fun h => absurd h hi⟩
    refine ⟨(List.range n).map fun i => (hg i).choose, ⟨by simp, hl, hm, fun h => by simp at h, ?_, fun i hi j hj => ?_⟩, .inr ⟨_, _, by rw [hx], by simp⟩⟩
    · intro u hu
      obtain ⟨y, _, rfl⟩ := List.mem_map.1 hu
      exact hk y
    · obtain ⟨_, _, hat⟩ := World.cells?_some ((hg i).choose_spec hi)
      rw [Option.getD_some, ← Go.Deep.add_add, hat j hj]
      simp [hi]

/-- A struct of two ints. -/
theorem of_two {e : TypeId} {f0 f1 : Field} (he : P.underlying e = some (.struct #[f0, f1])) (hc : P.cellsOf e = 2) (o0 : f0.offset = 0) (o1 : f1.offset = 1) (c0 : P.cellsOf f0.type = 1) (c1 : P.cellsOf f1.type = 1)
    (u0 : P.underlying f0.type = some (.int .i64)) (u1 : P.underlying f1.type = some (.int .i64)) (q : Nat) (cs : List Value) (y : DataW H × List MemPlace) (h : DataW.trod enc P w base spare held q e cs = some y) :
    ∃ a : I64 × I64, cs = [.int .i64 a.1.1, .int .i64 a.2.1] := by
  obtain ⟨xs, n, _, _, hlen, hxl, hat⟩ := DataW.trod_struct he h
  rw [hc] at hlen
  match cs, hlen with
  | [v0, v1], _ =>
    match xs, hxl with
    | [y0, y1], _ =>
      have h0 := hat 0 f0 rfl
      have h1 := hat 1 f1 rfl
      rw [o0, c0] at h0
      rw [o1, c1] at h1
      obtain ⟨a0, e0⟩ := of_i64 u0 n v0 y0 (by simpa using h0)
      obtain ⟨a1, e1⟩ := of_i64 u1 n v1 y1 (by simpa using h1)
      exact ⟨(a0, a1), by rw [e0, e1]; rfl⟩
end
end Go.Proofs.YthbipcjgpocpaaaGreat
