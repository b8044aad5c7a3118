/- From a row's arguments, read as data, to the walks' words. -/
import Derived.Test.YthbipcjgpocpaaaGreatBase
import Derived.ProofKit
import Derived.OpenShut
import Derived.ShutString
import Derived.ChangeOld
import Derived.SizedLaws
import Derived.Deep.Slices
import Derived.Deep.Grids
namespace Go.Proofs.YthbipcjgpocpaaaGreat
open Go.ChangeShapes Go.WideShapes Go.ChangeAt Go.RowKit
set_option linter.unusedSimpArgs false
set_option linter.unusedVariables false

section
variable {H : Type} {enc : TypeId × Value → H} {P : Program} {w : World} {base : Nat} {spare : Nat → Bool} {held : Bool}

/-- A slice of elements of one cell, each of the shape 'f x'. -/
theorem arg_slice {α : Type} {t e : TypeId} {a : Option Addr} {n c : Nat} {x : DataW H × List MemPlace} (d : α) (f : α → Value) (ht : P.underlying t = some (.slice e)) (hc : P.cellsOf e = 1)
    (hf : ∀ k u y, DataW.trod enc P w base (fun _ => true) held k e [u] = some y → ∃ a, u = f a) {fuel : Nat} (h : DataW.trod enc P w base (fun _ => true) held fuel t [.slice a n c] = some x) :
    ∃ xs : List α, Sl w a n c (xs.map f) ∧ (n = 0 ∨ ∃ el sp, x.1 = .slice el sp ∧ el.length = n) := by
  rcases Go.Deep.open_slice1 ht hc h with ⟨hcs, hx⟩ | ⟨ad, len, cap, m, k, V, D, Pl, hcs, _, hl, hm, hmm, hx, hel⟩
  · simp only [List.cons.injEq, and_true, Value.slice.injEq] at hcs
    obtain ⟨rfl, rfl, rfl⟩ := hcs
    exact ⟨[], Sl.none w, .inl rfl⟩
  · simp only [List.cons.injEq, and_true, Value.slice.injEq] at hcs
    obtain ⟨rfl, rfl, rfl⟩ := hcs
    have hmc : m = c := by simpa using hmm
    subst hmc
    have hg : ∀ i, ∃ y : α, i < n → V i = f y := by
      intro i
      by_cases hi : i < n
      · obtain ⟨_, h2⟩ := hel i (by omega)
        obtain ⟨y, hy⟩ := hf _ _ _ h2
        exact ⟨y, fun _ => hy⟩
      · exact ⟨d, fun h => absurd h hi⟩
    refine ⟨(List.range n).map fun i => (hg i).choose, ⟨by simp, hl, hm, fun h => by simp at h, fun i hi => ?_⟩, .inr ⟨_, _, by rw [hx], by simp⟩⟩
    rw [Option.getD_some, (hel i (by omega)).1, (hg i).choose_spec hi]
    simp [hi]

theorem of_byte {e : TypeId} (he : P.underlying e = some (.int .u8)) (k : Nat) (u : Value) (y : DataW H × List MemPlace) (h : DataW.trod enc P w base spare held k e [u] = some y) : ∃ a, u = byteV a := by
  obtain ⟨n, hcs, _, hw⟩ := DataW.trod_int he h
  simp only [List.cons.injEq, and_true] at hcs
  subst hcs
  have h2 : IntKind.u8.min ≤ n ∧ n ≤ IntKind.u8.max := by
    have h3 : (decide (IntKind.u8.min ≤ n) && decide (n ≤ IntKind.u8.max)) = true := hw
    simpa only [Bool.and_eq_true, decide_eq_true_eq] using h3
  have e1 : IntKind.u8.min = 0 := by decide
  have e2 : IntKind.u8.max = 255 := by decide
  rw [e1, e2] at h2
  refine ⟨UInt8.ofNat n.toNat, ?_⟩
  unfold byteV
  rw [UInt8.toNat_ofNat']
  congr 1
  omega
theorem of_bool {e : TypeId} (he : P.underlying e = some .bool) (k : Nat) (u : Value) (y : DataW H × List MemPlace) (h : DataW.trod enc P w base spare held k e [u] = some y) : ∃ a, u = Value.bool a := by
  obtain ⟨b, hcs, _⟩ := DataW.trod_bool he h
  simp only [List.cons.injEq, and_true] at hcs
  exact ⟨b, hcs⟩

/-- An int of Go. -/
abbrev I64 := {n : Int // (Lit.int .i64 n).wf = true}
def i64V (x : I64) : Value := .int .i64 x.1
theorem of_i64 {e : TypeId} (he : P.underlying e = some (.int .i64)) (k : Nat) (u : Value) (y : DataW H × List MemPlace) (h : DataW.trod enc P w base spare held k e [u] = some y) : ∃ a, u = i64V a := by
  obtain ⟨n, hcs, _, hw⟩ := DataW.trod_int he h
  simp only [List.cons.injEq, and_true] at hcs
  exact ⟨⟨n, hw⟩, hcs⟩
theorem of_string {e : TypeId} (he : P.underlying e = some .string) (k : Nat) (u : Value) (y : DataW H × List MemPlace) (h : DataW.trod enc P w base spare held k e [u] = some y) : ∃ a, u = Value.string a := by
  obtain ⟨s, hcs, _⟩ := DataW.trod_string he h
  simp only [List.cons.injEq, and_true] at hcs
  exact ⟨s, hcs⟩

/-- How long a slice may be, by the form's own reach. -/
theorem arg_len {ts : List TypeId} {ds : List (DataW H)} (h : (DataW.weightsEach P ts ds).all (· ≤ reachBytes) = true) (j : Nat) {t e : TypeId} {d : DataW H} {n bytes : Nat} (ht : ts[j]? = some t) (hd : ds[j]? = some d)
    (hu : P.underlying t = some (.slice e)) (hb : P.bytesOf e = bytes) (hn : n = 0 ∨ ∃ el sp, d = .slice el sp ∧ el.length = n) : n * bytes ≤ 140737488351232 := by
  rcases hn with rfl | ⟨el, sp, rfl, rfl⟩
  · simp
  · have h1 := sized_slice h ht hd hu
    rw [hb] at h1
    have h2 : el.length * bytes ≤ (el.length + sp.length) * bytes := Nat.mul_le_mul_right _ (by omega)
    have h3 : reachBytes = 140737488351232 := by decide
    omega
end
end Go.Proofs.YthbipcjgpocpaaaGreat
