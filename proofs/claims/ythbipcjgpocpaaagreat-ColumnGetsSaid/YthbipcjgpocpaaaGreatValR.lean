/- A value as a row reads it. -/
import Derived.Test.YthbipcjgpocpaaaGreatVal
import Derived.Test.YthbipcjgpocpaaaGreatRowGen
namespace Go.Proofs.YthbipcjgpocpaaaGreat
open Go.RowKit
set_option linter.unusedSimpArgs false
set_option linter.unusedVariables false

/-- A value as the row reads it. -/
abbrev VR := I64 × I64 × ByteArray × U64
def vrCells (x : VR) : List Value := [i64V x.1, i64V x.2.1, .string x.2.2.1, u64V x.2.2.2]
def toVa (x : VR) : Va := ⟨x.1.1, x.2.1.1, x.2.2.1, x.2.2.2.1.toNat⟩
theorem vr_u64 (x : U64) : u64V x = .int .u64 (x.1.toNat : Int) ∧ x.1.toNat < 18446744073709551616 := by
  obtain ⟨k, hk, hlt⟩ := wf_u64_nat x.2
  unfold u64V
  rw [hk]
  exact ⟨rfl, by simpa using hlt⟩
theorem vr_cells (x : VR) : vrCells x = (toVa x).cells := by
  unfold vrCells Va.cells toVa
  rw [(vr_u64 x.2.2.2).1]
  rfl
theorem vr_agg (x : VR) : Value.agg (vrCells x).toArray = (toVa x).agg := by rw [vr_cells]; rfl
theorem vr_wf (x : VR) : (toVa x).wf := ⟨x.1.2, x.2.1.2, (vr_u64 x.2.2.2).2⟩
theorem vr_map (l : List VR) : l.map vrCells = (l.map toVa).map Va.cells := by
  rw [List.map_map]
  exact List.map_congr_left fun x _ => vr_cells x
theorem vr_all (l : List VR) : ∀ v ∈ l.map toVa, v.wf := by
  intro v hv; obtain ⟨x, _, rfl⟩ := List.mem_map.1 hv; exact vr_wf x
end Go.Proofs.YthbipcjgpocpaaaGreat
