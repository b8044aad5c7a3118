/-
  No cell of these rows narrows 'for every input' (looked for: loops, veiled, ifaces, maps, wideKeys, modest, calm, conditions, laid).
  DERIVED. THE GIVEN ROWS OF THIS SEAT. 7 by the template 'for every input the law returns true; each argument reads behind the call as it read before'; 0 by the template 'total and deterministic' (their statements: YthbipcjgpocpaaaTotals.lean).
  GIVEN WITH THE SEED: the statements are not yours to turn. If you find one false, say at which input.
  Laid BY PROGRAM, IN A SANDBOX (cutbox-rows.mjs): the forced cells as the released guide's own fill.sh prints them over the translation b6b2a596172459a8… (all of the seat's roots in one cut). By AI agents, Wed Nov 11 2026. No macro, syntax, notation, axiom, sorry.
-/
import Derived.Test.YthbipcjgpocpaaaChecked
import GoSem.Claim
import GoSem.ClaimJoined
import GoSem.ClaimMapViews
import Derived.JoinedTies
import Derived.KernelRfl
namespace Go.Proofs.Ythbipcjgpocpaaa
/- THE CELL 'sum', in the pinned program and in every row, IS THE sha256 OF THE DUMP (.gsa) THAT YthbipcjgpocpaaaProg.lean LOADS. Nothing in Lean hashes anything: it is a label: what it is worth is what the hold of that sum in a sandbox is worth. -/
noncomputable def Try.pinned : Pinned := { name := "ythbipcjgpocpaaa", sum := "b6b2a596172459a8b5c95362e7ebd8ecf1e446bf911c9572246276cb480fe3ac", checked := Try.checked }
namespace Rows
def none {H : Type} : Left H := { results := [], args := [] }

/-- 'strongroomlaw13.DictPuts': WHATEVER THE INPUT: true; the input reads as it did. -/
def dictPutsSpec : ChangeSpec := { name := "dictPuts", fn := fun _ => fun
  | [d] => { results := [.lit (.bool true)], args := [d] }
  | _ => none }
def dictPutsRow : OpenClaim := { program := "ythbipcjgpocpaaa", sum := "b6b2a596172459a8b5c95362e7ebd8ecf1e446bf911c9572246276cb480fe3ac", func := "strongroom/strongroomlaw13.DictPuts", spec := "dictPuts", unfollowed := true, recurses := true, apart := false }
def DictPutsSaid : Prop := dictPutsRow.holds Try.pinned (OpenSpec.ofChange dictPutsSpec)

/-- ITS FALSE NEIGHBOUR: 'it returns false'. Refute it at one input. -/
def dictPutsWrong : ChangeSpec := { name := "dictPuts", fn := fun _ => fun
  | [d] => { results := [.lit (.bool false)], args := [d] }
  | _ => none }
def DictPutsWrongFalsely : Prop := dictPutsRow.holds Try.pinned (OpenSpec.ofChange dictPutsWrong)

/-- 'strongroomlaw13.DictGets': WHATEVER THE INPUT: true; the input reads as it did. -/
def dictGetsSpec : ChangeSpec := { name := "dictGets", fn := fun _ => fun
  | [d1, d2] => { results := [.lit (.bool true)], args := [d1, d2] }
  | _ => none }
def dictGetsRow : OpenClaim := { program := "ythbipcjgpocpaaa", sum := "b6b2a596172459a8b5c95362e7ebd8ecf1e446bf911c9572246276cb480fe3ac", func := "strongroom/strongroomlaw13.DictGets", spec := "dictGets", unfollowed := true, recurses := true, apart := false }
def DictGetsSaid : Prop := dictGetsRow.holds Try.pinned (OpenSpec.ofChange dictGetsSpec)

/-- ITS FALSE NEIGHBOUR: 'it returns false'. Refute it at one input. -/
def dictGetsWrong : ChangeSpec := { name := "dictGets", fn := fun _ => fun
  | [d1, d2] => { results := [.lit (.bool false)], args := [d1, d2] }
  | _ => none }
def DictGetsWrongFalsely : Prop := dictGetsRow.holds Try.pinned (OpenSpec.ofChange dictGetsWrong)

/-- 'strongroomlaw13.DictOrders': WHATEVER THE INPUT: true; the input reads as it did. -/
def dictOrdersSpec : ChangeSpec := { name := "dictOrders", fn := fun _ => fun
  | [d] => { results := [.lit (.bool true)], args := [d] }
  | _ => none }
def dictOrdersRow : OpenClaim := { program := "ythbipcjgpocpaaa", sum := "b6b2a596172459a8b5c95362e7ebd8ecf1e446bf911c9572246276cb480fe3ac", func := "strongroom/strongroomlaw13.DictOrders", spec := "dictOrders", unfollowed := true, recurses := true, apart := false }
def DictOrdersSaid : Prop := dictOrdersRow.holds Try.pinned (OpenSpec.ofChange dictOrdersSpec)

/-- ITS FALSE NEIGHBOUR: 'it returns false'. Refute it at one input. -/
def dictOrdersWrong : ChangeSpec := { name := "dictOrders", fn := fun _ => fun
  | [d] => { results := [.lit (.bool false)], args := [d] }
  | _ => none }
def DictOrdersWrongFalsely : Prop := dictOrdersRow.holds Try.pinned (OpenSpec.ofChange dictOrdersWrong)

/-- 'strongroomlaw14.ColumnShort': WHATEVER THE INPUT: true; the input reads as it did. -/
def columnShortSpec : ChangeSpec := { name := "columnShort", fn := fun _ => fun
  | [d1, d2] => { results := [.lit (.bool true)], args := [d1, d2] }
  | _ => none }
def columnShortRow : OpenClaim := { program := "ythbipcjgpocpaaa", sum := "b6b2a596172459a8b5c95362e7ebd8ecf1e446bf911c9572246276cb480fe3ac", func := "strongroom/strongroomlaw14.ColumnShort", spec := "columnShort", inPlace := ["math.Float64frombits"], unfollowed := true, recurses := true, apart := false }
def ColumnShortSaid : Prop := columnShortRow.holds Try.pinned (OpenSpec.ofChange columnShortSpec)

/-- ITS FALSE NEIGHBOUR: 'it returns false'. Refute it at one input. -/
def columnShortWrong : ChangeSpec := { name := "columnShort", fn := fun _ => fun
  | [d1, d2] => { results := [.lit (.bool false)], args := [d1, d2] }
  | _ => none }
def ColumnShortWrongFalsely : Prop := columnShortRow.holds Try.pinned (OpenSpec.ofChange columnShortWrong)

/-- 'strongroomlaw14.ColumnPuts': WHATEVER THE INPUT: true; the input reads as it did. -/
def columnPutsSpec : ChangeSpec := { name := "columnPuts", fn := fun _ => fun
  | [d1, d2] => { results := [.lit (.bool true)], args := [d1, d2] }
  | _ => none }
def columnPutsRow : OpenClaim := { program := "ythbipcjgpocpaaa", sum := "b6b2a596172459a8b5c95362e7ebd8ecf1e446bf911c9572246276cb480fe3ac", func := "strongroom/strongroomlaw14.ColumnPuts", spec := "columnPuts", inPlace := ["math.Float64frombits"], unfollowed := true, recurses := true, apart := false }
def ColumnPutsSaid : Prop := columnPutsRow.holds Try.pinned (OpenSpec.ofChange columnPutsSpec)

/-- ITS FALSE NEIGHBOUR: 'it returns false'. Refute it at one input. -/
def columnPutsWrong : ChangeSpec := { name := "columnPuts", fn := fun _ => fun
  | [d1, d2] => { results := [.lit (.bool false)], args := [d1, d2] }
  | _ => none }
def ColumnPutsWrongFalsely : Prop := columnPutsRow.holds Try.pinned (OpenSpec.ofChange columnPutsWrong)

/-- 'strongroomlaw14.ColumnNulls': WHATEVER THE INPUT: true; the input reads as it did. -/
def columnNullsSpec : ChangeSpec := { name := "columnNulls", fn := fun _ => fun
  | [d1, d2, d3] => { results := [.lit (.bool true)], args := [d1, d2, d3] }
  | _ => none }
def columnNullsRow : OpenClaim := { program := "ythbipcjgpocpaaa", sum := "b6b2a596172459a8b5c95362e7ebd8ecf1e446bf911c9572246276cb480fe3ac", func := "strongroom/strongroomlaw14.ColumnNulls", spec := "columnNulls", inPlace := ["math.Float64frombits"], unfollowed := true, recurses := true, apart := false }
def ColumnNullsSaid : Prop := columnNullsRow.holds Try.pinned (OpenSpec.ofChange columnNullsSpec)

/-- ITS FALSE NEIGHBOUR: 'it returns false'. Refute it at one input. -/
def columnNullsWrong : ChangeSpec := { name := "columnNulls", fn := fun _ => fun
  | [d1, d2, d3] => { results := [.lit (.bool false)], args := [d1, d2, d3] }
  | _ => none }
def ColumnNullsWrongFalsely : Prop := columnNullsRow.holds Try.pinned (OpenSpec.ofChange columnNullsWrong)

/-- 'strongroomlaw14.ColumnTurns': WHATEVER THE INPUT: true; the input reads as it did. -/
def columnTurnsSpec : ChangeSpec := { name := "columnTurns", fn := fun _ => fun
  | [d1, d2] => { results := [.lit (.bool true)], args := [d1, d2] }
  | _ => none }
def columnTurnsRow : OpenClaim := { program := "ythbipcjgpocpaaa", sum := "b6b2a596172459a8b5c95362e7ebd8ecf1e446bf911c9572246276cb480fe3ac", func := "strongroom/strongroomlaw14.ColumnTurns", spec := "columnTurns", inPlace := ["math.Float64frombits"], unfollowed := true, recurses := true, apart := false }
def ColumnTurnsSaid : Prop := columnTurnsRow.holds Try.pinned (OpenSpec.ofChange columnTurnsSpec)

/-- ITS FALSE NEIGHBOUR: 'it returns false'. Refute it at one input. -/
def columnTurnsWrong : ChangeSpec := { name := "columnTurns", fn := fun _ => fun
  | [d1, d2] => { results := [.lit (.bool false)], args := [d1, d2] }
  | _ => none }
def ColumnTurnsWrongFalsely : Prop := columnTurnsRow.holds Try.pinned (OpenSpec.ofChange columnTurnsWrong)

/- THE SECOND FORM. 'bulk': how many values and letters a reading holds, each counted each time it is reached (what is shared counts as often as it is met; a slice's spare places count too). A statement '..UptoSaid' is the law's where the arguments, and the package variables that the reading takes, are together of bulk at most 1048576: NARROWER than '..Said'. Prove '..Said' where nothing that the law and all that it calls make is longer than what came in: it says more and counts as full. Else prove '..UptoSaid'. A law counts once. -/
mutual
def uptoBulk {H : Type} : DataW H → Nat
  | .lit (.string bytes) => bytes.length + 1
  | .lit _ => 1
  | .nil => 1
  | .ptr d => uptoBulk d + 1
  | .slice elems spare => uptoBulkAll elems + uptoBulkAll spare + 1
  | .agg parts => uptoBulkAll parts + 1
  | .iface _ d => uptoBulk d + 1
  | .map entries => uptoBulkEntries entries + 1
  | .held _ => 1
def uptoBulkAll {H : Type} : List (DataW H) → Nat
  | [] => 0
  | d :: r => uptoBulk d + uptoBulkAll r
def uptoBulkEntries {H : Type} : List (Lit × DataW H) → Nat
  | [] => 0
  | x :: r => uptoBulkEntry x + uptoBulkEntries r
def uptoBulkEntry {H : Type} : Lit × DataW H → Nat
  | (.string bytes, d) => bytes.length + uptoBulk d + 1
  | (_, d) => uptoBulk d + 1
 end
def uptoSmall : (H : Type) → List (DataW H) → Bool := fun _ ds => decide (uptoBulkAll ds ≤ 1048576)
def OpenSpec.upto (s : _root_.Go.ChangeSpec) : _root_.Go.OpenSpec := { _root_.Go.OpenSpec.ofChange s with cond := some uptoSmall }

/-- 'strongroomlaw13.DictPuts', WHERE WHAT IT READS IS OF BULK AT MOST 1048576: true; the input reads as it did. -/
def dictPutsUptoRow : OpenClaim := { program := "ythbipcjgpocpaaa", sum := "b6b2a596172459a8b5c95362e7ebd8ecf1e446bf911c9572246276cb480fe3ac", func := "strongroom/strongroomlaw13.DictPuts", spec := "dictPuts", unfollowed := true, recurses := true, apart := false, narrowed := true }
def DictPutsUptoSaid : Prop := dictPutsUptoRow.holds Try.pinned (OpenSpec.upto dictPutsSpec)

/-- 'strongroomlaw13.DictGets', WHERE WHAT IT READS IS OF BULK AT MOST 1048576: true; the input reads as it did. -/
def dictGetsUptoRow : OpenClaim := { program := "ythbipcjgpocpaaa", sum := "b6b2a596172459a8b5c95362e7ebd8ecf1e446bf911c9572246276cb480fe3ac", func := "strongroom/strongroomlaw13.DictGets", spec := "dictGets", unfollowed := true, recurses := true, apart := false, narrowed := true }
def DictGetsUptoSaid : Prop := dictGetsUptoRow.holds Try.pinned (OpenSpec.upto dictGetsSpec)

/-- 'strongroomlaw13.DictOrders', WHERE WHAT IT READS IS OF BULK AT MOST 1048576: true; the input reads as it did. -/
def dictOrdersUptoRow : OpenClaim := { program := "ythbipcjgpocpaaa", sum := "b6b2a596172459a8b5c95362e7ebd8ecf1e446bf911c9572246276cb480fe3ac", func := "strongroom/strongroomlaw13.DictOrders", spec := "dictOrders", unfollowed := true, recurses := true, apart := false, narrowed := true }
def DictOrdersUptoSaid : Prop := dictOrdersUptoRow.holds Try.pinned (OpenSpec.upto dictOrdersSpec)

/-- 'strongroomlaw14.ColumnShort', WHERE WHAT IT READS IS OF BULK AT MOST 1048576: true; the input reads as it did. -/
def columnShortUptoRow : OpenClaim := { program := "ythbipcjgpocpaaa", sum := "b6b2a596172459a8b5c95362e7ebd8ecf1e446bf911c9572246276cb480fe3ac", func := "strongroom/strongroomlaw14.ColumnShort", spec := "columnShort", inPlace := ["math.Float64frombits"], unfollowed := true, recurses := true, apart := false, narrowed := true }
def ColumnShortUptoSaid : Prop := columnShortUptoRow.holds Try.pinned (OpenSpec.upto columnShortSpec)

/-- 'strongroomlaw14.ColumnPuts', WHERE WHAT IT READS IS OF BULK AT MOST 1048576: true; the input reads as it did. -/
def columnPutsUptoRow : OpenClaim := { program := "ythbipcjgpocpaaa", sum := "b6b2a596172459a8b5c95362e7ebd8ecf1e446bf911c9572246276cb480fe3ac", func := "strongroom/strongroomlaw14.ColumnPuts", spec := "columnPuts", inPlace := ["math.Float64frombits"], unfollowed := true, recurses := true, apart := false, narrowed := true }
def ColumnPutsUptoSaid : Prop := columnPutsUptoRow.holds Try.pinned (OpenSpec.upto columnPutsSpec)

/-- 'strongroomlaw14.ColumnNulls', WHERE WHAT IT READS IS OF BULK AT MOST 1048576: true; the input reads as it did. -/
def columnNullsUptoRow : OpenClaim := { program := "ythbipcjgpocpaaa", sum := "b6b2a596172459a8b5c95362e7ebd8ecf1e446bf911c9572246276cb480fe3ac", func := "strongroom/strongroomlaw14.ColumnNulls", spec := "columnNulls", inPlace := ["math.Float64frombits"], unfollowed := true, recurses := true, apart := false, narrowed := true }
def ColumnNullsUptoSaid : Prop := columnNullsUptoRow.holds Try.pinned (OpenSpec.upto columnNullsSpec)

/-- 'strongroomlaw14.ColumnTurns', WHERE WHAT IT READS IS OF BULK AT MOST 1048576: true; the input reads as it did. -/
def columnTurnsUptoRow : OpenClaim := { program := "ythbipcjgpocpaaa", sum := "b6b2a596172459a8b5c95362e7ebd8ecf1e446bf911c9572246276cb480fe3ac", func := "strongroom/strongroomlaw14.ColumnTurns", spec := "columnTurns", inPlace := ["math.Float64frombits"], unfollowed := true, recurses := true, apart := false, narrowed := true }
def ColumnTurnsUptoSaid : Prop := columnTurnsUptoRow.holds Try.pinned (OpenSpec.upto columnTurnsSpec)

end Rows
end Go.Proofs.Ythbipcjgpocpaaa
