/-
  No cell of these rows narrows 'for every input' (looked for: loops, veiled, ifaces, maps, wideKeys, modest, calm, conditions, laid).
  DERIVED. THE GIVEN ROWS OF THIS SEAT. 5 by the template 'for every input the law returns true; each argument reads behind the call as it read before'; 0 by the template 'total and deterministic' (their statements: YthimnkmoeonheaaTotals.lean).
  GIVEN WITH THE SEED: the statements are not yours to turn. If you find one false, say at which input.
  Laid BY PROGRAM, IN A SANDBOX (cutbox-rows.mjs): the forced cells as the released guide's own fill.sh prints them over the translation 3411af6b33f933b4… (all of the seat's roots in one cut). By AI agents, Wed Nov 11 2026. No macro, syntax, notation, axiom, sorry.
-/
import Derived.Test.YthimnkmoeonheaaChecked
import GoSem.Claim
import GoSem.ClaimJoined
import GoSem.ClaimMapViews
import Derived.JoinedTies
import Derived.KernelRfl
namespace Go.Proofs.Ythimnkmoeonheaa
/- THE CELL 'sum', in the pinned program and in every row, IS THE sha256 OF THE DUMP (.gsa) THAT YthimnkmoeonheaaProg.lean LOADS. Nothing in Lean hashes anything: it is a label: what it is worth is what the hold of that sum in a sandbox is worth. -/
noncomputable def Try.pinned : Pinned := { name := "ythimnkmoeonheaa", sum := "3411af6b33f933b46afd4c1bb953238f8e44f733310dc8224cdb093ad55e46f1", checked := Try.checked }
namespace Rows
def none {H : Type} : Left H := { results := [], args := [] }

/-- 'strongroomlaw04.DeviceKeeps': WHATEVER THE INPUT: true; the input reads as it did. -/
def deviceKeepsSpec : ChangeSpec := { name := "deviceKeeps", fn := fun _ => fun
  | [d1, d2, d3] => { results := [.lit (.bool true)], args := [d1, d2, d3] }
  | _ => none }
def deviceKeepsRow : OpenClaim := { program := "ythimnkmoeonheaa", sum := "3411af6b33f933b46afd4c1bb953238f8e44f733310dc8224cdb093ad55e46f1", func := "strongroom/strongroomlaw04.DeviceKeeps", spec := "deviceKeeps", unfollowed := true, recurses := true, apart := false }
def DeviceKeepsSaid : Prop := deviceKeepsRow.holds Try.pinned (OpenSpec.ofChange deviceKeepsSpec)

/-- ITS FALSE NEIGHBOUR: 'it returns false'. Refute it at one input. -/
def deviceKeepsWrong : ChangeSpec := { name := "deviceKeeps", fn := fun _ => fun
  | [d1, d2, d3] => { results := [.lit (.bool false)], args := [d1, d2, d3] }
  | _ => none }
def DeviceKeepsWrongFalsely : Prop := deviceKeepsRow.holds Try.pinned (OpenSpec.ofChange deviceKeepsWrong)

/-- 'strongroomlaw04.DeviceAlone': WHATEVER THE INPUT: true; the input reads as it did. -/
def deviceAloneSpec : ChangeSpec := { name := "deviceAlone", fn := fun _ => fun
  | [d1, d2] => { results := [.lit (.bool true)], args := [d1, d2] }
  | _ => none }
def deviceAloneRow : OpenClaim := { program := "ythimnkmoeonheaa", sum := "3411af6b33f933b46afd4c1bb953238f8e44f733310dc8224cdb093ad55e46f1", func := "strongroom/strongroomlaw04.DeviceAlone", spec := "deviceAlone", unfollowed := true, recurses := true, apart := false }
def DeviceAloneSaid : Prop := deviceAloneRow.holds Try.pinned (OpenSpec.ofChange deviceAloneSpec)

/-- ITS FALSE NEIGHBOUR: 'it returns false'. Refute it at one input. -/
def deviceAloneWrong : ChangeSpec := { name := "deviceAlone", fn := fun _ => fun
  | [d1, d2] => { results := [.lit (.bool false)], args := [d1, d2] }
  | _ => none }
def DeviceAloneWrongFalsely : Prop := deviceAloneRow.holds Try.pinned (OpenSpec.ofChange deviceAloneWrong)

/-- 'strongroomlaw04.DevicePlays': WHATEVER THE INPUT: true; the input reads as it did. -/
def devicePlaysSpec : ChangeSpec := { name := "devicePlays", fn := fun _ => fun
  | [d1, d2] => { results := [.lit (.bool true)], args := [d1, d2] }
  | _ => none }
def devicePlaysRow : OpenClaim := { program := "ythimnkmoeonheaa", sum := "3411af6b33f933b46afd4c1bb953238f8e44f733310dc8224cdb093ad55e46f1", func := "strongroom/strongroomlaw04.DevicePlays", spec := "devicePlays", unfollowed := true, recurses := true, apart := false }
def DevicePlaysSaid : Prop := devicePlaysRow.holds Try.pinned (OpenSpec.ofChange devicePlaysSpec)

/-- ITS FALSE NEIGHBOUR: 'it returns false'. Refute it at one input. -/
def devicePlaysWrong : ChangeSpec := { name := "devicePlays", fn := fun _ => fun
  | [d1, d2] => { results := [.lit (.bool false)], args := [d1, d2] }
  | _ => none }
def DevicePlaysWrongFalsely : Prop := devicePlaysRow.holds Try.pinned (OpenSpec.ofChange devicePlaysWrong)

/-- 'strongroomlaw04.DeviceMakes': WHATEVER THE INPUT: true; the input reads as it did. -/
def deviceMakesSpec : ChangeSpec := { name := "deviceMakes", fn := fun _ => fun
  | [d] => { results := [.lit (.bool true)], args := [d] }
  | _ => none }
def deviceMakesRow : OpenClaim := { program := "ythimnkmoeonheaa", sum := "3411af6b33f933b46afd4c1bb953238f8e44f733310dc8224cdb093ad55e46f1", func := "strongroom/strongroomlaw04.DeviceMakes", spec := "deviceMakes", unfollowed := true, recurses := true, apart := false }
def DeviceMakesSaid : Prop := deviceMakesRow.holds Try.pinned (OpenSpec.ofChange deviceMakesSpec)

/-- ITS FALSE NEIGHBOUR: 'it returns false'. Refute it at one input. -/
def deviceMakesWrong : ChangeSpec := { name := "deviceMakes", fn := fun _ => fun
  | [d] => { results := [.lit (.bool false)], args := [d] }
  | _ => none }
def DeviceMakesWrongFalsely : Prop := deviceMakesRow.holds Try.pinned (OpenSpec.ofChange deviceMakesWrong)

/-- 'strongroomlaw04.DeviceOff': WHATEVER THE INPUT: true; the input reads as it did. -/
def deviceOffSpec : ChangeSpec := { name := "deviceOff", fn := fun _ => fun
  | [d1, d2] => { results := [.lit (.bool true)], args := [d1, d2] }
  | _ => none }
def deviceOffRow : OpenClaim := { program := "ythimnkmoeonheaa", sum := "3411af6b33f933b46afd4c1bb953238f8e44f733310dc8224cdb093ad55e46f1", func := "strongroom/strongroomlaw04.DeviceOff", spec := "deviceOff", unfollowed := true, recurses := true, apart := false }
def DeviceOffSaid : Prop := deviceOffRow.holds Try.pinned (OpenSpec.ofChange deviceOffSpec)

/-- ITS FALSE NEIGHBOUR: 'it returns false'. Refute it at one input. -/
def deviceOffWrong : ChangeSpec := { name := "deviceOff", fn := fun _ => fun
  | [d1, d2] => { results := [.lit (.bool false)], args := [d1, d2] }
  | _ => none }
def DeviceOffWrongFalsely : Prop := deviceOffRow.holds Try.pinned (OpenSpec.ofChange deviceOffWrong)

/- THE SECOND FORM. 'bulk': how many values and letters a reading holds, each counted each time it is reached (what is shared counts as often as it is met; a slice's spare places count too). A statement '..UptoSaid' is the law's where the arguments, and the package variables that the reading takes, are together of bulk at most 1048576: NARROWER than '..Said'. Prove '..Said' where nothing that the law and all that it calls make is longer than what came in: it says more and counts as full. Else prove '..UptoSaid'. A law counts once. -/
mutual
def uptoBulk {H : Type} : DataW H → Nat
  | .lit (.string bytes) => bytes.length + 1
  | .lit _ => 1
  | .nil => 1
  | .ptr d => uptoBulk d + 1
  | .slice elems spare => uptoBulkAll elems + uptoBulkAll spare + 1
  | .agg parts => uptoBulkAll parts + 1
  | .iface _ d => uptoBulk d + 1
  | .map entries => uptoBulkEntries entries + 1
  | .held _ => 1
def uptoBulkAll {H : Type} : List (DataW H) → Nat
  | [] => 0
  | d :: r => uptoBulk d + uptoBulkAll r
def uptoBulkEntries {H : Type} : List (Lit × DataW H) → Nat
  | [] => 0
  | x :: r => uptoBulkEntry x + uptoBulkEntries r
def uptoBulkEntry {H : Type} : Lit × DataW H → Nat
  | (.string bytes, d) => bytes.length + uptoBulk d + 1
  | (_, d) => uptoBulk d + 1
 end
def uptoSmall : (H : Type) → List (DataW H) → Bool := fun _ ds => decide (uptoBulkAll ds ≤ 1048576)
def OpenSpec.upto (s : _root_.Go.ChangeSpec) : _root_.Go.OpenSpec := { _root_.Go.OpenSpec.ofChange s with cond := some uptoSmall }

/-- 'strongroomlaw04.DeviceKeeps', WHERE WHAT IT READS IS OF BULK AT MOST 1048576: true; the input reads as it did. -/
def deviceKeepsUptoRow : OpenClaim := { program := "ythimnkmoeonheaa", sum := "3411af6b33f933b46afd4c1bb953238f8e44f733310dc8224cdb093ad55e46f1", func := "strongroom/strongroomlaw04.DeviceKeeps", spec := "deviceKeeps", unfollowed := true, recurses := true, apart := false, narrowed := true }
def DeviceKeepsUptoSaid : Prop := deviceKeepsUptoRow.holds Try.pinned (OpenSpec.upto deviceKeepsSpec)

/-- 'strongroomlaw04.DeviceAlone', WHERE WHAT IT READS IS OF BULK AT MOST 1048576: true; the input reads as it did. -/
def deviceAloneUptoRow : OpenClaim := { program := "ythimnkmoeonheaa", sum := "3411af6b33f933b46afd4c1bb953238f8e44f733310dc8224cdb093ad55e46f1", func := "strongroom/strongroomlaw04.DeviceAlone", spec := "deviceAlone", unfollowed := true, recurses := true, apart := false, narrowed := true }
def DeviceAloneUptoSaid : Prop := deviceAloneUptoRow.holds Try.pinned (OpenSpec.upto deviceAloneSpec)

/-- 'strongroomlaw04.DevicePlays', WHERE WHAT IT READS IS OF BULK AT MOST 1048576: true; the input reads as it did. -/
def devicePlaysUptoRow : OpenClaim := { program := "ythimnkmoeonheaa", sum := "3411af6b33f933b46afd4c1bb953238f8e44f733310dc8224cdb093ad55e46f1", func := "strongroom/strongroomlaw04.DevicePlays", spec := "devicePlays", unfollowed := true, recurses := true, apart := false, narrowed := true }
def DevicePlaysUptoSaid : Prop := devicePlaysUptoRow.holds Try.pinned (OpenSpec.upto devicePlaysSpec)

/-- 'strongroomlaw04.DeviceMakes', WHERE WHAT IT READS IS OF BULK AT MOST 1048576: true; the input reads as it did. -/
def deviceMakesUptoRow : OpenClaim := { program := "ythimnkmoeonheaa", sum := "3411af6b33f933b46afd4c1bb953238f8e44f733310dc8224cdb093ad55e46f1", func := "strongroom/strongroomlaw04.DeviceMakes", spec := "deviceMakes", unfollowed := true, recurses := true, apart := false, narrowed := true }
def DeviceMakesUptoSaid : Prop := deviceMakesUptoRow.holds Try.pinned (OpenSpec.upto deviceMakesSpec)

/-- 'strongroomlaw04.DeviceOff', WHERE WHAT IT READS IS OF BULK AT MOST 1048576: true; the input reads as it did. -/
def deviceOffUptoRow : OpenClaim := { program := "ythimnkmoeonheaa", sum := "3411af6b33f933b46afd4c1bb953238f8e44f733310dc8224cdb093ad55e46f1", func := "strongroom/strongroomlaw04.DeviceOff", spec := "deviceOff", unfollowed := true, recurses := true, apart := false, narrowed := true }
def DeviceOffUptoSaid : Prop := deviceOffUptoRow.holds Try.pinned (OpenSpec.upto deviceOffSpec)

end Rows
end Go.Proofs.Ythimnkmoeonheaa
