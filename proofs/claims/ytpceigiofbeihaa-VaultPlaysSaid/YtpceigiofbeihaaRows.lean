/-
  No cell of these rows narrows 'for every input' (looked for: loops, veiled, ifaces, maps, wideKeys, modest, calm, conditions, laid).
  DERIVED. THE GIVEN ROWS OF THIS SEAT. 8 by the template 'for every input the law returns true; each argument reads behind the call as it read before'; 0 by the template 'total and deterministic' (their statements: YtpceigiofbeihaaTotals.lean).
  GIVEN WITH THE SEED: the statements are not yours to turn. If you find one false, say at which input.
  Laid BY PROGRAM, IN A SANDBOX (cutbox-rows.mjs): the forced cells as the released guide's own fill.sh prints them over the translation 5521724aa633e6f6… (all of the seat's roots in one cut). By AI agents, Wed Nov 11 2026. No macro, syntax, notation, axiom, sorry.
-/
import Derived.Test.YtpceigiofbeihaaChecked
import GoSem.Claim
import GoSem.ClaimJoined
import GoSem.ClaimMapViews
import Derived.JoinedTies
import Derived.KernelRfl
namespace Go.Proofs.Ytpceigiofbeihaa
/- THE CELL 'sum', in the pinned program and in every row, IS THE sha256 OF THE DUMP (.gsa) THAT YtpceigiofbeihaaProg.lean LOADS. Nothing in Lean hashes anything: it is a label: what it is worth is what the hold of that sum in a sandbox is worth. -/
noncomputable def Try.pinned : Pinned := { name := "ytpceigiofbeihaa", sum := "5521724aa633e6f6b6322fed0e49f999ca9db31aad6d58b9ff8c5feb70c2247b", checked := Try.checked }
namespace Rows
def none {H : Type} : Left H := { results := [], args := [] }

/-- 'strongroomlaw05.VaultFresh': WHATEVER THE INPUT: true; the input reads as it did. -/
def vaultFreshSpec : ChangeSpec := { name := "vaultFresh", fn := fun _ => fun
  | [d1, d2] => { results := [.lit (.bool true)], args := [d1, d2] }
  | _ => none }
def vaultFreshRow : OpenClaim := { program := "ytpceigiofbeihaa", sum := "5521724aa633e6f6b6322fed0e49f999ca9db31aad6d58b9ff8c5feb70c2247b", func := "strongroom/strongroomlaw05.VaultFresh", spec := "vaultFresh", plainKeys := false, apart := false }
def VaultFreshSaid : Prop := vaultFreshRow.holds Try.pinned (OpenSpec.ofChange vaultFreshSpec)

/-- ITS FALSE NEIGHBOUR: 'it returns false'. Refute it at one input. -/
def vaultFreshWrong : ChangeSpec := { name := "vaultFresh", fn := fun _ => fun
  | [d1, d2] => { results := [.lit (.bool false)], args := [d1, d2] }
  | _ => none }
def VaultFreshWrongFalsely : Prop := vaultFreshRow.holds Try.pinned (OpenSpec.ofChange vaultFreshWrong)

/-- 'strongroomlaw05.VaultGone': WHATEVER THE INPUT: true; the input reads as it did. -/
def vaultGoneSpec : ChangeSpec := { name := "vaultGone", fn := fun _ => fun
  | [d1, d2] => { results := [.lit (.bool true)], args := [d1, d2] }
  | _ => none }
def vaultGoneRow : OpenClaim := { program := "ytpceigiofbeihaa", sum := "5521724aa633e6f6b6322fed0e49f999ca9db31aad6d58b9ff8c5feb70c2247b", func := "strongroom/strongroomlaw05.VaultGone", spec := "vaultGone", plainKeys := false, apart := false }
def VaultGoneSaid : Prop := vaultGoneRow.holds Try.pinned (OpenSpec.ofChange vaultGoneSpec)

/-- ITS FALSE NEIGHBOUR: 'it returns false'. Refute it at one input. -/
def vaultGoneWrong : ChangeSpec := { name := "vaultGone", fn := fun _ => fun
  | [d1, d2] => { results := [.lit (.bool false)], args := [d1, d2] }
  | _ => none }
def VaultGoneWrongFalsely : Prop := vaultGoneRow.holds Try.pinned (OpenSpec.ofChange vaultGoneWrong)

/-- 'strongroomlaw06.SpaceTakes': WHATEVER THE INPUT: true; the input reads as it did. -/
def spaceTakesSpec : ChangeSpec := { name := "spaceTakes", fn := fun _ => fun
  | [d1, d2, d3] => { results := [.lit (.bool true)], args := [d1, d2, d3] }
  | _ => none }
def spaceTakesRow : OpenClaim := { program := "ytpceigiofbeihaa", sum := "5521724aa633e6f6b6322fed0e49f999ca9db31aad6d58b9ff8c5feb70c2247b", func := "strongroom/strongroomlaw06.SpaceTakes", spec := "spaceTakes", plainKeys := false, apart := false }
def SpaceTakesSaid : Prop := spaceTakesRow.holds Try.pinned (OpenSpec.ofChange spaceTakesSpec)

/-- ITS FALSE NEIGHBOUR: 'it returns false'. Refute it at one input. -/
def spaceTakesWrong : ChangeSpec := { name := "spaceTakes", fn := fun _ => fun
  | [d1, d2, d3] => { results := [.lit (.bool false)], args := [d1, d2, d3] }
  | _ => none }
def SpaceTakesWrongFalsely : Prop := spaceTakesRow.holds Try.pinned (OpenSpec.ofChange spaceTakesWrong)

/-- 'strongroomlaw06.SpacePlays': WHATEVER THE INPUT: true; the input reads as it did. -/
def spacePlaysSpec : ChangeSpec := { name := "spacePlays", fn := fun _ => fun
  | [d1, d2, d3] => { results := [.lit (.bool true)], args := [d1, d2, d3] }
  | _ => none }
def spacePlaysRow : OpenClaim := { program := "ytpceigiofbeihaa", sum := "5521724aa633e6f6b6322fed0e49f999ca9db31aad6d58b9ff8c5feb70c2247b", func := "strongroom/strongroomlaw06.SpacePlays", spec := "spacePlays", plainKeys := false, apart := false }
def SpacePlaysSaid : Prop := spacePlaysRow.holds Try.pinned (OpenSpec.ofChange spacePlaysSpec)

/-- ITS FALSE NEIGHBOUR: 'it returns false'. Refute it at one input. -/
def spacePlaysWrong : ChangeSpec := { name := "spacePlays", fn := fun _ => fun
  | [d1, d2, d3] => { results := [.lit (.bool false)], args := [d1, d2, d3] }
  | _ => none }
def SpacePlaysWrongFalsely : Prop := spacePlaysRow.holds Try.pinned (OpenSpec.ofChange spacePlaysWrong)

/-- 'strongroomlaw05.VaultPlays': WHATEVER THE INPUT: true; the input reads as it did. -/
def vaultPlaysSpec : ChangeSpec := { name := "vaultPlays", fn := fun _ => fun
  | [d] => { results := [.lit (.bool true)], args := [d] }
  | _ => none }
def vaultPlaysRow : OpenClaim := { program := "ytpceigiofbeihaa", sum := "5521724aa633e6f6b6322fed0e49f999ca9db31aad6d58b9ff8c5feb70c2247b", func := "strongroom/strongroomlaw05.VaultPlays", spec := "vaultPlays", plainKeys := false, apart := false }
def VaultPlaysSaid : Prop := vaultPlaysRow.holds Try.pinned (OpenSpec.ofChange vaultPlaysSpec)

/-- ITS FALSE NEIGHBOUR: 'it returns false'. Refute it at one input. -/
def vaultPlaysWrong : ChangeSpec := { name := "vaultPlays", fn := fun _ => fun
  | [d] => { results := [.lit (.bool false)], args := [d] }
  | _ => none }
def VaultPlaysWrongFalsely : Prop := vaultPlaysRow.holds Try.pinned (OpenSpec.ofChange vaultPlaysWrong)

/-- 'strongroomlaw05.VaultOpens': WHATEVER THE INPUT: true; the input reads as it did. -/
def vaultOpensSpec : ChangeSpec := { name := "vaultOpens", fn := fun _ => fun
  | [d1, d2, d3] => { results := [.lit (.bool true)], args := [d1, d2, d3] }
  | _ => none }
def vaultOpensRow : OpenClaim := { program := "ytpceigiofbeihaa", sum := "5521724aa633e6f6b6322fed0e49f999ca9db31aad6d58b9ff8c5feb70c2247b", func := "strongroom/strongroomlaw05.VaultOpens", spec := "vaultOpens", plainKeys := false, apart := false }
def VaultOpensSaid : Prop := vaultOpensRow.holds Try.pinned (OpenSpec.ofChange vaultOpensSpec)

/-- ITS FALSE NEIGHBOUR: 'it returns false'. Refute it at one input. -/
def vaultOpensWrong : ChangeSpec := { name := "vaultOpens", fn := fun _ => fun
  | [d1, d2, d3] => { results := [.lit (.bool false)], args := [d1, d2, d3] }
  | _ => none }
def VaultOpensWrongFalsely : Prop := vaultOpensRow.holds Try.pinned (OpenSpec.ofChange vaultOpensWrong)

/-- 'strongroomlaw06.SpaceCopies': WHATEVER THE INPUT: true; the input reads as it did. -/
def spaceCopiesSpec : ChangeSpec := { name := "spaceCopies", fn := fun _ => fun
  | [d1, d2, d3] => { results := [.lit (.bool true)], args := [d1, d2, d3] }
  | _ => none }
def spaceCopiesRow : OpenClaim := { program := "ytpceigiofbeihaa", sum := "5521724aa633e6f6b6322fed0e49f999ca9db31aad6d58b9ff8c5feb70c2247b", func := "strongroom/strongroomlaw06.SpaceCopies", spec := "spaceCopies", plainKeys := false, apart := false }
def SpaceCopiesSaid : Prop := spaceCopiesRow.holds Try.pinned (OpenSpec.ofChange spaceCopiesSpec)

/-- ITS FALSE NEIGHBOUR: 'it returns false'. Refute it at one input. -/
def spaceCopiesWrong : ChangeSpec := { name := "spaceCopies", fn := fun _ => fun
  | [d1, d2, d3] => { results := [.lit (.bool false)], args := [d1, d2, d3] }
  | _ => none }
def SpaceCopiesWrongFalsely : Prop := spaceCopiesRow.holds Try.pinned (OpenSpec.ofChange spaceCopiesWrong)

/-- 'strongroomlaw06.SpaceCounts': WHATEVER THE INPUT: true; the input reads as it did. -/
def spaceCountsSpec : ChangeSpec := { name := "spaceCounts", fn := fun _ => fun
  | [d1, d2] => { results := [.lit (.bool true)], args := [d1, d2] }
  | _ => none }
def spaceCountsRow : OpenClaim := { program := "ytpceigiofbeihaa", sum := "5521724aa633e6f6b6322fed0e49f999ca9db31aad6d58b9ff8c5feb70c2247b", func := "strongroom/strongroomlaw06.SpaceCounts", spec := "spaceCounts", plainKeys := false, apart := false }
def SpaceCountsSaid : Prop := spaceCountsRow.holds Try.pinned (OpenSpec.ofChange spaceCountsSpec)

/-- ITS FALSE NEIGHBOUR: 'it returns false'. Refute it at one input. -/
def spaceCountsWrong : ChangeSpec := { name := "spaceCounts", fn := fun _ => fun
  | [d1, d2] => { results := [.lit (.bool false)], args := [d1, d2] }
  | _ => none }
def SpaceCountsWrongFalsely : Prop := spaceCountsRow.holds Try.pinned (OpenSpec.ofChange spaceCountsWrong)

/- THE SECOND FORM. 'bulk': how many values and letters a reading holds, each counted each time it is reached (what is shared counts as often as it is met; a slice's spare places count too). A statement '..UptoSaid' is the law's where the arguments, and the package variables that the reading takes, are together of bulk at most 1048576: NARROWER than '..Said'. Prove '..Said' where nothing that the law and all that it calls make is longer than what came in: it says more and counts as full. Else prove '..UptoSaid'. A law counts once. -/
mutual
def uptoBulk {H : Type} : DataW H → Nat
  | .lit (.string bytes) => bytes.length + 1
  | .lit _ => 1
  | .nil => 1
  | .ptr d => uptoBulk d + 1
  | .slice elems spare => uptoBulkAll elems + uptoBulkAll spare + 1
  | .agg parts => uptoBulkAll parts + 1
  | .iface _ d => uptoBulk d + 1
  | .map entries => uptoBulkEntries entries + 1
  | .held _ => 1
def uptoBulkAll {H : Type} : List (DataW H) → Nat
  | [] => 0
  | d :: r => uptoBulk d + uptoBulkAll r
def uptoBulkEntries {H : Type} : List (Lit × DataW H) → Nat
  | [] => 0
  | x :: r => uptoBulkEntry x + uptoBulkEntries r
def uptoBulkEntry {H : Type} : Lit × DataW H → Nat
  | (.string bytes, d) => bytes.length + uptoBulk d + 1
  | (_, d) => uptoBulk d + 1
 end
def uptoSmall : (H : Type) → List (DataW H) → Bool := fun _ ds => decide (uptoBulkAll ds ≤ 1048576)
def OpenSpec.upto (s : _root_.Go.ChangeSpec) : _root_.Go.OpenSpec := { _root_.Go.OpenSpec.ofChange s with cond := some uptoSmall }

/-- 'strongroomlaw05.VaultFresh', WHERE WHAT IT READS IS OF BULK AT MOST 1048576: true; the input reads as it did. -/
def vaultFreshUptoRow : OpenClaim := { program := "ytpceigiofbeihaa", sum := "5521724aa633e6f6b6322fed0e49f999ca9db31aad6d58b9ff8c5feb70c2247b", func := "strongroom/strongroomlaw05.VaultFresh", spec := "vaultFresh", plainKeys := false, apart := false, narrowed := true }
def VaultFreshUptoSaid : Prop := vaultFreshUptoRow.holds Try.pinned (OpenSpec.upto vaultFreshSpec)

/-- 'strongroomlaw05.VaultGone', WHERE WHAT IT READS IS OF BULK AT MOST 1048576: true; the input reads as it did. -/
def vaultGoneUptoRow : OpenClaim := { program := "ytpceigiofbeihaa", sum := "5521724aa633e6f6b6322fed0e49f999ca9db31aad6d58b9ff8c5feb70c2247b", func := "strongroom/strongroomlaw05.VaultGone", spec := "vaultGone", plainKeys := false, apart := false, narrowed := true }
def VaultGoneUptoSaid : Prop := vaultGoneUptoRow.holds Try.pinned (OpenSpec.upto vaultGoneSpec)

/-- 'strongroomlaw06.SpaceTakes', WHERE WHAT IT READS IS OF BULK AT MOST 1048576: true; the input reads as it did. -/
def spaceTakesUptoRow : OpenClaim := { program := "ytpceigiofbeihaa", sum := "5521724aa633e6f6b6322fed0e49f999ca9db31aad6d58b9ff8c5feb70c2247b", func := "strongroom/strongroomlaw06.SpaceTakes", spec := "spaceTakes", plainKeys := false, apart := false, narrowed := true }
def SpaceTakesUptoSaid : Prop := spaceTakesUptoRow.holds Try.pinned (OpenSpec.upto spaceTakesSpec)

/-- 'strongroomlaw06.SpacePlays', WHERE WHAT IT READS IS OF BULK AT MOST 1048576: true; the input reads as it did. -/
def spacePlaysUptoRow : OpenClaim := { program := "ytpceigiofbeihaa", sum := "5521724aa633e6f6b6322fed0e49f999ca9db31aad6d58b9ff8c5feb70c2247b", func := "strongroom/strongroomlaw06.SpacePlays", spec := "spacePlays", plainKeys := false, apart := false, narrowed := true }
def SpacePlaysUptoSaid : Prop := spacePlaysUptoRow.holds Try.pinned (OpenSpec.upto spacePlaysSpec)

/-- 'strongroomlaw05.VaultPlays', WHERE WHAT IT READS IS OF BULK AT MOST 1048576: true; the input reads as it did. -/
def vaultPlaysUptoRow : OpenClaim := { program := "ytpceigiofbeihaa", sum := "5521724aa633e6f6b6322fed0e49f999ca9db31aad6d58b9ff8c5feb70c2247b", func := "strongroom/strongroomlaw05.VaultPlays", spec := "vaultPlays", plainKeys := false, apart := false, narrowed := true }
def VaultPlaysUptoSaid : Prop := vaultPlaysUptoRow.holds Try.pinned (OpenSpec.upto vaultPlaysSpec)

/-- 'strongroomlaw05.VaultOpens', WHERE WHAT IT READS IS OF BULK AT MOST 1048576: true; the input reads as it did. -/
def vaultOpensUptoRow : OpenClaim := { program := "ytpceigiofbeihaa", sum := "5521724aa633e6f6b6322fed0e49f999ca9db31aad6d58b9ff8c5feb70c2247b", func := "strongroom/strongroomlaw05.VaultOpens", spec := "vaultOpens", plainKeys := false, apart := false, narrowed := true }
def VaultOpensUptoSaid : Prop := vaultOpensUptoRow.holds Try.pinned (OpenSpec.upto vaultOpensSpec)

/-- 'strongroomlaw06.SpaceCopies', WHERE WHAT IT READS IS OF BULK AT MOST 1048576: true; the input reads as it did. -/
def spaceCopiesUptoRow : OpenClaim := { program := "ytpceigiofbeihaa", sum := "5521724aa633e6f6b6322fed0e49f999ca9db31aad6d58b9ff8c5feb70c2247b", func := "strongroom/strongroomlaw06.SpaceCopies", spec := "spaceCopies", plainKeys := false, apart := false, narrowed := true }
def SpaceCopiesUptoSaid : Prop := spaceCopiesUptoRow.holds Try.pinned (OpenSpec.upto spaceCopiesSpec)

/-- 'strongroomlaw06.SpaceCounts', WHERE WHAT IT READS IS OF BULK AT MOST 1048576: true; the input reads as it did. -/
def spaceCountsUptoRow : OpenClaim := { program := "ytpceigiofbeihaa", sum := "5521724aa633e6f6b6322fed0e49f999ca9db31aad6d58b9ff8c5feb70c2247b", func := "strongroom/strongroomlaw06.SpaceCounts", spec := "spaceCounts", plainKeys := false, apart := false, narrowed := true }
def SpaceCountsUptoSaid : Prop := spaceCountsUptoRow.holds Try.pinned (OpenSpec.upto spaceCountsSpec)

end Rows
end Go.Proofs.Ytpceigiofbeihaa
