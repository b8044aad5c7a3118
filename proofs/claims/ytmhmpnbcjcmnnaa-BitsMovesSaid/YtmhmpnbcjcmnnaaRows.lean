/-
  No cell of these rows narrows 'for every input' (looked for: loops, veiled, ifaces, maps, wideKeys, modest, calm, conditions, laid).
  DERIVED. THE GIVEN ROWS OF THIS SEAT. 11 by the template 'for every input the law returns true; each argument reads behind the call as it read before'; 0 by the template 'total and deterministic' (their statements: YtmhmpnbcjcmnnaaTotals.lean).
  GIVEN WITH THE SEED: the statements are not yours to turn. If you find one false, say at which input.
  Laid BY PROGRAM, IN A SANDBOX (cutbox-rows.mjs): the forced cells as the released guide's own fill.sh prints them over the translation e5e5d5f348101873… (all of the seat's roots in one cut). By AI agents, Wed Nov 11 2026. No macro, syntax, notation, axiom, sorry.
-/
import Derived.Test.YtmhmpnbcjcmnnaaChecked
import GoSem.Claim
import GoSem.ClaimJoined
import GoSem.ClaimMapViews
import Derived.JoinedTies
import Derived.KernelRfl
namespace Go.Proofs.Ytmhmpnbcjcmnnaa
/- THE CELL 'sum', in the pinned program and in every row, IS THE sha256 OF THE DUMP (.gsa) THAT YtmhmpnbcjcmnnaaProg.lean LOADS. Nothing in Lean hashes anything: it is a label: what it is worth is what the hold of that sum in a sandbox is worth. -/
noncomputable def Try.pinned : Pinned := { name := "ytmhmpnbcjcmnnaa", sum := "e5e5d5f348101873e8888dc7a6400acef828fa5219bb9e56dff5fdce2717ab29", checked := Try.checked }
namespace Rows
def none {H : Type} : Left H := { results := [], args := [] }

/-- 'strongroomlaw11.RunsPuts': WHATEVER THE INPUT: true; the input reads as it did. -/
def runsPutsSpec : ChangeSpec := { name := "runsPuts", fn := fun _ => fun
  | [d] => { results := [.lit (.bool true)], args := [d] }
  | _ => none }
def runsPutsRow : OpenClaim := { program := "ytmhmpnbcjcmnnaa", sum := "e5e5d5f348101873e8888dc7a6400acef828fa5219bb9e56dff5fdce2717ab29", func := "strongroom/strongroomlaw11.RunsPuts", spec := "runsPuts", recurses := true, apart := false }
def RunsPutsSaid : Prop := runsPutsRow.holds Try.pinned (OpenSpec.ofChange runsPutsSpec)

/-- ITS FALSE NEIGHBOUR: 'it returns false'. Refute it at one input. -/
def runsPutsWrong : ChangeSpec := { name := "runsPuts", fn := fun _ => fun
  | [d] => { results := [.lit (.bool false)], args := [d] }
  | _ => none }
def RunsPutsWrongFalsely : Prop := runsPutsRow.holds Try.pinned (OpenSpec.ofChange runsPutsWrong)

/-- 'strongroomlaw11.RunsGets': WHATEVER THE INPUT: true; the input reads as it did. -/
def runsGetsSpec : ChangeSpec := { name := "runsGets", fn := fun _ => fun
  | [d1, d2] => { results := [.lit (.bool true)], args := [d1, d2] }
  | _ => none }
def runsGetsRow : OpenClaim := { program := "ytmhmpnbcjcmnnaa", sum := "e5e5d5f348101873e8888dc7a6400acef828fa5219bb9e56dff5fdce2717ab29", func := "strongroom/strongroomlaw11.RunsGets", spec := "runsGets", recurses := true, apart := false }
def RunsGetsSaid : Prop := runsGetsRow.holds Try.pinned (OpenSpec.ofChange runsGetsSpec)

/-- ITS FALSE NEIGHBOUR: 'it returns false'. Refute it at one input. -/
def runsGetsWrong : ChangeSpec := { name := "runsGets", fn := fun _ => fun
  | [d1, d2] => { results := [.lit (.bool false)], args := [d1, d2] }
  | _ => none }
def RunsGetsWrongFalsely : Prop := runsGetsRow.holds Try.pinned (OpenSpec.ofChange runsGetsWrong)

/-- 'strongroomlaw11.RunsShort': WHATEVER THE INPUT: true; the input reads as it did. -/
def runsShortSpec : ChangeSpec := { name := "runsShort", fn := fun _ => fun
  | [d1, d2, d3] => { results := [.lit (.bool true)], args := [d1, d2, d3] }
  | _ => none }
def runsShortRow : OpenClaim := { program := "ytmhmpnbcjcmnnaa", sum := "e5e5d5f348101873e8888dc7a6400acef828fa5219bb9e56dff5fdce2717ab29", func := "strongroom/strongroomlaw11.RunsShort", spec := "runsShort", apart := false }
def RunsShortSaid : Prop := runsShortRow.holds Try.pinned (OpenSpec.ofChange runsShortSpec)

/-- ITS FALSE NEIGHBOUR: 'it returns false'. Refute it at one input. -/
def runsShortWrong : ChangeSpec := { name := "runsShort", fn := fun _ => fun
  | [d1, d2, d3] => { results := [.lit (.bool false)], args := [d1, d2, d3] }
  | _ => none }
def RunsShortWrongFalsely : Prop := runsShortRow.holds Try.pinned (OpenSpec.ofChange runsShortWrong)

/-- 'strongroomlaw15.ZoneOf': WHATEVER THE INPUT: true; the input reads as it did. -/
def zoneOfSpec : ChangeSpec := { name := "zoneOf", fn := fun _ => fun
  | [d1, d2] => { results := [.lit (.bool true)], args := [d1, d2] }
  | _ => none }
def zoneOfRow : OpenClaim := { program := "ytmhmpnbcjcmnnaa", sum := "e5e5d5f348101873e8888dc7a6400acef828fa5219bb9e56dff5fdce2717ab29", func := "strongroom/strongroomlaw15.ZoneOf", spec := "zoneOf", inPlace := ["math.Float64frombits", "internal/bytealg.abigen_runtime_cmpstring"], unfollowed := true, recurses := true, apart := false }
def ZoneOfSaid : Prop := zoneOfRow.holds Try.pinned (OpenSpec.ofChange zoneOfSpec)

/-- ITS FALSE NEIGHBOUR: 'it returns false'. Refute it at one input. -/
def zoneOfWrong : ChangeSpec := { name := "zoneOf", fn := fun _ => fun
  | [d1, d2] => { results := [.lit (.bool false)], args := [d1, d2] }
  | _ => none }
def ZoneOfWrongFalsely : Prop := zoneOfRow.holds Try.pinned (OpenSpec.ofChange zoneOfWrong)

/-- 'strongroomlaw15.ZoneHolds': WHATEVER THE INPUT: true; the input reads as it did. -/
def zoneHoldsSpec : ChangeSpec := { name := "zoneHolds", fn := fun _ => fun
  | [d1, d2, d3] => { results := [.lit (.bool true)], args := [d1, d2, d3] }
  | _ => none }
def zoneHoldsRow : OpenClaim := { program := "ytmhmpnbcjcmnnaa", sum := "e5e5d5f348101873e8888dc7a6400acef828fa5219bb9e56dff5fdce2717ab29", func := "strongroom/strongroomlaw15.ZoneHolds", spec := "zoneHolds", inPlace := ["math.Float64frombits", "internal/bytealg.abigen_runtime_cmpstring"], unfollowed := true, recurses := true, apart := false }
def ZoneHoldsSaid : Prop := zoneHoldsRow.holds Try.pinned (OpenSpec.ofChange zoneHoldsSpec)

/-- ITS FALSE NEIGHBOUR: 'it returns false'. Refute it at one input. -/
def zoneHoldsWrong : ChangeSpec := { name := "zoneHolds", fn := fun _ => fun
  | [d1, d2, d3] => { results := [.lit (.bool false)], args := [d1, d2, d3] }
  | _ => none }
def ZoneHoldsWrongFalsely : Prop := zoneHoldsRow.holds Try.pinned (OpenSpec.ofChange zoneHoldsWrong)

/-- 'strongroomlaw15.ZoneSound': WHATEVER THE INPUT: true; the input reads as it did. -/
def zoneSoundSpec : ChangeSpec := { name := "zoneSound", fn := fun _ => fun
  | [d1, d2, d3] => { results := [.lit (.bool true)], args := [d1, d2, d3] }
  | _ => none }
def zoneSoundRow : OpenClaim := { program := "ytmhmpnbcjcmnnaa", sum := "e5e5d5f348101873e8888dc7a6400acef828fa5219bb9e56dff5fdce2717ab29", func := "strongroom/strongroomlaw15.ZoneSound", spec := "zoneSound", inPlace := ["math.Float64frombits", "internal/bytealg.abigen_runtime_cmpstring"], unfollowed := true, recurses := true, apart := false }
def ZoneSoundSaid : Prop := zoneSoundRow.holds Try.pinned (OpenSpec.ofChange zoneSoundSpec)

/-- ITS FALSE NEIGHBOUR: 'it returns false'. Refute it at one input. -/
def zoneSoundWrong : ChangeSpec := { name := "zoneSound", fn := fun _ => fun
  | [d1, d2, d3] => { results := [.lit (.bool false)], args := [d1, d2, d3] }
  | _ => none }
def ZoneSoundWrongFalsely : Prop := zoneSoundRow.holds Try.pinned (OpenSpec.ofChange zoneSoundWrong)

/-- 'strongroomlaw15.ZoneParts': WHATEVER THE INPUT: true; the input reads as it did. -/
def zonePartsSpec : ChangeSpec := { name := "zoneParts", fn := fun _ => fun
  | [d1, d2, d3] => { results := [.lit (.bool true)], args := [d1, d2, d3] }
  | _ => none }
def zonePartsRow : OpenClaim := { program := "ytmhmpnbcjcmnnaa", sum := "e5e5d5f348101873e8888dc7a6400acef828fa5219bb9e56dff5fdce2717ab29", func := "strongroom/strongroomlaw15.ZoneParts", spec := "zoneParts", inPlace := ["math.Float64frombits", "internal/bytealg.abigen_runtime_cmpstring"], unfollowed := true, recurses := true, apart := false }
def ZonePartsSaid : Prop := zonePartsRow.holds Try.pinned (OpenSpec.ofChange zonePartsSpec)

/-- ITS FALSE NEIGHBOUR: 'it returns false'. Refute it at one input. -/
def zonePartsWrong : ChangeSpec := { name := "zoneParts", fn := fun _ => fun
  | [d1, d2, d3] => { results := [.lit (.bool false)], args := [d1, d2, d3] }
  | _ => none }
def ZonePartsWrongFalsely : Prop := zonePartsRow.holds Try.pinned (OpenSpec.ofChange zonePartsWrong)

/-- 'strongroomlaw15.ZoneOne': WHATEVER THE INPUT: true; the input reads as it did. -/
def zoneOneSpec : ChangeSpec := { name := "zoneOne", fn := fun _ => fun
  | [d1, d2, d3] => { results := [.lit (.bool true)], args := [d1, d2, d3] }
  | _ => none }
def zoneOneRow : OpenClaim := { program := "ytmhmpnbcjcmnnaa", sum := "e5e5d5f348101873e8888dc7a6400acef828fa5219bb9e56dff5fdce2717ab29", func := "strongroom/strongroomlaw15.ZoneOne", spec := "zoneOne", inPlace := ["math.Float64frombits", "internal/bytealg.abigen_runtime_cmpstring"], unfollowed := true, recurses := true, apart := false }
def ZoneOneSaid : Prop := zoneOneRow.holds Try.pinned (OpenSpec.ofChange zoneOneSpec)

/-- ITS FALSE NEIGHBOUR: 'it returns false'. Refute it at one input. -/
def zoneOneWrong : ChangeSpec := { name := "zoneOne", fn := fun _ => fun
  | [d1, d2, d3] => { results := [.lit (.bool false)], args := [d1, d2, d3] }
  | _ => none }
def ZoneOneWrongFalsely : Prop := zoneOneRow.holds Try.pinned (OpenSpec.ofChange zoneOneWrong)

/-- 'strongroomlaw12.BitsPuts': WHATEVER THE INPUT: true; the input reads as it did. -/
def bitsPutsSpec : ChangeSpec := { name := "bitsPuts", fn := fun _ => fun
  | [d] => { results := [.lit (.bool true)], args := [d] }
  | _ => none }
def bitsPutsRow : OpenClaim := { program := "ytmhmpnbcjcmnnaa", sum := "e5e5d5f348101873e8888dc7a6400acef828fa5219bb9e56dff5fdce2717ab29", func := "strongroom/strongroomlaw12.BitsPuts", spec := "bitsPuts", recurses := true, apart := false }
def BitsPutsSaid : Prop := bitsPutsRow.holds Try.pinned (OpenSpec.ofChange bitsPutsSpec)

/-- ITS FALSE NEIGHBOUR: 'it returns false'. Refute it at one input. -/
def bitsPutsWrong : ChangeSpec := { name := "bitsPuts", fn := fun _ => fun
  | [d] => { results := [.lit (.bool false)], args := [d] }
  | _ => none }
def BitsPutsWrongFalsely : Prop := bitsPutsRow.holds Try.pinned (OpenSpec.ofChange bitsPutsWrong)

/-- 'strongroomlaw12.BitsGets': WHATEVER THE INPUT: true; the input reads as it did. -/
def bitsGetsSpec : ChangeSpec := { name := "bitsGets", fn := fun _ => fun
  | [d1, d2] => { results := [.lit (.bool true)], args := [d1, d2] }
  | _ => none }
def bitsGetsRow : OpenClaim := { program := "ytmhmpnbcjcmnnaa", sum := "e5e5d5f348101873e8888dc7a6400acef828fa5219bb9e56dff5fdce2717ab29", func := "strongroom/strongroomlaw12.BitsGets", spec := "bitsGets", recurses := true, apart := false }
def BitsGetsSaid : Prop := bitsGetsRow.holds Try.pinned (OpenSpec.ofChange bitsGetsSpec)

/-- ITS FALSE NEIGHBOUR: 'it returns false'. Refute it at one input. -/
def bitsGetsWrong : ChangeSpec := { name := "bitsGets", fn := fun _ => fun
  | [d1, d2] => { results := [.lit (.bool false)], args := [d1, d2] }
  | _ => none }
def BitsGetsWrongFalsely : Prop := bitsGetsRow.holds Try.pinned (OpenSpec.ofChange bitsGetsWrong)

/-- 'strongroomlaw12.BitsMoves': WHATEVER THE INPUT: true; the input reads as it did. -/
def bitsMovesSpec : ChangeSpec := { name := "bitsMoves", fn := fun _ => fun
  | [d1, d2] => { results := [.lit (.bool true)], args := [d1, d2] }
  | _ => none }
def bitsMovesRow : OpenClaim := { program := "ytmhmpnbcjcmnnaa", sum := "e5e5d5f348101873e8888dc7a6400acef828fa5219bb9e56dff5fdce2717ab29", func := "strongroom/strongroomlaw12.BitsMoves", spec := "bitsMoves", apart := false }
def BitsMovesSaid : Prop := bitsMovesRow.holds Try.pinned (OpenSpec.ofChange bitsMovesSpec)

/-- ITS FALSE NEIGHBOUR: 'it returns false'. Refute it at one input. -/
def bitsMovesWrong : ChangeSpec := { name := "bitsMoves", fn := fun _ => fun
  | [d1, d2] => { results := [.lit (.bool false)], args := [d1, d2] }
  | _ => none }
def BitsMovesWrongFalsely : Prop := bitsMovesRow.holds Try.pinned (OpenSpec.ofChange bitsMovesWrong)

/- THE SECOND FORM. 'bulk': how many values and letters a reading holds, each counted each time it is reached (what is shared counts as often as it is met; a slice's spare places count too). A statement '..UptoSaid' is the law's where the arguments, and the package variables that the reading takes, are together of bulk at most 1048576: NARROWER than '..Said'. Prove '..Said' where nothing that the law and all that it calls make is longer than what came in: it says more and counts as full. Else prove '..UptoSaid'. A law counts once. -/
mutual
def uptoBulk {H : Type} : DataW H → Nat
  | .lit (.string bytes) => bytes.length + 1
  | .lit _ => 1
  | .nil => 1
  | .ptr d => uptoBulk d + 1
  | .slice elems spare => uptoBulkAll elems + uptoBulkAll spare + 1
  | .agg parts => uptoBulkAll parts + 1
  | .iface _ d => uptoBulk d + 1
  | .map entries => uptoBulkEntries entries + 1
  | .held _ => 1
def uptoBulkAll {H : Type} : List (DataW H) → Nat
  | [] => 0
  | d :: r => uptoBulk d + uptoBulkAll r
def uptoBulkEntries {H : Type} : List (Lit × DataW H) → Nat
  | [] => 0
  | x :: r => uptoBulkEntry x + uptoBulkEntries r
def uptoBulkEntry {H : Type} : Lit × DataW H → Nat
  | (.string bytes, d) => bytes.length + uptoBulk d + 1
  | (_, d) => uptoBulk d + 1
 end
def uptoSmall : (H : Type) → List (DataW H) → Bool := fun _ ds => decide (uptoBulkAll ds ≤ 1048576)
def OpenSpec.upto (s : _root_.Go.ChangeSpec) : _root_.Go.OpenSpec := { _root_.Go.OpenSpec.ofChange s with cond := some uptoSmall }

/-- 'strongroomlaw11.RunsPuts', WHERE WHAT IT READS IS OF BULK AT MOST 1048576: true; the input reads as it did. -/
def runsPutsUptoRow : OpenClaim := { program := "ytmhmpnbcjcmnnaa", sum := "e5e5d5f348101873e8888dc7a6400acef828fa5219bb9e56dff5fdce2717ab29", func := "strongroom/strongroomlaw11.RunsPuts", spec := "runsPuts", recurses := true, apart := false, narrowed := true }
def RunsPutsUptoSaid : Prop := runsPutsUptoRow.holds Try.pinned (OpenSpec.upto runsPutsSpec)

/-- 'strongroomlaw11.RunsGets', WHERE WHAT IT READS IS OF BULK AT MOST 1048576: true; the input reads as it did. -/
def runsGetsUptoRow : OpenClaim := { program := "ytmhmpnbcjcmnnaa", sum := "e5e5d5f348101873e8888dc7a6400acef828fa5219bb9e56dff5fdce2717ab29", func := "strongroom/strongroomlaw11.RunsGets", spec := "runsGets", recurses := true, apart := false, narrowed := true }
def RunsGetsUptoSaid : Prop := runsGetsUptoRow.holds Try.pinned (OpenSpec.upto runsGetsSpec)

/-- 'strongroomlaw11.RunsShort', WHERE WHAT IT READS IS OF BULK AT MOST 1048576: true; the input reads as it did. -/
def runsShortUptoRow : OpenClaim := { program := "ytmhmpnbcjcmnnaa", sum := "e5e5d5f348101873e8888dc7a6400acef828fa5219bb9e56dff5fdce2717ab29", func := "strongroom/strongroomlaw11.RunsShort", spec := "runsShort", apart := false, narrowed := true }
def RunsShortUptoSaid : Prop := runsShortUptoRow.holds Try.pinned (OpenSpec.upto runsShortSpec)

/-- 'strongroomlaw15.ZoneOf', WHERE WHAT IT READS IS OF BULK AT MOST 1048576: true; the input reads as it did. -/
def zoneOfUptoRow : OpenClaim := { program := "ytmhmpnbcjcmnnaa", sum := "e5e5d5f348101873e8888dc7a6400acef828fa5219bb9e56dff5fdce2717ab29", func := "strongroom/strongroomlaw15.ZoneOf", spec := "zoneOf", inPlace := ["math.Float64frombits", "internal/bytealg.abigen_runtime_cmpstring"], unfollowed := true, recurses := true, apart := false, narrowed := true }
def ZoneOfUptoSaid : Prop := zoneOfUptoRow.holds Try.pinned (OpenSpec.upto zoneOfSpec)

/-- 'strongroomlaw15.ZoneHolds', WHERE WHAT IT READS IS OF BULK AT MOST 1048576: true; the input reads as it did. -/
def zoneHoldsUptoRow : OpenClaim := { program := "ytmhmpnbcjcmnnaa", sum := "e5e5d5f348101873e8888dc7a6400acef828fa5219bb9e56dff5fdce2717ab29", func := "strongroom/strongroomlaw15.ZoneHolds", spec := "zoneHolds", inPlace := ["math.Float64frombits", "internal/bytealg.abigen_runtime_cmpstring"], unfollowed := true, recurses := true, apart := false, narrowed := true }
def ZoneHoldsUptoSaid : Prop := zoneHoldsUptoRow.holds Try.pinned (OpenSpec.upto zoneHoldsSpec)

/-- 'strongroomlaw15.ZoneSound', WHERE WHAT IT READS IS OF BULK AT MOST 1048576: true; the input reads as it did. -/
def zoneSoundUptoRow : OpenClaim := { program := "ytmhmpnbcjcmnnaa", sum := "e5e5d5f348101873e8888dc7a6400acef828fa5219bb9e56dff5fdce2717ab29", func := "strongroom/strongroomlaw15.ZoneSound", spec := "zoneSound", inPlace := ["math.Float64frombits", "internal/bytealg.abigen_runtime_cmpstring"], unfollowed := true, recurses := true, apart := false, narrowed := true }
def ZoneSoundUptoSaid : Prop := zoneSoundUptoRow.holds Try.pinned (OpenSpec.upto zoneSoundSpec)

/-- 'strongroomlaw15.ZoneParts', WHERE WHAT IT READS IS OF BULK AT MOST 1048576: true; the input reads as it did. -/
def zonePartsUptoRow : OpenClaim := { program := "ytmhmpnbcjcmnnaa", sum := "e5e5d5f348101873e8888dc7a6400acef828fa5219bb9e56dff5fdce2717ab29", func := "strongroom/strongroomlaw15.ZoneParts", spec := "zoneParts", inPlace := ["math.Float64frombits", "internal/bytealg.abigen_runtime_cmpstring"], unfollowed := true, recurses := true, apart := false, narrowed := true }
def ZonePartsUptoSaid : Prop := zonePartsUptoRow.holds Try.pinned (OpenSpec.upto zonePartsSpec)

/-- 'strongroomlaw15.ZoneOne', WHERE WHAT IT READS IS OF BULK AT MOST 1048576: true; the input reads as it did. -/
def zoneOneUptoRow : OpenClaim := { program := "ytmhmpnbcjcmnnaa", sum := "e5e5d5f348101873e8888dc7a6400acef828fa5219bb9e56dff5fdce2717ab29", func := "strongroom/strongroomlaw15.ZoneOne", spec := "zoneOne", inPlace := ["math.Float64frombits", "internal/bytealg.abigen_runtime_cmpstring"], unfollowed := true, recurses := true, apart := false, narrowed := true }
def ZoneOneUptoSaid : Prop := zoneOneUptoRow.holds Try.pinned (OpenSpec.upto zoneOneSpec)

/-- 'strongroomlaw12.BitsPuts', WHERE WHAT IT READS IS OF BULK AT MOST 1048576: true; the input reads as it did. -/
def bitsPutsUptoRow : OpenClaim := { program := "ytmhmpnbcjcmnnaa", sum := "e5e5d5f348101873e8888dc7a6400acef828fa5219bb9e56dff5fdce2717ab29", func := "strongroom/strongroomlaw12.BitsPuts", spec := "bitsPuts", recurses := true, apart := false, narrowed := true }
def BitsPutsUptoSaid : Prop := bitsPutsUptoRow.holds Try.pinned (OpenSpec.upto bitsPutsSpec)

/-- 'strongroomlaw12.BitsGets', WHERE WHAT IT READS IS OF BULK AT MOST 1048576: true; the input reads as it did. -/
def bitsGetsUptoRow : OpenClaim := { program := "ytmhmpnbcjcmnnaa", sum := "e5e5d5f348101873e8888dc7a6400acef828fa5219bb9e56dff5fdce2717ab29", func := "strongroom/strongroomlaw12.BitsGets", spec := "bitsGets", recurses := true, apart := false, narrowed := true }
def BitsGetsUptoSaid : Prop := bitsGetsUptoRow.holds Try.pinned (OpenSpec.upto bitsGetsSpec)

/-- 'strongroomlaw12.BitsMoves', WHERE WHAT IT READS IS OF BULK AT MOST 1048576: true; the input reads as it did. -/
def bitsMovesUptoRow : OpenClaim := { program := "ytmhmpnbcjcmnnaa", sum := "e5e5d5f348101873e8888dc7a6400acef828fa5219bb9e56dff5fdce2717ab29", func := "strongroom/strongroomlaw12.BitsMoves", spec := "bitsMoves", apart := false, narrowed := true }
def BitsMovesUptoSaid : Prop := bitsMovesUptoRow.holds Try.pinned (OpenSpec.upto bitsMovesSpec)

end Rows
end Go.Proofs.Ytmhmpnbcjcmnnaa
