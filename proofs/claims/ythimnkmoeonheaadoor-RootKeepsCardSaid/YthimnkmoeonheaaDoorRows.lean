/-
  NARROWER THAN 'FOR EVERY INPUT', by the rows' own cells (each row's printed sentence says how): PageBinds: laid · PageHandles: laid · PageSwaps: laid · PageLater: laid · RootCounts: laid · PagePlays: laid · RootSlots: laid · RootPlays: laid · RootKeeps: laid.
  DERIVED. THE GIVEN ROWS OF THIS SEAT. 9 by the template 'for every input the law returns true; each argument reads behind the call as it read before'; 0 by the template 'total and deterministic' (their statements: YthimnkmoeonheaaDoorTotals.lean).
  GIVEN WITH THE SEED: the statements are not yours to turn. If you find one false, say at which input.
  Laid BY PROGRAM, IN A SANDBOX (cutbox-rows.mjs): the forced cells as the released guide's own fill.sh prints them over the translation fc3e9d7c6995b7e9… (all of the seat's roots in one cut). By AI agents, Wed Nov 11 2026. No macro, syntax, notation, axiom, sorry.
-/
import Derived.Test.YthimnkmoeonheaaDoorChecked
import GoSem.PinnedTables
import GoSem.Claim
import GoSem.ClaimJoined
import GoSem.ClaimMapViews
import Derived.JoinedTies
import Derived.KernelRfl
namespace Go.Proofs.YthimnkmoeonheaaDoor
/- THE CELL 'sum', in the pinned program and in every row, IS THE sha256 OF THE DUMP (.gsa) THAT YthimnkmoeonheaaDoorProg.lean LOADS. Nothing in Lean hashes anything: it is a label: what it is worth is what the hold of that sum in a sandbox is worth. -/
noncomputable def Tryd.pinned : Pinned := { name := "ythimnkmoeonheaadoor", sum := "fc3e9d7c6995b7e96d91d1a339fd3b035a780ea6f6c9e3ab668d51d13d5d6135", checked := Tryd.checked }
namespace Rows
def none {H : Type} : Left H := { results := [], args := [] }

/- WHAT THE LISTED PACKAGE-LEVEL VARIABLES READ AS WHEN THE CALL BEGINS. Each datum BY PROGRAM (the guide's laid-datum.mjs) off the statement by which the dump's own 'gosem.cut.vars' lays the variable. In a bare row this is a premise. The card (YthimnkmoeonheaaDoorCards.lean) ties it to the program's text. -/
def laid_unicode_utf8_acceptRanges {H : Type} : DataW H := .agg [.agg [.lit (.int .u8 128), .lit (.int .u8 191)], .agg [.lit (.int .u8 160), .lit (.int .u8 191)], .agg [.lit (.int .u8 128), .lit (.int .u8 159)], .agg [.lit (.int .u8 144), .lit (.int .u8 191)], .agg [.lit (.int .u8 128), .lit (.int .u8 143)], .agg [.lit (.int .u8 0), .lit (.int .u8 0)], .agg [.lit (.int .u8 0), .lit (.int .u8 0)], .agg [.lit (.int .u8 0), .lit (.int .u8 0)], .agg [.lit (.int .u8 0), .lit (.int .u8 0)], .agg [.lit (.int .u8 0), .lit (.int .u8 0)], .agg [.lit (.int .u8 0), .lit (.int .u8 0)], .agg [.lit (.int .u8 0), .lit (.int .u8 0)], .agg [.lit (.int .u8 0), .lit (.int .u8 0)], .agg [.lit (.int .u8 0), .lit (.int .u8 0)], .agg [.lit (.int .u8 0), .lit (.int .u8 0)], .agg [.lit (.int .u8 0), .lit (.int .u8 0)]]
/-- One of Go's own tables, pinned by name: the form's constant. -/
def laid_unicode_utf8_first : DataW Unit := Go.Pinned.utf8First

/-- 'strongroomlaw07.PageBinds': WHATEVER THE INPUT: true; the input reads as it did. -/
def pageBindsSpec : ChangeSpec := { name := "pageBinds", fn := fun _ => fun
  | [d1, d2, d3] => { results := [.lit (.bool true)], args := [d1, d2, d3] }
  | _ => none }
def pageBindsRow : OpenClaim := { program := "ythimnkmoeonheaadoor", sum := "fc3e9d7c6995b7e96d91d1a339fd3b035a780ea6f6c9e3ab668d51d13d5d6135", func := "strongroom/strongroomlaw07.PageBinds", spec := "pageBinds", unfollowed := true, recurses := true, named := ["unicode/utf8.first", "unicode/utf8.acceptRanges"], plainKeys := false, apart := false, laid := [("unicode/utf8.acceptRanges", laid_unicode_utf8_acceptRanges), ("unicode/utf8.first", laid_unicode_utf8_first)] }
def PageBindsSaid : Prop := pageBindsRow.holds Tryd.pinned (OpenSpec.ofChange pageBindsSpec)

/-- ITS FALSE NEIGHBOUR: 'it returns false'. Refute it at one input. -/
def pageBindsWrong : ChangeSpec := { name := "pageBinds", fn := fun _ => fun
  | [d1, d2, d3] => { results := [.lit (.bool false)], args := [d1, d2, d3] }
  | _ => none }
def PageBindsWrongFalsely : Prop := pageBindsRow.holds Tryd.pinned (OpenSpec.ofChange pageBindsWrong)

/-- 'strongroomlaw07.PageHandles': WHATEVER THE INPUT: true; the input reads as it did. -/
def pageHandlesSpec : ChangeSpec := { name := "pageHandles", fn := fun _ => fun
  | [d1, d2, d3] => { results := [.lit (.bool true)], args := [d1, d2, d3] }
  | _ => none }
def pageHandlesRow : OpenClaim := { program := "ythimnkmoeonheaadoor", sum := "fc3e9d7c6995b7e96d91d1a339fd3b035a780ea6f6c9e3ab668d51d13d5d6135", func := "strongroom/strongroomlaw07.PageHandles", spec := "pageHandles", unfollowed := true, recurses := true, named := ["unicode/utf8.first", "unicode/utf8.acceptRanges"], plainKeys := false, apart := false, laid := [("unicode/utf8.acceptRanges", laid_unicode_utf8_acceptRanges), ("unicode/utf8.first", laid_unicode_utf8_first)] }
def PageHandlesSaid : Prop := pageHandlesRow.holds Tryd.pinned (OpenSpec.ofChange pageHandlesSpec)

/-- ITS FALSE NEIGHBOUR: 'it returns false'. Refute it at one input. -/
def pageHandlesWrong : ChangeSpec := { name := "pageHandles", fn := fun _ => fun
  | [d1, d2, d3] => { results := [.lit (.bool false)], args := [d1, d2, d3] }
  | _ => none }
def PageHandlesWrongFalsely : Prop := pageHandlesRow.holds Tryd.pinned (OpenSpec.ofChange pageHandlesWrong)

/-- 'strongroomlaw07.PageSwaps': WHATEVER THE INPUT: true; the input reads as it did. -/
def pageSwapsSpec : ChangeSpec := { name := "pageSwaps", fn := fun _ => fun
  | [d] => { results := [.lit (.bool true)], args := [d] }
  | _ => none }
def pageSwapsRow : OpenClaim := { program := "ythimnkmoeonheaadoor", sum := "fc3e9d7c6995b7e96d91d1a339fd3b035a780ea6f6c9e3ab668d51d13d5d6135", func := "strongroom/strongroomlaw07.PageSwaps", spec := "pageSwaps", unfollowed := true, recurses := true, named := ["unicode/utf8.first", "unicode/utf8.acceptRanges"], plainKeys := false, apart := false, laid := [("unicode/utf8.acceptRanges", laid_unicode_utf8_acceptRanges), ("unicode/utf8.first", laid_unicode_utf8_first)] }
def PageSwapsSaid : Prop := pageSwapsRow.holds Tryd.pinned (OpenSpec.ofChange pageSwapsSpec)

/-- ITS FALSE NEIGHBOUR: 'it returns false'. Refute it at one input. -/
def pageSwapsWrong : ChangeSpec := { name := "pageSwaps", fn := fun _ => fun
  | [d] => { results := [.lit (.bool false)], args := [d] }
  | _ => none }
def PageSwapsWrongFalsely : Prop := pageSwapsRow.holds Tryd.pinned (OpenSpec.ofChange pageSwapsWrong)

/-- 'strongroomlaw07.PageLater': WHATEVER THE INPUT: true; the input reads as it did. -/
def pageLaterSpec : ChangeSpec := { name := "pageLater", fn := fun _ => fun
  | [d1, d2] => { results := [.lit (.bool true)], args := [d1, d2] }
  | _ => none }
def pageLaterRow : OpenClaim := { program := "ythimnkmoeonheaadoor", sum := "fc3e9d7c6995b7e96d91d1a339fd3b035a780ea6f6c9e3ab668d51d13d5d6135", func := "strongroom/strongroomlaw07.PageLater", spec := "pageLater", unfollowed := true, recurses := true, named := ["unicode/utf8.first", "unicode/utf8.acceptRanges"], plainKeys := false, apart := false, laid := [("unicode/utf8.acceptRanges", laid_unicode_utf8_acceptRanges), ("unicode/utf8.first", laid_unicode_utf8_first)] }
def PageLaterSaid : Prop := pageLaterRow.holds Tryd.pinned (OpenSpec.ofChange pageLaterSpec)

/-- ITS FALSE NEIGHBOUR: 'it returns false'. Refute it at one input. -/
def pageLaterWrong : ChangeSpec := { name := "pageLater", fn := fun _ => fun
  | [d1, d2] => { results := [.lit (.bool false)], args := [d1, d2] }
  | _ => none }
def PageLaterWrongFalsely : Prop := pageLaterRow.holds Tryd.pinned (OpenSpec.ofChange pageLaterWrong)

/-- 'strongroomlaw08.RootCounts': WHATEVER THE INPUT: true; the input reads as it did. -/
def rootCountsSpec : ChangeSpec := { name := "rootCounts", fn := fun _ => fun
  | [d1, d2] => { results := [.lit (.bool true)], args := [d1, d2] }
  | _ => none }
def rootCountsRow : OpenClaim := { program := "ythimnkmoeonheaadoor", sum := "fc3e9d7c6995b7e96d91d1a339fd3b035a780ea6f6c9e3ab668d51d13d5d6135", func := "strongroom/strongroomlaw08.RootCounts", spec := "rootCounts", named := ["unicode/utf8.first", "unicode/utf8.acceptRanges"], plainKeys := false, apart := false, laid := [("unicode/utf8.acceptRanges", laid_unicode_utf8_acceptRanges), ("unicode/utf8.first", laid_unicode_utf8_first)] }
def RootCountsSaid : Prop := rootCountsRow.holds Tryd.pinned (OpenSpec.ofChange rootCountsSpec)

/-- ITS FALSE NEIGHBOUR: 'it returns false'. Refute it at one input. -/
def rootCountsWrong : ChangeSpec := { name := "rootCounts", fn := fun _ => fun
  | [d1, d2] => { results := [.lit (.bool false)], args := [d1, d2] }
  | _ => none }
def RootCountsWrongFalsely : Prop := rootCountsRow.holds Tryd.pinned (OpenSpec.ofChange rootCountsWrong)

/-- 'strongroomlaw07.PagePlays': WHATEVER THE INPUT: true; the input reads as it did. -/
def pagePlaysSpec : ChangeSpec := { name := "pagePlays", fn := fun _ => fun
  | [d1, d2] => { results := [.lit (.bool true)], args := [d1, d2] }
  | _ => none }
def pagePlaysRow : OpenClaim := { program := "ythimnkmoeonheaadoor", sum := "fc3e9d7c6995b7e96d91d1a339fd3b035a780ea6f6c9e3ab668d51d13d5d6135", func := "strongroom/strongroomlaw07.PagePlays", spec := "pagePlays", unfollowed := true, recurses := true, named := ["unicode/utf8.first", "unicode/utf8.acceptRanges"], plainKeys := false, apart := false, laid := [("unicode/utf8.acceptRanges", laid_unicode_utf8_acceptRanges), ("unicode/utf8.first", laid_unicode_utf8_first)] }
def PagePlaysSaid : Prop := pagePlaysRow.holds Tryd.pinned (OpenSpec.ofChange pagePlaysSpec)

/-- ITS FALSE NEIGHBOUR: 'it returns false'. Refute it at one input. -/
def pagePlaysWrong : ChangeSpec := { name := "pagePlays", fn := fun _ => fun
  | [d1, d2] => { results := [.lit (.bool false)], args := [d1, d2] }
  | _ => none }
def PagePlaysWrongFalsely : Prop := pagePlaysRow.holds Tryd.pinned (OpenSpec.ofChange pagePlaysWrong)

/-- 'strongroomlaw08.RootSlots': WHATEVER THE INPUT: true; the input reads as it did. -/
def rootSlotsSpec : ChangeSpec := { name := "rootSlots", fn := fun _ => fun
  | [d1, d2] => { results := [.lit (.bool true)], args := [d1, d2] }
  | _ => none }
def rootSlotsRow : OpenClaim := { program := "ythimnkmoeonheaadoor", sum := "fc3e9d7c6995b7e96d91d1a339fd3b035a780ea6f6c9e3ab668d51d13d5d6135", func := "strongroom/strongroomlaw08.RootSlots", spec := "rootSlots", named := ["unicode/utf8.first", "unicode/utf8.acceptRanges"], plainKeys := false, apart := false, laid := [("unicode/utf8.acceptRanges", laid_unicode_utf8_acceptRanges), ("unicode/utf8.first", laid_unicode_utf8_first)] }
def RootSlotsSaid : Prop := rootSlotsRow.holds Tryd.pinned (OpenSpec.ofChange rootSlotsSpec)

/-- ITS FALSE NEIGHBOUR: 'it returns false'. Refute it at one input. -/
def rootSlotsWrong : ChangeSpec := { name := "rootSlots", fn := fun _ => fun
  | [d1, d2] => { results := [.lit (.bool false)], args := [d1, d2] }
  | _ => none }
def RootSlotsWrongFalsely : Prop := rootSlotsRow.holds Tryd.pinned (OpenSpec.ofChange rootSlotsWrong)

/-- 'strongroomlaw08.RootPlays': WHATEVER THE INPUT: true; the input reads as it did. -/
def rootPlaysSpec : ChangeSpec := { name := "rootPlays", fn := fun _ => fun
  | [d1, d2] => { results := [.lit (.bool true)], args := [d1, d2] }
  | _ => none }
def rootPlaysRow : OpenClaim := { program := "ythimnkmoeonheaadoor", sum := "fc3e9d7c6995b7e96d91d1a339fd3b035a780ea6f6c9e3ab668d51d13d5d6135", func := "strongroom/strongroomlaw08.RootPlays", spec := "rootPlays", unfollowed := true, recurses := true, named := ["unicode/utf8.first", "unicode/utf8.acceptRanges"], plainKeys := false, apart := false, laid := [("unicode/utf8.acceptRanges", laid_unicode_utf8_acceptRanges), ("unicode/utf8.first", laid_unicode_utf8_first)] }
def RootPlaysSaid : Prop := rootPlaysRow.holds Tryd.pinned (OpenSpec.ofChange rootPlaysSpec)

/-- ITS FALSE NEIGHBOUR: 'it returns false'. Refute it at one input. -/
def rootPlaysWrong : ChangeSpec := { name := "rootPlays", fn := fun _ => fun
  | [d1, d2] => { results := [.lit (.bool false)], args := [d1, d2] }
  | _ => none }
def RootPlaysWrongFalsely : Prop := rootPlaysRow.holds Tryd.pinned (OpenSpec.ofChange rootPlaysWrong)

/-- 'strongroomlaw08.RootKeeps': WHATEVER THE INPUT: true; the input reads as it did. -/
def rootKeepsSpec : ChangeSpec := { name := "rootKeeps", fn := fun _ => fun
  | [d] => { results := [.lit (.bool true)], args := [d] }
  | _ => none }
def rootKeepsRow : OpenClaim := { program := "ythimnkmoeonheaadoor", sum := "fc3e9d7c6995b7e96d91d1a339fd3b035a780ea6f6c9e3ab668d51d13d5d6135", func := "strongroom/strongroomlaw08.RootKeeps", spec := "rootKeeps", unfollowed := true, recurses := true, named := ["unicode/utf8.first", "unicode/utf8.acceptRanges"], plainKeys := false, apart := false, laid := [("unicode/utf8.acceptRanges", laid_unicode_utf8_acceptRanges), ("unicode/utf8.first", laid_unicode_utf8_first)] }
def RootKeepsSaid : Prop := rootKeepsRow.holds Tryd.pinned (OpenSpec.ofChange rootKeepsSpec)

/-- ITS FALSE NEIGHBOUR: 'it returns false'. Refute it at one input. -/
def rootKeepsWrong : ChangeSpec := { name := "rootKeeps", fn := fun _ => fun
  | [d] => { results := [.lit (.bool false)], args := [d] }
  | _ => none }
def RootKeepsWrongFalsely : Prop := rootKeepsRow.holds Tryd.pinned (OpenSpec.ofChange rootKeepsWrong)

/- THE SECOND FORM. 'bulk': how many values and letters a reading holds, each counted each time it is reached (what is shared counts as often as it is met; a slice's spare places count too). A statement '..UptoSaid' is the law's where the arguments, and the package variables that the reading takes, are together of bulk at most 1048576: NARROWER than '..Said'. Prove '..Said' where nothing that the law and all that it calls make is longer than what came in: it says more and counts as full. Else prove '..UptoSaid'. A law counts once. -/
mutual
def uptoBulk {H : Type} : DataW H → Nat
  | .lit (.string bytes) => bytes.length + 1
  | .lit _ => 1
  | .nil => 1
  | .ptr d => uptoBulk d + 1
  | .slice elems spare => uptoBulkAll elems + uptoBulkAll spare + 1
  | .agg parts => uptoBulkAll parts + 1
  | .iface _ d => uptoBulk d + 1
  | .map entries => uptoBulkEntries entries + 1
  | .held _ => 1
def uptoBulkAll {H : Type} : List (DataW H) → Nat
  | [] => 0
  | d :: r => uptoBulk d + uptoBulkAll r
def uptoBulkEntries {H : Type} : List (Lit × DataW H) → Nat
  | [] => 0
  | x :: r => uptoBulkEntry x + uptoBulkEntries r
def uptoBulkEntry {H : Type} : Lit × DataW H → Nat
  | (.string bytes, d) => bytes.length + uptoBulk d + 1
  | (_, d) => uptoBulk d + 1
 end
def uptoSmall : (H : Type) → List (DataW H) → Bool := fun _ ds => decide (uptoBulkAll ds ≤ 1048576)
def OpenSpec.upto (s : _root_.Go.ChangeSpec) : _root_.Go.OpenSpec := { _root_.Go.OpenSpec.ofChange s with cond := some uptoSmall }

/-- 'strongroomlaw07.PageBinds', WHERE WHAT IT READS IS OF BULK AT MOST 1048576: true; the input reads as it did. -/
def pageBindsUptoRow : OpenClaim := { program := "ythimnkmoeonheaadoor", sum := "fc3e9d7c6995b7e96d91d1a339fd3b035a780ea6f6c9e3ab668d51d13d5d6135", func := "strongroom/strongroomlaw07.PageBinds", spec := "pageBinds", unfollowed := true, recurses := true, named := ["unicode/utf8.first", "unicode/utf8.acceptRanges"], plainKeys := false, apart := false, laid := [("unicode/utf8.acceptRanges", laid_unicode_utf8_acceptRanges), ("unicode/utf8.first", laid_unicode_utf8_first)], narrowed := true }
def PageBindsUptoSaid : Prop := pageBindsUptoRow.holds Tryd.pinned (OpenSpec.upto pageBindsSpec)

/-- 'strongroomlaw07.PageHandles', WHERE WHAT IT READS IS OF BULK AT MOST 1048576: true; the input reads as it did. -/
def pageHandlesUptoRow : OpenClaim := { program := "ythimnkmoeonheaadoor", sum := "fc3e9d7c6995b7e96d91d1a339fd3b035a780ea6f6c9e3ab668d51d13d5d6135", func := "strongroom/strongroomlaw07.PageHandles", spec := "pageHandles", unfollowed := true, recurses := true, named := ["unicode/utf8.first", "unicode/utf8.acceptRanges"], plainKeys := false, apart := false, laid := [("unicode/utf8.acceptRanges", laid_unicode_utf8_acceptRanges), ("unicode/utf8.first", laid_unicode_utf8_first)], narrowed := true }
def PageHandlesUptoSaid : Prop := pageHandlesUptoRow.holds Tryd.pinned (OpenSpec.upto pageHandlesSpec)

/-- 'strongroomlaw07.PageSwaps', WHERE WHAT IT READS IS OF BULK AT MOST 1048576: true; the input reads as it did. -/
def pageSwapsUptoRow : OpenClaim := { program := "ythimnkmoeonheaadoor", sum := "fc3e9d7c6995b7e96d91d1a339fd3b035a780ea6f6c9e3ab668d51d13d5d6135", func := "strongroom/strongroomlaw07.PageSwaps", spec := "pageSwaps", unfollowed := true, recurses := true, named := ["unicode/utf8.first", "unicode/utf8.acceptRanges"], plainKeys := false, apart := false, laid := [("unicode/utf8.acceptRanges", laid_unicode_utf8_acceptRanges), ("unicode/utf8.first", laid_unicode_utf8_first)], narrowed := true }
def PageSwapsUptoSaid : Prop := pageSwapsUptoRow.holds Tryd.pinned (OpenSpec.upto pageSwapsSpec)

/-- 'strongroomlaw07.PageLater', WHERE WHAT IT READS IS OF BULK AT MOST 1048576: true; the input reads as it did. -/
def pageLaterUptoRow : OpenClaim := { program := "ythimnkmoeonheaadoor", sum := "fc3e9d7c6995b7e96d91d1a339fd3b035a780ea6f6c9e3ab668d51d13d5d6135", func := "strongroom/strongroomlaw07.PageLater", spec := "pageLater", unfollowed := true, recurses := true, named := ["unicode/utf8.first", "unicode/utf8.acceptRanges"], plainKeys := false, apart := false, laid := [("unicode/utf8.acceptRanges", laid_unicode_utf8_acceptRanges), ("unicode/utf8.first", laid_unicode_utf8_first)], narrowed := true }
def PageLaterUptoSaid : Prop := pageLaterUptoRow.holds Tryd.pinned (OpenSpec.upto pageLaterSpec)

/-- 'strongroomlaw08.RootCounts', WHERE WHAT IT READS IS OF BULK AT MOST 1048576: true; the input reads as it did. -/
def rootCountsUptoRow : OpenClaim := { program := "ythimnkmoeonheaadoor", sum := "fc3e9d7c6995b7e96d91d1a339fd3b035a780ea6f6c9e3ab668d51d13d5d6135", func := "strongroom/strongroomlaw08.RootCounts", spec := "rootCounts", named := ["unicode/utf8.first", "unicode/utf8.acceptRanges"], plainKeys := false, apart := false, laid := [("unicode/utf8.acceptRanges", laid_unicode_utf8_acceptRanges), ("unicode/utf8.first", laid_unicode_utf8_first)], narrowed := true }
def RootCountsUptoSaid : Prop := rootCountsUptoRow.holds Tryd.pinned (OpenSpec.upto rootCountsSpec)

/-- 'strongroomlaw07.PagePlays', WHERE WHAT IT READS IS OF BULK AT MOST 1048576: true; the input reads as it did. -/
def pagePlaysUptoRow : OpenClaim := { program := "ythimnkmoeonheaadoor", sum := "fc3e9d7c6995b7e96d91d1a339fd3b035a780ea6f6c9e3ab668d51d13d5d6135", func := "strongroom/strongroomlaw07.PagePlays", spec := "pagePlays", unfollowed := true, recurses := true, named := ["unicode/utf8.first", "unicode/utf8.acceptRanges"], plainKeys := false, apart := false, laid := [("unicode/utf8.acceptRanges", laid_unicode_utf8_acceptRanges), ("unicode/utf8.first", laid_unicode_utf8_first)], narrowed := true }
def PagePlaysUptoSaid : Prop := pagePlaysUptoRow.holds Tryd.pinned (OpenSpec.upto pagePlaysSpec)

/-- 'strongroomlaw08.RootSlots', WHERE WHAT IT READS IS OF BULK AT MOST 1048576: true; the input reads as it did. -/
def rootSlotsUptoRow : OpenClaim := { program := "ythimnkmoeonheaadoor", sum := "fc3e9d7c6995b7e96d91d1a339fd3b035a780ea6f6c9e3ab668d51d13d5d6135", func := "strongroom/strongroomlaw08.RootSlots", spec := "rootSlots", named := ["unicode/utf8.first", "unicode/utf8.acceptRanges"], plainKeys := false, apart := false, laid := [("unicode/utf8.acceptRanges", laid_unicode_utf8_acceptRanges), ("unicode/utf8.first", laid_unicode_utf8_first)], narrowed := true }
def RootSlotsUptoSaid : Prop := rootSlotsUptoRow.holds Tryd.pinned (OpenSpec.upto rootSlotsSpec)

/-- 'strongroomlaw08.RootPlays', WHERE WHAT IT READS IS OF BULK AT MOST 1048576: true; the input reads as it did. -/
def rootPlaysUptoRow : OpenClaim := { program := "ythimnkmoeonheaadoor", sum := "fc3e9d7c6995b7e96d91d1a339fd3b035a780ea6f6c9e3ab668d51d13d5d6135", func := "strongroom/strongroomlaw08.RootPlays", spec := "rootPlays", unfollowed := true, recurses := true, named := ["unicode/utf8.first", "unicode/utf8.acceptRanges"], plainKeys := false, apart := false, laid := [("unicode/utf8.acceptRanges", laid_unicode_utf8_acceptRanges), ("unicode/utf8.first", laid_unicode_utf8_first)], narrowed := true }
def RootPlaysUptoSaid : Prop := rootPlaysUptoRow.holds Tryd.pinned (OpenSpec.upto rootPlaysSpec)

/-- 'strongroomlaw08.RootKeeps', WHERE WHAT IT READS IS OF BULK AT MOST 1048576: true; the input reads as it did. -/
def rootKeepsUptoRow : OpenClaim := { program := "ythimnkmoeonheaadoor", sum := "fc3e9d7c6995b7e96d91d1a339fd3b035a780ea6f6c9e3ab668d51d13d5d6135", func := "strongroom/strongroomlaw08.RootKeeps", spec := "rootKeeps", unfollowed := true, recurses := true, named := ["unicode/utf8.first", "unicode/utf8.acceptRanges"], plainKeys := false, apart := false, laid := [("unicode/utf8.acceptRanges", laid_unicode_utf8_acceptRanges), ("unicode/utf8.first", laid_unicode_utf8_first)], narrowed := true }
def RootKeepsUptoSaid : Prop := rootKeepsUptoRow.holds Tryd.pinned (OpenSpec.upto rootKeepsSpec)

end Rows
end Go.Proofs.YthimnkmoeonheaaDoor
