/-
  No cell of these rows narrows 'for every input' (looked for: loops, veiled, ifaces, maps, wideKeys, modest, calm, conditions, laid).
  DERIVED. THE GIVEN ROWS OF THIS SEAT. 6 by the template 'for every input the law returns true; each argument reads behind the call as it read before'; 0 by the template 'total and deterministic' (their statements: YtghhfifjjhejeaaTotals.lean).
  GIVEN WITH THE SEED: the statements are not yours to turn. If you find one false, say at which input.
  Laid BY PROGRAM, IN A SANDBOX (cutbox-rows.mjs): the forced cells as the released guide's own fill.sh prints them over the translation 52b31bfe16fcbade… (all of the seat's roots in one cut). By AI agents, Wed Nov 11 2026. No macro, syntax, notation, axiom, sorry.
-/
import Derived.Test.YtghhfifjjhejeaaChecked
import GoSem.Claim
import GoSem.ClaimJoined
import GoSem.ClaimMapViews
import Derived.JoinedTies
import Derived.KernelRfl
namespace Go.Proofs.Ytghhfifjjhejeaa
/- THE CELL 'sum', in the pinned program and in every row, IS THE sha256 OF THE DUMP (.gsa) THAT YtghhfifjjhejeaaProg.lean LOADS. Nothing in Lean hashes anything: it is a label: what it is worth is what the hold of that sum in a sandbox is worth. -/
noncomputable def Try.pinned : Pinned := { name := "ytghhfifjjhejeaa", sum := "52b31bfe16fcbade7f0d405288e60b37c33f531f940424289f5be892195e9cd4", checked := Try.checked }
namespace Rows
def none {H : Type} : Left H := { results := [], args := [] }

/-- 'strongroomlaw10.BitmapPuts': WHATEVER THE INPUT: true; the input reads as it did. -/
def bitmapPutsSpec : ChangeSpec := { name := "bitmapPuts", fn := fun _ => fun
  | [d] => { results := [.lit (.bool true)], args := [d] }
  | _ => none }
def bitmapPutsRow : OpenClaim := { program := "ytghhfifjjhejeaa", sum := "52b31bfe16fcbade7f0d405288e60b37c33f531f940424289f5be892195e9cd4", func := "strongroom/strongroomlaw10.BitmapPuts", spec := "bitmapPuts", plainKeys := false, apart := false }
def BitmapPutsSaid : Prop := bitmapPutsRow.holds Try.pinned (OpenSpec.ofChange bitmapPutsSpec)

/-- ITS FALSE NEIGHBOUR: 'it returns false'. Refute it at one input. -/
def bitmapPutsWrong : ChangeSpec := { name := "bitmapPuts", fn := fun _ => fun
  | [d] => { results := [.lit (.bool false)], args := [d] }
  | _ => none }
def BitmapPutsWrongFalsely : Prop := bitmapPutsRow.holds Try.pinned (OpenSpec.ofChange bitmapPutsWrong)

/-- 'strongroomlaw10.BitmapGets': WHATEVER THE INPUT: true; the input reads as it did. -/
def bitmapGetsSpec : ChangeSpec := { name := "bitmapGets", fn := fun _ => fun
  | [d1, d2] => { results := [.lit (.bool true)], args := [d1, d2] }
  | _ => none }
def bitmapGetsRow : OpenClaim := { program := "ytghhfifjjhejeaa", sum := "52b31bfe16fcbade7f0d405288e60b37c33f531f940424289f5be892195e9cd4", func := "strongroom/strongroomlaw10.BitmapGets", spec := "bitmapGets", plainKeys := false, apart := false }
def BitmapGetsSaid : Prop := bitmapGetsRow.holds Try.pinned (OpenSpec.ofChange bitmapGetsSpec)

/-- ITS FALSE NEIGHBOUR: 'it returns false'. Refute it at one input. -/
def bitmapGetsWrong : ChangeSpec := { name := "bitmapGets", fn := fun _ => fun
  | [d1, d2] => { results := [.lit (.bool false)], args := [d1, d2] }
  | _ => none }
def BitmapGetsWrongFalsely : Prop := bitmapGetsRow.holds Try.pinned (OpenSpec.ofChange bitmapGetsWrong)

/-- 'strongroomlaw10.BitmapJoins': WHATEVER THE INPUT: true; the input reads as it did. -/
def bitmapJoinsSpec : ChangeSpec := { name := "bitmapJoins", fn := fun _ => fun
  | [d1, d2] => { results := [.lit (.bool true)], args := [d1, d2] }
  | _ => none }
def bitmapJoinsRow : OpenClaim := { program := "ytghhfifjjhejeaa", sum := "52b31bfe16fcbade7f0d405288e60b37c33f531f940424289f5be892195e9cd4", func := "strongroom/strongroomlaw10.BitmapJoins", spec := "bitmapJoins", plainKeys := false, apart := false }
def BitmapJoinsSaid : Prop := bitmapJoinsRow.holds Try.pinned (OpenSpec.ofChange bitmapJoinsSpec)

/-- ITS FALSE NEIGHBOUR: 'it returns false'. Refute it at one input. -/
def bitmapJoinsWrong : ChangeSpec := { name := "bitmapJoins", fn := fun _ => fun
  | [d1, d2] => { results := [.lit (.bool false)], args := [d1, d2] }
  | _ => none }
def BitmapJoinsWrongFalsely : Prop := bitmapJoinsRow.holds Try.pinned (OpenSpec.ofChange bitmapJoinsWrong)

/-- 'strongroomlaw05.VaultFresh': WHATEVER THE INPUT: true; the input reads as it did. -/
def vaultFreshSpec : ChangeSpec := { name := "vaultFresh", fn := fun _ => fun
  | [d1, d2] => { results := [.lit (.bool true)], args := [d1, d2] }
  | _ => none }
def vaultFreshRow : OpenClaim := { program := "ytghhfifjjhejeaa", sum := "52b31bfe16fcbade7f0d405288e60b37c33f531f940424289f5be892195e9cd4", func := "strongroom/strongroomlaw05.VaultFresh", spec := "vaultFresh", plainKeys := false, apart := false }
def VaultFreshSaid : Prop := vaultFreshRow.holds Try.pinned (OpenSpec.ofChange vaultFreshSpec)

/-- ITS FALSE NEIGHBOUR: 'it returns false'. Refute it at one input. -/
def vaultFreshWrong : ChangeSpec := { name := "vaultFresh", fn := fun _ => fun
  | [d1, d2] => { results := [.lit (.bool false)], args := [d1, d2] }
  | _ => none }
def VaultFreshWrongFalsely : Prop := vaultFreshRow.holds Try.pinned (OpenSpec.ofChange vaultFreshWrong)

/-- 'strongroomlaw01.PackWrites': WHATEVER THE INPUT: true; the input reads as it did. -/
def packWritesSpec : ChangeSpec := { name := "packWrites", fn := fun _ => fun
  | [d1, d2, d3] => { results := [.lit (.bool true)], args := [d1, d2, d3] }
  | _ => none }
def packWritesRow : OpenClaim := { program := "ytghhfifjjhejeaa", sum := "52b31bfe16fcbade7f0d405288e60b37c33f531f940424289f5be892195e9cd4", func := "strongroom/strongroomlaw01.PackWrites", spec := "packWrites", recurses := true, plainKeys := false, apart := false }
def PackWritesSaid : Prop := packWritesRow.holds Try.pinned (OpenSpec.ofChange packWritesSpec)

/-- ITS FALSE NEIGHBOUR: 'it returns false'. Refute it at one input. -/
def packWritesWrong : ChangeSpec := { name := "packWrites", fn := fun _ => fun
  | [d1, d2, d3] => { results := [.lit (.bool false)], args := [d1, d2, d3] }
  | _ => none }
def PackWritesWrongFalsely : Prop := packWritesRow.holds Try.pinned (OpenSpec.ofChange packWritesWrong)

/-- 'strongroomlaw01.PackLong': WHATEVER THE INPUT: true; the input reads as it did. -/
def packLongSpec : ChangeSpec := { name := "packLong", fn := fun _ => fun
  | [d1, d2, d3] => { results := [.lit (.bool true)], args := [d1, d2, d3] }
  | _ => none }
def packLongRow : OpenClaim := { program := "ytghhfifjjhejeaa", sum := "52b31bfe16fcbade7f0d405288e60b37c33f531f940424289f5be892195e9cd4", func := "strongroom/strongroomlaw01.PackLong", spec := "packLong", plainKeys := false, apart := false }
def PackLongSaid : Prop := packLongRow.holds Try.pinned (OpenSpec.ofChange packLongSpec)

/-- ITS FALSE NEIGHBOUR: 'it returns false'. Refute it at one input. -/
def packLongWrong : ChangeSpec := { name := "packLong", fn := fun _ => fun
  | [d1, d2, d3] => { results := [.lit (.bool false)], args := [d1, d2, d3] }
  | _ => none }
def PackLongWrongFalsely : Prop := packLongRow.holds Try.pinned (OpenSpec.ofChange packLongWrong)

/- THE SECOND FORM. 'bulk': how many values and letters a reading holds, each counted each time it is reached (what is shared counts as often as it is met; a slice's spare places count too). A statement '..UptoSaid' is the law's where the arguments, and the package variables that the reading takes, are together of bulk at most 1048576: NARROWER than '..Said'. Prove '..Said' where nothing that the law and all that it calls make is longer than what came in: it says more and counts as full. Else prove '..UptoSaid'. A law counts once. -/
mutual
def uptoBulk {H : Type} : DataW H → Nat
  | .lit (.string bytes) => bytes.length + 1
  | .lit _ => 1
  | .nil => 1
  | .ptr d => uptoBulk d + 1
  | .slice elems spare => uptoBulkAll elems + uptoBulkAll spare + 1
  | .agg parts => uptoBulkAll parts + 1
  | .iface _ d => uptoBulk d + 1
  | .map entries => uptoBulkEntries entries + 1
  | .held _ => 1
def uptoBulkAll {H : Type} : List (DataW H) → Nat
  | [] => 0
  | d :: r => uptoBulk d + uptoBulkAll r
def uptoBulkEntries {H : Type} : List (Lit × DataW H) → Nat
  | [] => 0
  | x :: r => uptoBulkEntry x + uptoBulkEntries r
def uptoBulkEntry {H : Type} : Lit × DataW H → Nat
  | (.string bytes, d) => bytes.length + uptoBulk d + 1
  | (_, d) => uptoBulk d + 1
 end
def uptoSmall : (H : Type) → List (DataW H) → Bool := fun _ ds => decide (uptoBulkAll ds ≤ 1048576)
def OpenSpec.upto (s : _root_.Go.ChangeSpec) : _root_.Go.OpenSpec := { _root_.Go.OpenSpec.ofChange s with cond := some uptoSmall }

/-- 'strongroomlaw10.BitmapPuts', WHERE WHAT IT READS IS OF BULK AT MOST 1048576: true; the input reads as it did. -/
def bitmapPutsUptoRow : OpenClaim := { program := "ytghhfifjjhejeaa", sum := "52b31bfe16fcbade7f0d405288e60b37c33f531f940424289f5be892195e9cd4", func := "strongroom/strongroomlaw10.BitmapPuts", spec := "bitmapPuts", plainKeys := false, apart := false, narrowed := true }
def BitmapPutsUptoSaid : Prop := bitmapPutsUptoRow.holds Try.pinned (OpenSpec.upto bitmapPutsSpec)

/-- 'strongroomlaw10.BitmapGets', WHERE WHAT IT READS IS OF BULK AT MOST 1048576: true; the input reads as it did. -/
def bitmapGetsUptoRow : OpenClaim := { program := "ytghhfifjjhejeaa", sum := "52b31bfe16fcbade7f0d405288e60b37c33f531f940424289f5be892195e9cd4", func := "strongroom/strongroomlaw10.BitmapGets", spec := "bitmapGets", plainKeys := false, apart := false, narrowed := true }
def BitmapGetsUptoSaid : Prop := bitmapGetsUptoRow.holds Try.pinned (OpenSpec.upto bitmapGetsSpec)

/-- 'strongroomlaw10.BitmapJoins', WHERE WHAT IT READS IS OF BULK AT MOST 1048576: true; the input reads as it did. -/
def bitmapJoinsUptoRow : OpenClaim := { program := "ytghhfifjjhejeaa", sum := "52b31bfe16fcbade7f0d405288e60b37c33f531f940424289f5be892195e9cd4", func := "strongroom/strongroomlaw10.BitmapJoins", spec := "bitmapJoins", plainKeys := false, apart := false, narrowed := true }
def BitmapJoinsUptoSaid : Prop := bitmapJoinsUptoRow.holds Try.pinned (OpenSpec.upto bitmapJoinsSpec)

/-- 'strongroomlaw05.VaultFresh', WHERE WHAT IT READS IS OF BULK AT MOST 1048576: true; the input reads as it did. -/
def vaultFreshUptoRow : OpenClaim := { program := "ytghhfifjjhejeaa", sum := "52b31bfe16fcbade7f0d405288e60b37c33f531f940424289f5be892195e9cd4", func := "strongroom/strongroomlaw05.VaultFresh", spec := "vaultFresh", plainKeys := false, apart := false, narrowed := true }
def VaultFreshUptoSaid : Prop := vaultFreshUptoRow.holds Try.pinned (OpenSpec.upto vaultFreshSpec)

/-- 'strongroomlaw01.PackWrites', WHERE WHAT IT READS IS OF BULK AT MOST 1048576: true; the input reads as it did. -/
def packWritesUptoRow : OpenClaim := { program := "ytghhfifjjhejeaa", sum := "52b31bfe16fcbade7f0d405288e60b37c33f531f940424289f5be892195e9cd4", func := "strongroom/strongroomlaw01.PackWrites", spec := "packWrites", recurses := true, plainKeys := false, apart := false, narrowed := true }
def PackWritesUptoSaid : Prop := packWritesUptoRow.holds Try.pinned (OpenSpec.upto packWritesSpec)

/-- 'strongroomlaw01.PackLong', WHERE WHAT IT READS IS OF BULK AT MOST 1048576: true; the input reads as it did. -/
def packLongUptoRow : OpenClaim := { program := "ytghhfifjjhejeaa", sum := "52b31bfe16fcbade7f0d405288e60b37c33f531f940424289f5be892195e9cd4", func := "strongroom/strongroomlaw01.PackLong", spec := "packLong", plainKeys := false, apart := false, narrowed := true }
def PackLongUptoSaid : Prop := packLongUptoRow.holds Try.pinned (OpenSpec.upto packLongSpec)

end Rows
end Go.Proofs.Ytghhfifjjhejeaa
