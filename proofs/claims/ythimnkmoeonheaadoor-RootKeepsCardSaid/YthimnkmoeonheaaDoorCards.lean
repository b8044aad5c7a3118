/-
  DERIVED. GIVEN WITH THE SEED: THE CARDS: each row of YthimnkmoeonheaaDoorRows.lean that lists a variable, with what it lists TIED to the program's text (the seventh form; the later family's looks); each row that meets fmt, with fmt's text TOLD by the authors' own Lean function (tested against real Go, not proved from fmt's source: count such statements apart). THE CARD IS WHAT COUNTS. Prove the row's statement (the work); the ties are given (YthimnkmoeonheaaDoorTie.lean); close each card by the builder's one call (the guide's Derived/Test/ToyasCard.lean, 'card_holds'). Laid BY PROGRAM, IN A SANDBOX (cutbox-door.mjs). By AI agents, Wed Nov 11 2026. No macro, syntax, notation, axiom, sorry.
-/
import Derived.Test.YthimnkmoeonheaaDoorRows
import GoSem.ClaimSeven
namespace Go.Proofs.YthimnkmoeonheaaDoor
namespace Rows

/-- THE TIED CARD OF 'strongroomlaw07.PageBinds'. -/
def pageBindsCard : Claim7 := { stood := { row := pageBindsRow, standIns := [], harness := (true, "1604ce66acf6c98cc2e42580213284ae5e04b43e225ff7e3f069f3ee6b3008f3"), looks := false }, kinds := [], alts := [], laidByText := true, laidKinds := [.data, .pinned], laidTests := true, laidLooks := .later }
def PageBindsCardSaid : Prop := Claim7.holds Tryd.pinned (.plain (OpenSpec.ofChange pageBindsSpec)) pageBindsCard

/-- THE TIED CARD OF 'strongroomlaw07.PageHandles'. -/
def pageHandlesCard : Claim7 := { stood := { row := pageHandlesRow, standIns := [], harness := (true, "1604ce66acf6c98cc2e42580213284ae5e04b43e225ff7e3f069f3ee6b3008f3"), looks := false }, kinds := [], alts := [], laidByText := true, laidKinds := [.data, .pinned], laidTests := true, laidLooks := .later }
def PageHandlesCardSaid : Prop := Claim7.holds Tryd.pinned (.plain (OpenSpec.ofChange pageHandlesSpec)) pageHandlesCard

/-- THE TIED CARD OF 'strongroomlaw07.PageSwaps'. -/
def pageSwapsCard : Claim7 := { stood := { row := pageSwapsRow, standIns := [], harness := (true, "1604ce66acf6c98cc2e42580213284ae5e04b43e225ff7e3f069f3ee6b3008f3"), looks := false }, kinds := [], alts := [], laidByText := true, laidKinds := [.data, .pinned], laidTests := true, laidLooks := .later }
def PageSwapsCardSaid : Prop := Claim7.holds Tryd.pinned (.plain (OpenSpec.ofChange pageSwapsSpec)) pageSwapsCard

/-- THE TIED CARD OF 'strongroomlaw07.PageLater'. -/
def pageLaterCard : Claim7 := { stood := { row := pageLaterRow, standIns := [], harness := (true, "1604ce66acf6c98cc2e42580213284ae5e04b43e225ff7e3f069f3ee6b3008f3"), looks := false }, kinds := [], alts := [], laidByText := true, laidKinds := [.data, .pinned], laidTests := true, laidLooks := .later }
def PageLaterCardSaid : Prop := Claim7.holds Tryd.pinned (.plain (OpenSpec.ofChange pageLaterSpec)) pageLaterCard

/-- THE TIED CARD OF 'strongroomlaw08.RootCounts'. -/
def rootCountsCard : Claim7 := { stood := { row := rootCountsRow, standIns := [], harness := (true, "1604ce66acf6c98cc2e42580213284ae5e04b43e225ff7e3f069f3ee6b3008f3"), looks := false }, kinds := [], alts := [], laidByText := true, laidKinds := [.data, .pinned], laidTests := true, laidLooks := .later }
def RootCountsCardSaid : Prop := Claim7.holds Tryd.pinned (.plain (OpenSpec.ofChange rootCountsSpec)) rootCountsCard

/-- THE TIED CARD OF 'strongroomlaw07.PagePlays'. -/
def pagePlaysCard : Claim7 := { stood := { row := pagePlaysRow, standIns := [], harness := (true, "1604ce66acf6c98cc2e42580213284ae5e04b43e225ff7e3f069f3ee6b3008f3"), looks := false }, kinds := [], alts := [], laidByText := true, laidKinds := [.data, .pinned], laidTests := true, laidLooks := .later }
def PagePlaysCardSaid : Prop := Claim7.holds Tryd.pinned (.plain (OpenSpec.ofChange pagePlaysSpec)) pagePlaysCard

/-- THE TIED CARD OF 'strongroomlaw08.RootSlots'. -/
def rootSlotsCard : Claim7 := { stood := { row := rootSlotsRow, standIns := [], harness := (true, "1604ce66acf6c98cc2e42580213284ae5e04b43e225ff7e3f069f3ee6b3008f3"), looks := false }, kinds := [], alts := [], laidByText := true, laidKinds := [.data, .pinned], laidTests := true, laidLooks := .later }
def RootSlotsCardSaid : Prop := Claim7.holds Tryd.pinned (.plain (OpenSpec.ofChange rootSlotsSpec)) rootSlotsCard

/-- THE TIED CARD OF 'strongroomlaw08.RootPlays'. -/
def rootPlaysCard : Claim7 := { stood := { row := rootPlaysRow, standIns := [], harness := (true, "1604ce66acf6c98cc2e42580213284ae5e04b43e225ff7e3f069f3ee6b3008f3"), looks := false }, kinds := [], alts := [], laidByText := true, laidKinds := [.data, .pinned], laidTests := true, laidLooks := .later }
def RootPlaysCardSaid : Prop := Claim7.holds Tryd.pinned (.plain (OpenSpec.ofChange rootPlaysSpec)) rootPlaysCard

/-- THE TIED CARD OF 'strongroomlaw08.RootKeeps'. -/
def rootKeepsCard : Claim7 := { stood := { row := rootKeepsRow, standIns := [], harness := (true, "1604ce66acf6c98cc2e42580213284ae5e04b43e225ff7e3f069f3ee6b3008f3"), looks := false }, kinds := [], alts := [], laidByText := true, laidKinds := [.data, .pinned], laidTests := true, laidLooks := .later }
def RootKeepsCardSaid : Prop := Claim7.holds Tryd.pinned (.plain (OpenSpec.ofChange rootKeepsSpec)) rootKeepsCard

/-- THE SECOND FORM's CARD OF 'strongroomlaw07.PageBinds'. -/
def pageBindsUptoCard : Claim7 := { stood := { row := pageBindsUptoRow, standIns := [], harness := (true, "1604ce66acf6c98cc2e42580213284ae5e04b43e225ff7e3f069f3ee6b3008f3"), looks := false }, kinds := [], alts := [], laidByText := true, laidKinds := [.data, .pinned], laidTests := true, laidLooks := .later }
def PageBindsUptoCardSaid : Prop := Claim7.holds Tryd.pinned (.plain (OpenSpec.upto pageBindsSpec)) pageBindsUptoCard

/-- THE SECOND FORM's CARD OF 'strongroomlaw07.PageHandles'. -/
def pageHandlesUptoCard : Claim7 := { stood := { row := pageHandlesUptoRow, standIns := [], harness := (true, "1604ce66acf6c98cc2e42580213284ae5e04b43e225ff7e3f069f3ee6b3008f3"), looks := false }, kinds := [], alts := [], laidByText := true, laidKinds := [.data, .pinned], laidTests := true, laidLooks := .later }
def PageHandlesUptoCardSaid : Prop := Claim7.holds Tryd.pinned (.plain (OpenSpec.upto pageHandlesSpec)) pageHandlesUptoCard

/-- THE SECOND FORM's CARD OF 'strongroomlaw07.PageSwaps'. -/
def pageSwapsUptoCard : Claim7 := { stood := { row := pageSwapsUptoRow, standIns := [], harness := (true, "1604ce66acf6c98cc2e42580213284ae5e04b43e225ff7e3f069f3ee6b3008f3"), looks := false }, kinds := [], alts := [], laidByText := true, laidKinds := [.data, .pinned], laidTests := true, laidLooks := .later }
def PageSwapsUptoCardSaid : Prop := Claim7.holds Tryd.pinned (.plain (OpenSpec.upto pageSwapsSpec)) pageSwapsUptoCard

/-- THE SECOND FORM's CARD OF 'strongroomlaw07.PageLater'. -/
def pageLaterUptoCard : Claim7 := { stood := { row := pageLaterUptoRow, standIns := [], harness := (true, "1604ce66acf6c98cc2e42580213284ae5e04b43e225ff7e3f069f3ee6b3008f3"), looks := false }, kinds := [], alts := [], laidByText := true, laidKinds := [.data, .pinned], laidTests := true, laidLooks := .later }
def PageLaterUptoCardSaid : Prop := Claim7.holds Tryd.pinned (.plain (OpenSpec.upto pageLaterSpec)) pageLaterUptoCard

/-- THE SECOND FORM's CARD OF 'strongroomlaw08.RootCounts'. -/
def rootCountsUptoCard : Claim7 := { stood := { row := rootCountsUptoRow, standIns := [], harness := (true, "1604ce66acf6c98cc2e42580213284ae5e04b43e225ff7e3f069f3ee6b3008f3"), looks := false }, kinds := [], alts := [], laidByText := true, laidKinds := [.data, .pinned], laidTests := true, laidLooks := .later }
def RootCountsUptoCardSaid : Prop := Claim7.holds Tryd.pinned (.plain (OpenSpec.upto rootCountsSpec)) rootCountsUptoCard

/-- THE SECOND FORM's CARD OF 'strongroomlaw07.PagePlays'. -/
def pagePlaysUptoCard : Claim7 := { stood := { row := pagePlaysUptoRow, standIns := [], harness := (true, "1604ce66acf6c98cc2e42580213284ae5e04b43e225ff7e3f069f3ee6b3008f3"), looks := false }, kinds := [], alts := [], laidByText := true, laidKinds := [.data, .pinned], laidTests := true, laidLooks := .later }
def PagePlaysUptoCardSaid : Prop := Claim7.holds Tryd.pinned (.plain (OpenSpec.upto pagePlaysSpec)) pagePlaysUptoCard

/-- THE SECOND FORM's CARD OF 'strongroomlaw08.RootSlots'. -/
def rootSlotsUptoCard : Claim7 := { stood := { row := rootSlotsUptoRow, standIns := [], harness := (true, "1604ce66acf6c98cc2e42580213284ae5e04b43e225ff7e3f069f3ee6b3008f3"), looks := false }, kinds := [], alts := [], laidByText := true, laidKinds := [.data, .pinned], laidTests := true, laidLooks := .later }
def RootSlotsUptoCardSaid : Prop := Claim7.holds Tryd.pinned (.plain (OpenSpec.upto rootSlotsSpec)) rootSlotsUptoCard

/-- THE SECOND FORM's CARD OF 'strongroomlaw08.RootPlays'. -/
def rootPlaysUptoCard : Claim7 := { stood := { row := rootPlaysUptoRow, standIns := [], harness := (true, "1604ce66acf6c98cc2e42580213284ae5e04b43e225ff7e3f069f3ee6b3008f3"), looks := false }, kinds := [], alts := [], laidByText := true, laidKinds := [.data, .pinned], laidTests := true, laidLooks := .later }
def RootPlaysUptoCardSaid : Prop := Claim7.holds Tryd.pinned (.plain (OpenSpec.upto rootPlaysSpec)) rootPlaysUptoCard

/-- THE SECOND FORM's CARD OF 'strongroomlaw08.RootKeeps'. -/
def rootKeepsUptoCard : Claim7 := { stood := { row := rootKeepsUptoRow, standIns := [], harness := (true, "1604ce66acf6c98cc2e42580213284ae5e04b43e225ff7e3f069f3ee6b3008f3"), looks := false }, kinds := [], alts := [], laidByText := true, laidKinds := [.data, .pinned], laidTests := true, laidLooks := .later }
def RootKeepsUptoCardSaid : Prop := Claim7.holds Tryd.pinned (.plain (OpenSpec.upto rootKeepsSpec)) rootKeepsUptoCard
end Rows
end Go.Proofs.YthimnkmoeonheaaDoor
