/-
  DERIVED. GIVEN WITH THE SEED: THE CARDS: each row of YtkfdbgpegekcfaaGreatDoorRows.lean that lists a variable, with what it lists TIED to the program's text (the seventh form; the later family's looks); each row that meets fmt, with fmt's text TOLD by the authors' own Lean function (tested against real Go, not proved from fmt's source: count such statements apart). THE CARD IS WHAT COUNTS. Prove the row's statement (the work); the ties are given (YtkfdbgpegekcfaaGreatDoorTie.lean); close each card by the builder's one call (the guide's Derived/Test/ToyasCard.lean, 'card_holds'). Laid BY PROGRAM, IN A SANDBOX (cutbox-door.mjs). By AI agents, Wed Nov 11 2026. No macro, syntax, notation, axiom, sorry.
-/
import Derived.Test.YtkfdbgpegekcfaaGreatDoorRows
import GoSem.ClaimSeven
namespace Go.Proofs.YtkfdbgpegekcfaaGreatDoor
namespace Rows

/-- THE TIED CARD OF 'gantlinelaw7.MarkAll'. -/
def markAllCard : Claim7 := { stood := { row := markAllRow, standIns := [], harness := (true, "69f869d2508e27e0a4ca8559da83df44efe3a89f1df08c09541b3716b9b057ce"), looks := false }, kinds := [], alts := [], laidByText := true, laidKinds := [.data], laidTests := true, laidLooks := .later }
def MarkAllCardSaid : Prop := Claim7.holds Tryz.pinned (.plain (OpenSpec.ofChange markAllSpec)) markAllCard

/-- THE TIED CARD OF 'gantlinelaw7.MarkMore'. -/
def markMoreCard : Claim7 := { stood := { row := markMoreRow, standIns := [], harness := (true, "69f869d2508e27e0a4ca8559da83df44efe3a89f1df08c09541b3716b9b057ce"), looks := false }, kinds := [], alts := [], laidByText := true, laidKinds := [.data], laidTests := true, laidLooks := .later }
def MarkMoreCardSaid : Prop := Claim7.holds Tryz.pinned (.plain (OpenSpec.ofChange markMoreSpec)) markMoreCard

/-- THE TIED CARD OF 'gantlinelaw8.CycleEnds'. -/
def cycleEndsCard : Claim7 := { stood := { row := cycleEndsRow, standIns := [], harness := (true, "69f869d2508e27e0a4ca8559da83df44efe3a89f1df08c09541b3716b9b057ce"), looks := false }, kinds := [], alts := [], laidByText := true, laidKinds := [.data], laidTests := true, laidLooks := .later }
def CycleEndsCardSaid : Prop := Claim7.holds Tryz.pinned (.plain (OpenSpec.ofChange cycleEndsSpec)) cycleEndsCard

/-- THE TIED CARD OF 'gantlinelaw8.CycleSafe'. -/
def cycleSafeCard : Claim7 := { stood := { row := cycleSafeRow, standIns := [], harness := (true, "69f869d2508e27e0a4ca8559da83df44efe3a89f1df08c09541b3716b9b057ce"), looks := false }, kinds := [], alts := [], laidByText := true, laidKinds := [.data], laidTests := true, laidLooks := .later }
def CycleSafeCardSaid : Prop := Claim7.holds Tryz.pinned (.plain (OpenSpec.ofChange cycleSafeSpec)) cycleSafeCard

/-- THE TIED CARD OF 'gantlinelaw8.CycleWhole'. -/
def cycleWholeCard : Claim7 := { stood := { row := cycleWholeRow, standIns := [], harness := (true, "69f869d2508e27e0a4ca8559da83df44efe3a89f1df08c09541b3716b9b057ce"), looks := false }, kinds := [], alts := [], laidByText := true, laidKinds := [.data], laidTests := true, laidLooks := .later }
def CycleWholeCardSaid : Prop := Claim7.holds Tryz.pinned (.plain (OpenSpec.ofChange cycleWholeSpec)) cycleWholeCard

/-- THE TIED CARD OF 'gantlinelaw8.CycleKeeps'. -/
def cycleKeepsCard : Claim7 := { stood := { row := cycleKeepsRow, standIns := [], harness := (true, "69f869d2508e27e0a4ca8559da83df44efe3a89f1df08c09541b3716b9b057ce"), looks := false }, kinds := [], alts := [], laidByText := true, laidKinds := [.data], laidTests := true, laidLooks := .later }
def CycleKeepsCardSaid : Prop := Claim7.holds Tryz.pinned (.plain (OpenSpec.ofChange cycleKeepsSpec)) cycleKeepsCard

/-- THE TIED CARD OF 'gantlinelaw8.CycleFrees'. -/
def cycleFreesCard : Claim7 := { stood := { row := cycleFreesRow, standIns := [], harness := (true, "69f869d2508e27e0a4ca8559da83df44efe3a89f1df08c09541b3716b9b057ce"), looks := false }, kinds := [], alts := [], laidByText := true, laidKinds := [.data], laidTests := true, laidLooks := .later }
def CycleFreesCardSaid : Prop := Claim7.holds Tryz.pinned (.plain (OpenSpec.ofChange cycleFreesSpec)) cycleFreesCard

/-- THE SECOND FORM's CARD OF 'gantlinelaw7.MarkAll'. -/
def markAllUptoCard : Claim7 := { stood := { row := markAllUptoRow, standIns := [], harness := (true, "69f869d2508e27e0a4ca8559da83df44efe3a89f1df08c09541b3716b9b057ce"), looks := false }, kinds := [], alts := [], laidByText := true, laidKinds := [.data], laidTests := true, laidLooks := .later }
def MarkAllUptoCardSaid : Prop := Claim7.holds Tryz.pinned (.plain (OpenSpec.upto markAllSpec)) markAllUptoCard

/-- THE SECOND FORM's CARD OF 'gantlinelaw7.MarkMore'. -/
def markMoreUptoCard : Claim7 := { stood := { row := markMoreUptoRow, standIns := [], harness := (true, "69f869d2508e27e0a4ca8559da83df44efe3a89f1df08c09541b3716b9b057ce"), looks := false }, kinds := [], alts := [], laidByText := true, laidKinds := [.data], laidTests := true, laidLooks := .later }
def MarkMoreUptoCardSaid : Prop := Claim7.holds Tryz.pinned (.plain (OpenSpec.upto markMoreSpec)) markMoreUptoCard

/-- THE SECOND FORM's CARD OF 'gantlinelaw8.CycleEnds'. -/
def cycleEndsUptoCard : Claim7 := { stood := { row := cycleEndsUptoRow, standIns := [], harness := (true, "69f869d2508e27e0a4ca8559da83df44efe3a89f1df08c09541b3716b9b057ce"), looks := false }, kinds := [], alts := [], laidByText := true, laidKinds := [.data], laidTests := true, laidLooks := .later }
def CycleEndsUptoCardSaid : Prop := Claim7.holds Tryz.pinned (.plain (OpenSpec.upto cycleEndsSpec)) cycleEndsUptoCard

/-- THE SECOND FORM's CARD OF 'gantlinelaw8.CycleSafe'. -/
def cycleSafeUptoCard : Claim7 := { stood := { row := cycleSafeUptoRow, standIns := [], harness := (true, "69f869d2508e27e0a4ca8559da83df44efe3a89f1df08c09541b3716b9b057ce"), looks := false }, kinds := [], alts := [], laidByText := true, laidKinds := [.data], laidTests := true, laidLooks := .later }
def CycleSafeUptoCardSaid : Prop := Claim7.holds Tryz.pinned (.plain (OpenSpec.upto cycleSafeSpec)) cycleSafeUptoCard

/-- THE SECOND FORM's CARD OF 'gantlinelaw8.CycleWhole'. -/
def cycleWholeUptoCard : Claim7 := { stood := { row := cycleWholeUptoRow, standIns := [], harness := (true, "69f869d2508e27e0a4ca8559da83df44efe3a89f1df08c09541b3716b9b057ce"), looks := false }, kinds := [], alts := [], laidByText := true, laidKinds := [.data], laidTests := true, laidLooks := .later }
def CycleWholeUptoCardSaid : Prop := Claim7.holds Tryz.pinned (.plain (OpenSpec.upto cycleWholeSpec)) cycleWholeUptoCard

/-- THE SECOND FORM's CARD OF 'gantlinelaw8.CycleKeeps'. -/
def cycleKeepsUptoCard : Claim7 := { stood := { row := cycleKeepsUptoRow, standIns := [], harness := (true, "69f869d2508e27e0a4ca8559da83df44efe3a89f1df08c09541b3716b9b057ce"), looks := false }, kinds := [], alts := [], laidByText := true, laidKinds := [.data], laidTests := true, laidLooks := .later }
def CycleKeepsUptoCardSaid : Prop := Claim7.holds Tryz.pinned (.plain (OpenSpec.upto cycleKeepsSpec)) cycleKeepsUptoCard

/-- THE SECOND FORM's CARD OF 'gantlinelaw8.CycleFrees'. -/
def cycleFreesUptoCard : Claim7 := { stood := { row := cycleFreesUptoRow, standIns := [], harness := (true, "69f869d2508e27e0a4ca8559da83df44efe3a89f1df08c09541b3716b9b057ce"), looks := false }, kinds := [], alts := [], laidByText := true, laidKinds := [.data], laidTests := true, laidLooks := .later }
def CycleFreesUptoCardSaid : Prop := Claim7.holds Tryz.pinned (.plain (OpenSpec.upto cycleFreesSpec)) cycleFreesUptoCard
end Rows
end Go.Proofs.YtkfdbgpegekcfaaGreatDoor
