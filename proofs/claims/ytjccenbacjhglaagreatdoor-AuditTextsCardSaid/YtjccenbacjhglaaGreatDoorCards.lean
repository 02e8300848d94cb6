/-
  DERIVED. GIVEN WITH THE SEED: THE CARDS: each row of YtjccenbacjhglaaGreatDoorRows.lean that lists a variable, with what it lists TIED to the program's text (the seventh form; the later family's looks); each row that meets fmt, with fmt's text TOLD by the authors' own Lean function (tested against real Go, not proved from fmt's source: count such statements apart). THE CARD IS WHAT COUNTS. Prove the row's statement (the work); the ties are given (YtjccenbacjhglaaGreatDoorTie.lean); close each card by the builder's one call (the guide's Derived/Test/ToyasCard.lean, 'card_holds'). Laid BY PROGRAM, IN A SANDBOX (cutbox-door.mjs). By AI agents, Wed Nov 11 2026. No macro, syntax, notation, axiom, sorry.
-/
import Derived.Test.YtjccenbacjhglaaGreatDoorRows
import GoSem.ClaimSeven
namespace Go.Proofs.YtjccenbacjhglaaGreatDoor
namespace Rows

/-- THE TIED CARD OF 'ontimelaw50.AuditTexts'. -/
def auditTextsCard : Claim7 := { stood := { row := auditTextsRow, standIns := [], harness := (true, "16aba273c4439abbfe95f20907ed3d8e4140e57bcf0913560b262c234165f3e0"), looks := true }, kinds := [], alts := [], laidByText := true, laidKinds := [.data, .data, .data, .data, .sentinel, .sentinel, .pinned], laidTests := true, laidLooks := .later }
def AuditTextsCardSaid : Prop := Claim7.holds Tryz.pinned (.plain (OpenSpec.ofChange auditTextsSpec)) auditTextsCard

/-- THE TIED CARD OF 'ontimelaw50.AuditParses'. -/
def auditParsesCard : Claim7 := { stood := { row := auditParsesRow, standIns := [], harness := (true, "16aba273c4439abbfe95f20907ed3d8e4140e57bcf0913560b262c234165f3e0"), looks := true }, kinds := [], alts := [], laidByText := true, laidKinds := [.data, .data, .data, .data, .sentinel, .sentinel, .pinned], laidTests := true, laidLooks := .later }
def AuditParsesCardSaid : Prop := Claim7.holds Tryz.pinned (.plain (OpenSpec.ofChange auditParsesSpec)) auditParsesCard

/-- THE TIED CARD OF 'ontimelaw49.KernelText'. -/
def kernelTextCard : Claim7 := { stood := { row := kernelTextRow, standIns := [], harness := (true, "16aba273c4439abbfe95f20907ed3d8e4140e57bcf0913560b262c234165f3e0"), looks := true }, kinds := [], alts := [], laidByText := true, laidKinds := [.data, .data, .data], laidTests := true, laidLooks := .later }
def KernelTextCardSaid : Prop := Claim7.holds Tryz.pinned (.plain (OpenSpec.ofChange kernelTextSpec)) kernelTextCard

/-- THE SECOND FORM's CARD OF 'ontimelaw50.AuditTexts'. -/
def auditTextsUptoCard : Claim7 := { stood := { row := auditTextsUptoRow, standIns := [], harness := (true, "16aba273c4439abbfe95f20907ed3d8e4140e57bcf0913560b262c234165f3e0"), looks := true }, kinds := [], alts := [], laidByText := true, laidKinds := [.data, .data, .data, .data, .sentinel, .sentinel, .pinned], laidTests := true, laidLooks := .later }
def AuditTextsUptoCardSaid : Prop := Claim7.holds Tryz.pinned (.plain (OpenSpec.upto auditTextsSpec)) auditTextsUptoCard

/-- THE SECOND FORM's CARD OF 'ontimelaw50.AuditParses'. -/
def auditParsesUptoCard : Claim7 := { stood := { row := auditParsesUptoRow, standIns := [], harness := (true, "16aba273c4439abbfe95f20907ed3d8e4140e57bcf0913560b262c234165f3e0"), looks := true }, kinds := [], alts := [], laidByText := true, laidKinds := [.data, .data, .data, .data, .sentinel, .sentinel, .pinned], laidTests := true, laidLooks := .later }
def AuditParsesUptoCardSaid : Prop := Claim7.holds Tryz.pinned (.plain (OpenSpec.upto auditParsesSpec)) auditParsesUptoCard

/-- THE SECOND FORM's CARD OF 'ontimelaw49.KernelText'. -/
def kernelTextUptoCard : Claim7 := { stood := { row := kernelTextUptoRow, standIns := [], harness := (true, "16aba273c4439abbfe95f20907ed3d8e4140e57bcf0913560b262c234165f3e0"), looks := true }, kinds := [], alts := [], laidByText := true, laidKinds := [.data, .data, .data], laidTests := true, laidLooks := .later }
def KernelTextUptoCardSaid : Prop := Claim7.holds Tryz.pinned (.plain (OpenSpec.upto kernelTextSpec)) kernelTextUptoCard
end Rows
end Go.Proofs.YtjccenbacjhglaaGreatDoor
