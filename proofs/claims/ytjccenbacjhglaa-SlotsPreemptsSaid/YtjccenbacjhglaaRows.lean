/-
  No cell of these rows narrows 'for every input' (looked for: loops, veiled, ifaces, maps, wideKeys, modest, calm, conditions, laid).
  DERIVED. THE GIVEN ROWS OF THIS SEAT. 6 by the template 'for every input the law returns true; each argument reads behind the call as it read before'; 0 by the template 'total and deterministic' (their statements: YtjccenbacjhglaaTotals.lean).
  GIVEN WITH THE SEED: the statements are not yours to turn. If you find one false, say at which input.
  Laid BY PROGRAM, IN A SANDBOX (cutbox-rows.mjs): the forced cells as the released guide's own fill.sh prints them over the translation e617e7b7c315ec3b… (all of the seat's roots in one cut). By AI agents, Wed Nov 11 2026. No macro, syntax, notation, axiom, sorry.
-/
import Derived.Test.YtjccenbacjhglaaChecked
import GoSem.Claim
import GoSem.ClaimJoined
import GoSem.ClaimMapViews
import Derived.JoinedTies
import Derived.KernelRfl
namespace Go.Proofs.Ytjccenbacjhglaa
/- THE CELL 'sum', in the pinned program and in every row, IS THE sha256 OF THE DUMP (.gsa) THAT YtjccenbacjhglaaProg.lean LOADS. Nothing in Lean hashes anything: it is a label: what it is worth is what the hold of that sum in a sandbox is worth. -/
noncomputable def Try.pinned : Pinned := { name := "ytjccenbacjhglaa", sum := "e617e7b7c315ec3b5fc456c51acd93bd123dd94eda418495abda05cc3456467f", checked := Try.checked }
namespace Rows
def none {H : Type} : Left H := { results := [], args := [] }

/-- 'ontimelaw50.AuditChecks': WHATEVER THE INPUT: true; the input reads as it did. -/
def auditChecksSpec : ChangeSpec := { name := "auditChecks", fn := fun _ => fun
  | [d1, d2, d3] => { results := [.lit (.bool true)], args := [d1, d2, d3] }
  | _ => none }
def auditChecksRow : OpenClaim := { program := "ytjccenbacjhglaa", sum := "e617e7b7c315ec3b5fc456c51acd93bd123dd94eda418495abda05cc3456467f", func := "ontime/ontimelaw50.AuditChecks", spec := "auditChecks", unfollowed := true, recurses := true, apart := false }
def AuditChecksSaid : Prop := auditChecksRow.holds Try.pinned (OpenSpec.ofChange auditChecksSpec)

/-- ITS FALSE NEIGHBOUR: 'it returns false'. Refute it at one input. -/
def auditChecksWrong : ChangeSpec := { name := "auditChecks", fn := fun _ => fun
  | [d1, d2, d3] => { results := [.lit (.bool false)], args := [d1, d2, d3] }
  | _ => none }
def AuditChecksWrongFalsely : Prop := auditChecksRow.holds Try.pinned (OpenSpec.ofChange auditChecksWrong)

/-- 'ontimelaw50.AuditLate': WHATEVER THE INPUT: true; the input reads as it did. -/
def auditLateSpec : ChangeSpec := { name := "auditLate", fn := fun _ => fun
  | [d1, d2] => { results := [.lit (.bool true)], args := [d1, d2] }
  | _ => none }
def auditLateRow : OpenClaim := { program := "ytjccenbacjhglaa", sum := "e617e7b7c315ec3b5fc456c51acd93bd123dd94eda418495abda05cc3456467f", func := "ontime/ontimelaw50.AuditLate", spec := "auditLate", unfollowed := true, recurses := true, apart := false }
def AuditLateSaid : Prop := auditLateRow.holds Try.pinned (OpenSpec.ofChange auditLateSpec)

/-- ITS FALSE NEIGHBOUR: 'it returns false'. Refute it at one input. -/
def auditLateWrong : ChangeSpec := { name := "auditLate", fn := fun _ => fun
  | [d1, d2] => { results := [.lit (.bool false)], args := [d1, d2] }
  | _ => none }
def AuditLateWrongFalsely : Prop := auditLateRow.holds Try.pinned (OpenSpec.ofChange auditLateWrong)

/-- 'ontimelaw46.SlotsCausal': WHATEVER THE INPUT: true; the input reads as it did. -/
def slotsCausalSpec : ChangeSpec := { name := "slotsCausal", fn := fun _ => fun
  | [d1, d2] => { results := [.lit (.bool true)], args := [d1, d2] }
  | _ => none }
def slotsCausalRow : OpenClaim := { program := "ytjccenbacjhglaa", sum := "e617e7b7c315ec3b5fc456c51acd93bd123dd94eda418495abda05cc3456467f", func := "ontime/ontimelaw46.SlotsCausal", spec := "slotsCausal", unfollowed := true, recurses := true, apart := false }
def SlotsCausalSaid : Prop := slotsCausalRow.holds Try.pinned (OpenSpec.ofChange slotsCausalSpec)

/-- ITS FALSE NEIGHBOUR: 'it returns false'. Refute it at one input. -/
def slotsCausalWrong : ChangeSpec := { name := "slotsCausal", fn := fun _ => fun
  | [d1, d2] => { results := [.lit (.bool false)], args := [d1, d2] }
  | _ => none }
def SlotsCausalWrongFalsely : Prop := slotsCausalRow.holds Try.pinned (OpenSpec.ofChange slotsCausalWrong)

/-- 'ontimelaw46.SlotsPreempts': WHATEVER THE INPUT: true; the input reads as it did. -/
def slotsPreemptsSpec : ChangeSpec := { name := "slotsPreempts", fn := fun _ => fun
  | [d1, d2, d3] => { results := [.lit (.bool true)], args := [d1, d2, d3] }
  | _ => none }
def slotsPreemptsRow : OpenClaim := { program := "ytjccenbacjhglaa", sum := "e617e7b7c315ec3b5fc456c51acd93bd123dd94eda418495abda05cc3456467f", func := "ontime/ontimelaw46.SlotsPreempts", spec := "slotsPreempts", unfollowed := true, recurses := true, apart := false }
def SlotsPreemptsSaid : Prop := slotsPreemptsRow.holds Try.pinned (OpenSpec.ofChange slotsPreemptsSpec)

/-- ITS FALSE NEIGHBOUR: 'it returns false'. Refute it at one input. -/
def slotsPreemptsWrong : ChangeSpec := { name := "slotsPreempts", fn := fun _ => fun
  | [d1, d2, d3] => { results := [.lit (.bool false)], args := [d1, d2, d3] }
  | _ => none }
def SlotsPreemptsWrongFalsely : Prop := slotsPreemptsRow.holds Try.pinned (OpenSpec.ofChange slotsPreemptsWrong)

/-- 'ontimelaw46.SlotsChecked': WHATEVER THE INPUT: true; the input reads as it did. -/
def slotsCheckedSpec : ChangeSpec := { name := "slotsChecked", fn := fun _ => fun
  | [d] => { results := [.lit (.bool true)], args := [d] }
  | _ => none }
def slotsCheckedRow : OpenClaim := { program := "ytjccenbacjhglaa", sum := "e617e7b7c315ec3b5fc456c51acd93bd123dd94eda418495abda05cc3456467f", func := "ontime/ontimelaw46.SlotsChecked", spec := "slotsChecked", unfollowed := true, recurses := true, apart := false }
def SlotsCheckedSaid : Prop := slotsCheckedRow.holds Try.pinned (OpenSpec.ofChange slotsCheckedSpec)

/-- ITS FALSE NEIGHBOUR: 'it returns false'. Refute it at one input. -/
def slotsCheckedWrong : ChangeSpec := { name := "slotsChecked", fn := fun _ => fun
  | [d] => { results := [.lit (.bool false)], args := [d] }
  | _ => none }
def SlotsCheckedWrongFalsely : Prop := slotsCheckedRow.holds Try.pinned (OpenSpec.ofChange slotsCheckedWrong)

/-- 'ontimelaw46.SlotsWindows': WHATEVER THE INPUT: true; the input reads as it did. -/
def slotsWindowsSpec : ChangeSpec := { name := "slotsWindows", fn := fun _ => fun
  | [d] => { results := [.lit (.bool true)], args := [d] }
  | _ => none }
def slotsWindowsRow : OpenClaim := { program := "ytjccenbacjhglaa", sum := "e617e7b7c315ec3b5fc456c51acd93bd123dd94eda418495abda05cc3456467f", func := "ontime/ontimelaw46.SlotsWindows", spec := "slotsWindows", unfollowed := true, recurses := true, apart := false }
def SlotsWindowsSaid : Prop := slotsWindowsRow.holds Try.pinned (OpenSpec.ofChange slotsWindowsSpec)

/-- ITS FALSE NEIGHBOUR: 'it returns false'. Refute it at one input. -/
def slotsWindowsWrong : ChangeSpec := { name := "slotsWindows", fn := fun _ => fun
  | [d] => { results := [.lit (.bool false)], args := [d] }
  | _ => none }
def SlotsWindowsWrongFalsely : Prop := slotsWindowsRow.holds Try.pinned (OpenSpec.ofChange slotsWindowsWrong)

/- THE SECOND FORM. 'bulk': how many values and letters a reading holds, each counted each time it is reached (what is shared counts as often as it is met; a slice's spare places count too). A statement '..UptoSaid' is the law's where the arguments, and the package variables that the reading takes, are together of bulk at most 1048576: NARROWER than '..Said'. Prove '..Said' where nothing that the law and all that it calls make is longer than what came in: it says more and counts as full. Else prove '..UptoSaid'. A law counts once. -/
mutual
def uptoBulk {H : Type} : DataW H → Nat
  | .lit (.string bytes) => bytes.length + 1
  | .lit _ => 1
  | .nil => 1
  | .ptr d => uptoBulk d + 1
  | .slice elems spare => uptoBulkAll elems + uptoBulkAll spare + 1
  | .agg parts => uptoBulkAll parts + 1
  | .iface _ d => uptoBulk d + 1
  | .map entries => uptoBulkEntries entries + 1
  | .held _ => 1
def uptoBulkAll {H : Type} : List (DataW H) → Nat
  | [] => 0
  | d :: r => uptoBulk d + uptoBulkAll r
def uptoBulkEntries {H : Type} : List (Lit × DataW H) → Nat
  | [] => 0
  | x :: r => uptoBulkEntry x + uptoBulkEntries r
def uptoBulkEntry {H : Type} : Lit × DataW H → Nat
  | (.string bytes, d) => bytes.length + uptoBulk d + 1
  | (_, d) => uptoBulk d + 1
 end
def uptoSmall : (H : Type) → List (DataW H) → Bool := fun _ ds => decide (uptoBulkAll ds ≤ 1048576)
def OpenSpec.upto (s : _root_.Go.ChangeSpec) : _root_.Go.OpenSpec := { _root_.Go.OpenSpec.ofChange s with cond := some uptoSmall }

/-- 'ontimelaw50.AuditChecks', WHERE WHAT IT READS IS OF BULK AT MOST 1048576: true; the input reads as it did. -/
def auditChecksUptoRow : OpenClaim := { program := "ytjccenbacjhglaa", sum := "e617e7b7c315ec3b5fc456c51acd93bd123dd94eda418495abda05cc3456467f", func := "ontime/ontimelaw50.AuditChecks", spec := "auditChecks", unfollowed := true, recurses := true, apart := false, narrowed := true }
def AuditChecksUptoSaid : Prop := auditChecksUptoRow.holds Try.pinned (OpenSpec.upto auditChecksSpec)

/-- 'ontimelaw50.AuditLate', WHERE WHAT IT READS IS OF BULK AT MOST 1048576: true; the input reads as it did. -/
def auditLateUptoRow : OpenClaim := { program := "ytjccenbacjhglaa", sum := "e617e7b7c315ec3b5fc456c51acd93bd123dd94eda418495abda05cc3456467f", func := "ontime/ontimelaw50.AuditLate", spec := "auditLate", unfollowed := true, recurses := true, apart := false, narrowed := true }
def AuditLateUptoSaid : Prop := auditLateUptoRow.holds Try.pinned (OpenSpec.upto auditLateSpec)

/-- 'ontimelaw46.SlotsCausal', WHERE WHAT IT READS IS OF BULK AT MOST 1048576: true; the input reads as it did. -/
def slotsCausalUptoRow : OpenClaim := { program := "ytjccenbacjhglaa", sum := "e617e7b7c315ec3b5fc456c51acd93bd123dd94eda418495abda05cc3456467f", func := "ontime/ontimelaw46.SlotsCausal", spec := "slotsCausal", unfollowed := true, recurses := true, apart := false, narrowed := true }
def SlotsCausalUptoSaid : Prop := slotsCausalUptoRow.holds Try.pinned (OpenSpec.upto slotsCausalSpec)

/-- 'ontimelaw46.SlotsPreempts', WHERE WHAT IT READS IS OF BULK AT MOST 1048576: true; the input reads as it did. -/
def slotsPreemptsUptoRow : OpenClaim := { program := "ytjccenbacjhglaa", sum := "e617e7b7c315ec3b5fc456c51acd93bd123dd94eda418495abda05cc3456467f", func := "ontime/ontimelaw46.SlotsPreempts", spec := "slotsPreempts", unfollowed := true, recurses := true, apart := false, narrowed := true }
def SlotsPreemptsUptoSaid : Prop := slotsPreemptsUptoRow.holds Try.pinned (OpenSpec.upto slotsPreemptsSpec)

/-- 'ontimelaw46.SlotsChecked', WHERE WHAT IT READS IS OF BULK AT MOST 1048576: true; the input reads as it did. -/
def slotsCheckedUptoRow : OpenClaim := { program := "ytjccenbacjhglaa", sum := "e617e7b7c315ec3b5fc456c51acd93bd123dd94eda418495abda05cc3456467f", func := "ontime/ontimelaw46.SlotsChecked", spec := "slotsChecked", unfollowed := true, recurses := true, apart := false, narrowed := true }
def SlotsCheckedUptoSaid : Prop := slotsCheckedUptoRow.holds Try.pinned (OpenSpec.upto slotsCheckedSpec)

/-- 'ontimelaw46.SlotsWindows', WHERE WHAT IT READS IS OF BULK AT MOST 1048576: true; the input reads as it did. -/
def slotsWindowsUptoRow : OpenClaim := { program := "ytjccenbacjhglaa", sum := "e617e7b7c315ec3b5fc456c51acd93bd123dd94eda418495abda05cc3456467f", func := "ontime/ontimelaw46.SlotsWindows", spec := "slotsWindows", unfollowed := true, recurses := true, apart := false, narrowed := true }
def SlotsWindowsUptoSaid : Prop := slotsWindowsUptoRow.holds Try.pinned (OpenSpec.upto slotsWindowsSpec)

end Rows
end Go.Proofs.Ytjccenbacjhglaa
