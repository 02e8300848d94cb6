/- Arguments of rows: tasks and events, opened. -/
import Derived.Test.YtjccenbacjhglaaGreatDoorRows
import Derived.Test.YtjccenbacjhglaaGreatDoorAU
import Derived.Test.YtjccenbacjhglaaGreatDoorRW
import Derived.ProofKit
import Derived.OpenShut
import Derived.ShutString
import Derived.ChangeOld
import Derived.Below
import Derived.SizedLaws
set_option linter.unusedVariables false
set_option maxRecDepth 100000
namespace Go.Proofs.YtjccenbacjhglaaGreatDoor.RE
open Go Go.Proofs Go.RowKit Go.ChangeShapes Go.WideShapes Go.ChangeAt Go.Proofs.YtjccenbacjhglaaGreatDoor.K Go.Proofs.YtjccenbacjhglaaGreatDoor.M Go.Proofs.YtjccenbacjhglaaGreatDoor.RW
theorem own : ownKnob Tryz.prog.godebug = none := by kernel_rfl
theorem laidOut : laidOutB Tryz.prog = true := by kernel_rfl
section
variable {H : Type} {enc : TypeId × Value → H} {w : World} {base : Nat} {spare : Nat → Bool} {held : Bool}
theorem cT : Tryz.prog.cellsOf 35 = 3 := by kernel_rfl
theorem cE : Tryz.prog.cellsOf 26 = 8 := by kernel_rfl
theorem c3 : Tryz.prog.cellsOf 3 = 1 := by kernel_rfl
theorem c5 : Tryz.prog.cellsOf 5 = 1 := by kernel_rfl
theorem c9 : Tryz.prog.cellsOf 9 = 1 := by kernel_rfl
theorem elemT (n : Nat) (cs : List Value) (y : DataW H × List MemPlace) (h : DataW.trod enc Tryz.prog w base spare held n 35 cs = some y) : ∃ x : Tk, cs = encT x := by
  obtain ⟨xs, m, _, _, hlen, hx, hf⟩ := DataW.trod_struct Tryz.underlying35 h
  rw [cT] at hlen
  match xs, hx, cs, hlen with
  | [y0, y1, y2], _, [v0, v1, v2], _ =>
    have h0 := hf 0 _ rfl
    have h1 := hf 1 _ rfl
    have h2 := hf 2 _ rfl
    simp [c3, c9] at h0 h1 h2
    obtain ⟨s, e0, _⟩ := DataW.trod_string Tryz.underlying9 h0
    obtain ⟨c, e1, _⟩ := DataW.trod_int Tryz.underlying3 h1
    obtain ⟨p, e2, _⟩ := DataW.trod_int Tryz.underlying3 h2
    simp at e0 e1 e2
    exact ⟨⟨s, c, p⟩, by rw [e0, e1, e2]; rfl⟩
theorem elemE (n : Nat) (cs : List Value) (y : DataW H × List MemPlace) (h : DataW.trod enc Tryz.prog w base spare held n 26 cs = some y) : ∃ x : Ev, cs = encE x := by
  obtain ⟨xs, m, _, _, hlen, hx, hf⟩ := DataW.trod_struct Tryz.underlying26 h
  rw [cE] at hlen
  match xs, hx, cs, hlen with
  | [y0, y1, y2, y3, y4, y5, y6, y7], _, [v0, v1, v2, v3, v4, v5, v6, v7], _ =>
    have h0 := hf 0 _ rfl
    have h1 := hf 1 _ rfl
    have h2 := hf 2 _ rfl
    have h3 := hf 3 _ rfl
    have h4 := hf 4 _ rfl
    have h5 := hf 5 _ rfl
    have h6 := hf 6 _ rfl
    have h7 := hf 7 _ rfl
    simp [c3, c5] at h0 h1 h2 h3 h4 h5 h6 h7
    obtain ⟨a0, e0, _⟩ := DataW.trod_int Tryz.underlying3 h0
    obtain ⟨a1, e1, _⟩ := DataW.trod_int Tryz.underlying3 h1
    obtain ⟨a2, e2, _⟩ := DataW.trod_int Tryz.underlying3 h2
    obtain ⟨a3, e3, _⟩ := DataW.trod_int Tryz.underlying3 h3
    obtain ⟨a4, e4, _⟩ := DataW.trod_int Tryz.underlying5 h4
    obtain ⟨a5, e5, _⟩ := DataW.trod_int Tryz.underlying3 h5
    obtain ⟨a6, e6, _⟩ := DataW.trod_int Tryz.underlying3 h6
    obtain ⟨a7, e7, _⟩ := DataW.trod_int Tryz.underlying3 h7
    simp at e0 e1 e2 e3 e4 e5 e6 e7
    exact ⟨⟨a0, a1, a2, a3, a4, a5, a6, a7⟩, by rw [e0, e1, e2, e3, e4, e5, e6, e7]; rfl⟩
end
end Go.Proofs.YtjccenbacjhglaaGreatDoor.RE
