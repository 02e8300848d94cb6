/- What the package-level variables that the texts' laws read hold when the call begins; a start that meets it. -/
import Derived.Test.YtjccenbacjhglaaGreatDoorRows
import Derived.Test.YtjccenbacjhglaaGreatDoorTie
import Derived.Test.YtjccenbacjhglaaGreatDoorRE
import Derived.Test.YtjccenbacjhglaaGreatDoorSC
import Derived.LaidMore
import Derived.Lib.LaidTab
import Derived.Stop.LaidErr
import Derived.Handed
import Derived.ProofKit
set_option linter.unusedVariables false
set_option maxRecDepth 100000
set_option maxHeartbeats 4000000
namespace Go.Proofs.YtjccenbacjhglaaGreatDoor.RD
open Go Go.Proofs Go.RowKit Go.ChangeShapes Go.WideShapes Go.ChangeAt Go.Proofs.YtjccenbacjhglaaGreatDoor.K Go.Proofs.YtjccenbacjhglaaGreatDoor.M Go.Proofs.YtjccenbacjhglaaGreatDoor.RW Go.Proofs.YtjccenbacjhglaaGreatDoor.RE Go.Proofs.YtjccenbacjhglaaGreatDoor.SC Go.Proofs.YtjccenbacjhglaaGreatDoor.ST
/-- The builder, with the heap's shape handed on. -/
theorem handed_shaped {H : Type} {enc : TypeId × Value → H} {a : Assume} {C : Checked} {os : Os} {f : FuncId} {fn : Func} {s : ChangeSpec} {conds : List PathCond} {apart fresh handsOn again : Bool} {X : World → Array Value → Prop}
    (hX : ∀ (w w' : World) (args : Array Value), w.heap = w'.heap → X w args → X w' args)
    (ow : ownKnob C.prog.godebug = none) (started : os.Started) (noInit : C.prog.inits.idxOf? f = none) (hfn : C.prog.funcs[f]? = some fn)
    (witness : ∃ (w : World) (tape : Tape) (i : Input), w.os = os ∧ (w.forCall tape i).Shaped C.prog ∧ i.vars = [] ∧ Input.okWide C.prog (w.forCall tape i) .any w.heap.size f i ∧
      ((s.pre enc C.prog fn conds apart (w.forCall tape i).memory i.args ∧ X (w.forCall tape i).memory i.args) ∧ sizedMet enc C.prog fn (OpenSpec.ofChange s) apart (w.forCall tape i).memory i.args) ∧ a.holds C.prog (lone (Frame.enter C.prog f i.args .normal) [] (w.forCall tape i)))
    (contract : ∀ (W : World) (base : Nat) (args : Array Value) (ds gs : List (DataW H)) (before : List MemPlace), W.ShapedOpen C.prog →
      (∀ (j : Nat) t v, fn.params[j]? = some t → args[j]? = some v → Value.okWide C.prog W .any base t v) →
      DataW.Whole enc C.prog fn.params.toList s.vars apart W args.toList ds gs before →
      (DataW.weightsEach C.prog (fn.params.toList ++ s.plain.varTypes C.prog) (ds ++ gs)).all (· ≤ reachBytes) = true → X W args →
      Calls C.prog f args W fun e W' => ∃ v, e = .returned v ∧ s.post enc C.prog fn apart fresh handsOn again W args v W') :
    ReturnsInHanded a C os f .any (fun w args => (s.pre enc C.prog fn conds apart w args ∧ X w args) ∧ sizedMet enc C.prog fn (OpenSpec.ofChange s) apart w args) (s.post enc C.prog fn apart fresh handsOn again) := by
  refine returnsInHanded_of_calls ow started noInit witness ?_
  intro w tape i _ hsh _ hok hpre hholds
  obtain ⟨_, _, _, fn', hfn', _, _, _, _, hval⟩ := hok
  obtain rfl : fn' = fn := Option.some.inj (hfn'.symm.trans hfn)
  obtain ⟨⟨⟨ds, gs, before, hw, hc⟩, hx⟩, hz⟩ := hpre
  have hw' := DataW.Whole.of_heap (w' := w.forCall tape i) (by rfl) hw
  refine (contract (w.forCall tape i) w.heap.size i.args ds gs before hsh hval hw' (hz.weights hw) (hX _ _ _ (by rfl) hx)).mono fun e W' ⟨v, he, hp⟩ => ?_
  subst he
  exact ChangeSpec.post_blind hp
/-! The variables -/
theorem gMl : Tryz.prog.globalNamed "internal/bytealg.MaxLen" = some 0 := by kernel_rfl
theorem gPow : Tryz.prog.globalNamed "internal/strconv.uint64pow10" = some 1 := by kernel_rfl
theorem gSyn : Tryz.prog.globalNamed "strconv.ErrSyntax" = some 2 := by kernel_rfl
theorem gRng : Tryz.prog.globalNamed "strconv.ErrRange" = some 3 := by kernel_rfl
theorem tPow : (Tryz.prog.globals[1]?).map (·.type) = some 245 := by kernel_rfl
theorem tSyn : (Tryz.prog.globals[2]?).map (·.type) = some 51 := by kernel_rfl
theorem tRng : (Tryz.prog.globals[3]?).map (·.type) = some 51 := by kernel_rfl
theorem c20 : Tryz.prog.cellsOf 245 = 20 := by kernel_rfl
theorem c1 : Tryz.prog.cellsOf 196 = 1 := by kernel_rfl
theorem cErr : Tryz.prog.cellsOf 310 = 1 := by kernel_rfl
theorem cStr : Tryz.prog.cellsOf 9 = 1 := by kernel_rfl
theorem star : "*errors.errorString" = "*" ++ "errors.errorString" := by decide +kernel
theorem rowE (u : TypeId) (h : Tryz.prog.typeName? 3 u = some "*errors.errorString") : u = 308 :=
  typeName_ptr_named (nm := "errors.errorString") (by rw [← star]; kernel_rfl) (by kernel_rfl) (by decide +kernel) u (by rw [← star]; exact h)
theorem maxLen_int {W : World} (h : W.ShapedOpen Tryz.prog) : ∃ m, W.cell? ⟨0, 0, none⟩ = some (.int .i64 m) := by
  obtain ⟨cs, h1, h2, h3⟩ := h.1 0 #[.int .i64 0] 3 (of_decide_eq_true (by kernel_rfl)) (by kernel_rfl)
  obtain ⟨ts, h4, h5, h6⟩ := h3 (by kernel_rfl)
  have e4 : Tryz.prog.cellTypes Tryz.prog.depth 3 = some [3] := by kernel_rfl
  obtain rfl : ts = [3] := Option.some.inj (h4.symm.trans e4)
  have hs : cs.size = 1 := h2
  have hlt : 0 < cs.size := by omega
  obtain ⟨u, hu, hc⟩ := h6 0 cs[0] (Array.getElem?_eq_getElem hlt)
  obtain rfl : 3 = u := by simpa using hu
  unfold Cell.ok at hc
  rw [Tryz.underlying3] at hc
  have hcell : W.cell? ⟨0, 0, none⟩ = some cs[0] := by simp [World.cell?, h1, hlt]
  generalize cs[0] = v at hc hcell
  cases v <;> simp only at hc
  obtain ⟨rfl, _⟩ := hc
  exact ⟨_, hcell⟩
def laidT : List (String × DataW Unit) := Rows.auditTextsRow.laid
theorem gv_of {W : World} (hs : W.ShapedOpen Tryz.prog) (h : laidMetH Tryz.prog laidT W) : GV W := by
  rw [MakeChecks.laidMetH_plain _ _ _ (by kernel_rfl)] at h
  have h2 : laidMet Tryz.prog (("internal/strconv.uint64pow10", Lib.tabData .u64 Lib.pow10Tab) :: laidT.drop 3) W := h.tail.tail
  have h4 : laidMet Tryz.prog (laidT.drop 4) W := h.tail.tail.tail.tail
  obtain ⟨a0, s0, hv0, _⟩ := laid_sentinel (r := laidT.drop 5) (text := [118, 97, 108, 117, 101, 32, 111, 117, 116, 32, 111, 102, 32, 114, 97, 110, 103, 101]) (nm := "*errors.errorString") h4 gRng tRng Tryz.underlying51 rowE Tryz.underlying308 Tryz.underlying310 rfl rfl Tryz.underlying9 cErr cStr
  obtain ⟨a1, s1, hv1, _⟩ := laid_sentinel (r := laidT.drop 6) (text := [105, 110, 118, 97, 108, 105, 100, 32, 115, 121, 110, 116, 97, 120]) (nm := "*errors.errorString") h4.tail gSyn tSyn Tryz.underlying51 rowE Tryz.underlying308 Tryz.underlying310 rfl rfl Tryz.underlying9 cErr cStr
  exact ⟨Lib.tabIs_of_head gPow tPow Tryz.underlying245 Tryz.underlying196 c1 c20 h2, ⟨_, _, hv1⟩, ⟨_, _, hv0⟩, maxLen_int hs⟩
/-! The witness -/
def firstCells : Array Value := (Go.Pinned.utf8FirstZ.map fun (z : Nat) => Value.int .u8 (z : Int)).toArray
noncomputable def start (os : Os) : World := { World.doorLaid Tryz.prog 72 os with heap := (World.doorLaid Tryz.prog 72 os).heap.setIfInBounds 4 (.cells firstCells 303 (0, 0)) }
theorem start_met (os : Os) (args : Array Value) : laidMetH Tryz.prog laidT ((start os).forCall (fun _ _ => 0) ⟨#[], args, []⟩).memory :=
  laidMetH_of_parts3 (fuel := 8) (laidMet_of_run' 8 (by kernel_rfl) (by kernel_rfl)) (by kernel_rfl) (by kernel_rfl)
end Go.Proofs.YtjccenbacjhglaaGreatDoor.RD
