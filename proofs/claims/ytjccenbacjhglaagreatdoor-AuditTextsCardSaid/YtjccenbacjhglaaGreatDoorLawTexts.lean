/- The law AuditTexts answers true at every input, where the listed package-level variables read as the program lays them (tied). -/
import Derived.Test.YtjccenbacjhglaaGreatDoorRows
import Derived.Test.YtjccenbacjhglaaGreatDoorTie
import Derived.Test.YtjccenbacjhglaaGreatDoorCards
import Derived.Test.YtjccenbacjhglaaGreatDoorRD
import Derived.Test.YtjccenbacjhglaaGreatDoorT6
import Derived.SevenTiedAt
set_option linter.unusedVariables false
set_option maxRecDepth 100000
set_option maxHeartbeats 4000000
namespace Go.Proofs.YtjccenbacjhglaaGreatDoor.LawTexts
open Go Go.Proofs Go.RowKit Go.ChangeShapes Go.WideShapes Go.ChangeAt Go.Proofs.YtjccenbacjhglaaGreatDoor.K Go.Proofs.YtjccenbacjhglaaGreatDoor.M Go.Proofs.YtjccenbacjhglaaGreatDoor.RW Go.Proofs.YtjccenbacjhglaaGreatDoor.RE Go.Proofs.YtjccenbacjhglaaGreatDoor.RD Go.Proofs.YtjccenbacjhglaaGreatDoor.ST
theorem elemE8 {H : Type} {enc : TypeId × Value → H} {w : World} {base : Nat} {spare : Nat → Bool} {held : Bool} (n : Nat) (cs : List Value) (y : DataW H × List MemPlace) (h : DataW.trod enc Tryz.prog w base spare held n 26 cs = some y) : ∃ x : { e : Ev // 0 ≤ e.k ∧ e.k ≤ 255 }, cs = encE x.1 := by
  obtain ⟨e, rfl⟩ := elemE n cs y h
  obtain ⟨xs, m, _, _, hlen, hx, hf⟩ := DataW.trod_struct Tryz.underlying26 h
  match xs, hx, hf with
  | [y0, y1, y2, y3, y4, y5, y6, y7], _, hf =>
    have h4 := hf 4 _ rfl
    simp [c5, encE] at h4
    obtain ⟨a4, e4, _, hw⟩ := DataW.trod_int Tryz.underlying5 h4
    simp at e4
    subst e4
    simp only [Lit.wf, Bool.and_eq_true, decide_eq_true_eq] at hw
    have h8 : IntKind.u8.min = 0 := by decide
    have h9 : IntKind.u8.max = 255 := by decide
    exact ⟨⟨e, by omega, by omega⟩, rfl⟩
theorem rd_val {w : World} {v : Value} {xs : List { e : Ev // 0 ≤ e.k ∧ e.k ≤ 255 }} (h : Rd (fun x : { e : Ev // 0 ≤ e.k ∧ e.k ≤ 255 } => encE x.1) 8 w v xs) : Rd encE 8 w v (xs.map (·.1)) := by
  obtain ⟨A, c, h1, h2, h3, h4⟩ := h
  refine ⟨A, c, by rw [List.length_map]; exact h1, by rw [List.length_map]; exact h2, AU.encE_len, ?_⟩
  rcases h4 with rfl | ⟨b, off, h5, h6⟩
  · exact .inl rfl
  · refine .inr ⟨b, off, h5, fun i hi j hj => ?_⟩
    have hi' : i < xs.length := by simpa using hi
    rw [h6 i hi' j hj]; simp
theorem lifted (os : Os) (started : os.Started) (H : Type) (enc : TypeId × Value → H) :
    ReturnsInHanded {} Tryz.checked os 3 .any (fun w args => (Rows.auditTextsSpec.pre enc Tryz.prog Tryz.f3 [] false w args ∧ laidMetH Tryz.prog laidT w) ∧ sizedMet enc Tryz.prog Tryz.f3 (OpenSpec.ofChange Rows.auditTextsSpec) false w args)
      (Rows.auditTextsSpec.post enc Tryz.prog Tryz.f3 false true false false) := by
  refine handed_shaped (C := Tryz.checked) (X := fun w _ => laidMetH Tryz.prog laidT w) (fun _ _ _ hh h => h.of_heap hh) own started (by kernel_rfl) Tryz.func3
    (ChangeSpec.witness_shaped (enc := enc) (C := Tryz.checked) (os := os) (X := fun w _ => laidMetH Tryz.prog laidT w) false (RD.start os) #[.slice none 0 0] 8 rfl (World.shaped_of_RefB (by kernel_rfl) (by kernel_rfl)) (by kernel_rfl) (by kernel_rfl) (by kernel_rfl) (start_met os _)) ?_
  intro W base args ds gs before hsh hval0 hW hsz0 hL
  have hg := gv_of hsh hL
  have hsz : (DataW.weightsEach Tryz.prog (Tryz.f3.params.toList ++ Rows.auditTextsSpec.plain.varTypes Tryz.prog) (ds ++ gs)).all (· ≤ reachBytes) = true := hsz0
  have hval : ∀ (j : Nat) t v, Tryz.f3.params[j]? = some t → args[j]? = some v → Value.okWide Tryz.prog W .any base t v := hval0
  have hW' := hW
  obtain ⟨p, q, hA0, hV, rfl, hfz, hnd⟩ := hW
  have hA : DataW.TrodAll enc Tryz.prog W 0 (fun _ => true) true Tryz.f3.params.toList args.toList ds p := hA0
  rw [Tryz.params3] at hA hval hsz
  obtain ⟨v0, vs0, d0, ds0, p0, q0, hargs, rfl, rfl, h0, r0⟩ := trodAll_cons hA
  obtain ⟨rfl, rfl, rfl⟩ := trodAll_nil r0
  obtain rfl : args = #[v0] := by cases args; simp_all
  obtain ⟨rfl, rfl⟩ := trodVars_none hV
  have k0 := h0
  have lt0 : ∀ x ∈ p0, x.block < W.heap.size := by obtain ⟨m, hm⟩ := k0; exact DataW.trod_lt m _ _ _ hm
  obtain ⟨a0, len0, cap0, rfl⟩ := okWide_slice Tryz.underlying22 (hval 0 22 v0 rfl rfl)
  obtain ⟨x0, hl0, hr0⟩ := open_rd (en := fun x : { e : Ev // 0 ≤ e.k ∧ e.k ≤ 255 } => encE x.1) (k := 8) (B := 64) (fun n cs y => elemE8 n cs y) Tryz.underlying22 cE (by omega) (fun x => AU.encE_len x.1) (by kernel_rfl) (by omega) hsz (j := 0) (t := 22) rfl rfl h0
  clear hA0 hval0 hsz0 hsz
  refine (T6.auditTexts_calls W hg _ _ (rd_val hr0) (fun e he => by obtain ⟨x, _, rfl⟩ := List.mem_map.1 he; exact x.2)).mono fun e W' ⟨he, bel⟩ => ?_
  subst he
  exact ⟨_, rfl, _, _, _, [], _, [], hW', trodAll_mk1 (shut_bool Tryz.underlying4 _), (trodAll_cons_mk (Below.trod laidOut (by kernel_rfl) (of_decide_eq_true (by kernel_rfl)) k0 bel lt0) trodAll_mk0), rfl, bel.frame _, fun h => by cases h⟩
theorem over : Rows.AuditTextsSaid :=
  OpenClaim.holds_of_wide 3 Tryz.f3 rfl rfl rfl rfl rfl rfl rfl ⟨rfl, rfl, rfl, rfl, rfl⟩ rfl rfl rfl rfl rfl (by kernel_rfl) Tryz.func3 (by kernel_rfl)
    (of_decide_eq_true (by kernel_rfl)) (by unfold Func.isWrapper; first | (rw [if_pos (by decide +kernel)]; kernel_rfl) | (rw [if_neg (by decide +kernel)]; exact ⟨rfl, rfl⟩))
    (fun os started H enc _ => lifted os started H enc)
theorem card : Rows.AuditTextsCardSaid :=
  Claim7.holds_tied_plain_at .later [] [.data, .data, .data, .data, .sentinel, .sentinel, .pinned] true (true, "16aba273c4439abbfe95f20907ed3d8e4140e57bcf0913560b262c234165f3e0") true
    over (fun _ h => by cases h) (by kernel_rfl) (fun _ h => by cases h) auditTexts_row_tie rfl ⟨rfl, rfl⟩ (by kernel_rfl) rfl
    (fun f fn hf hfn => by
      obtain rfl : f = 3 := Option.some.inj ((show Tryz.prog.funcNamed "ontime/ontimelaw50.AuditTexts" = some 3 by kernel_rfl).symm.trans hf) |>.symm
      obtain rfl : fn = Tryz.f3 := (Option.some.inj (Tryz.func3.symm.trans hfn)).symm
      exact ⟨by kernel_rfl, fun j t ht => by
        rw [Tryz.params3] at ht
        have h3 : t = 22 := by
          rcases j with _ | j
          · simpa using ht.symm
          · simp at ht
        subst h3
        exact (show Tryz.prog.wantsStandIn 22 = false by kernel_rfl)⟩)
    (by kernel_rfl)
end Go.Proofs.YtjccenbacjhglaaGreatDoor.LawTexts
namespace Go.Proofs.YtjccenbacjhglaaGreatDoor
/-- The card, under a short name, for the claim. -/
theorem auditTexts_holds : Rows.AuditTextsCardSaid := LawTexts.card
end Go.Proofs.YtjccenbacjhglaaGreatDoor
#print axioms Go.Proofs.YtjccenbacjhglaaGreatDoor.auditTexts_holds
