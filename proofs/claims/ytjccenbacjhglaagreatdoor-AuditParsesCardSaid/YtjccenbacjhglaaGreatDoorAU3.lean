import Derived.Test.YtjccenbacjhglaaGreatDoorProg
import Derived.Test.YtjccenbacjhglaaGreatDoorK
import Derived.Test.YtjccenbacjhglaaGreatDoorM
import Derived.Test.YtjccenbacjhglaaGreatDoorIS
import Derived.Test.YtjccenbacjhglaaGreatDoorM2
import Derived.Test.YtjccenbacjhglaaGreatDoorPF
import Derived.Test.YtjccenbacjhglaaGreatDoorSO
import Derived.Test.YtjccenbacjhglaaGreatDoorAU
import Derived.Test.YtjccenbacjhglaaGreatDoorAU2
set_option linter.unusedVariables false
set_option linter.unusedSimpArgs false
set_option maxRecDepth 100000
set_option maxHeartbeats 1000000
namespace Go.Proofs.YtjccenbacjhglaaGreatDoor.AU3
open Go Go.Proofs Go.RowKit Go.Proofs.YtjccenbacjhglaaGreatDoor.K Go.Proofs.YtjccenbacjhglaaGreatDoor.M Go.Proofs.YtjccenbacjhglaaGreatDoor.PF Go.Proofs.YtjccenbacjhglaaGreatDoor.SO Go.Proofs.YtjccenbacjhglaaGreatDoor.AU Go.Proofs.YtjccenbacjhglaaGreatDoor.AU2
theorem a134 : Ag Tryz.prog 134 2 := ⟨_, Tryz.underlying134, rfl, by kernel_rfl⟩
theorem a135 : Ag Tryz.prog 135 12 := ⟨_, Tryz.underlying135, rfl, by kernel_rfl⟩
theorem mix : Tryz.prog.follows .mixedOrders = true := by kernel_rfl
theorem st134 : Str Tryz.prog 134 [.nilFunc, .nilFunc] #[(0, 1), (1, 1)] := ⟨⟨by kernel_rfl⟩, _, Tryz.underlying134, fun w => by kernel_rfl⟩
theorem st135 : ArB Tryz.prog 135 [.nilFunc, .nilFunc, .nilFunc, .nilFunc, .nilFunc, .nilFunc, .nilFunc, .nilFunc, .nilFunc, .nilFunc, .nilFunc, .nilFunc] 134 2 := ⟨⟨by kernel_rfl⟩, ⟨_, Tryz.underlying135⟩, by kernel_rfl⟩
theorem z135 : Zr Tryz.prog 135 [.nilFunc, .nilFunc, .nilFunc, .nilFunc, .nilFunc, .nilFunc, .nilFunc, .nilFunc, .nilFunc, .nilFunc, .nilFunc, .nilFunc] := ⟨by kernel_rfl⟩

def jbs (ps : List (Option (Nat × Jb))) : List Blk := ps.filterMap (Option.map fun x => (x.1, .cells (encJ x.2).toArray 228 (0, 0)))
theorem jbs_mem {ps : List (Option (Nat × Jb))} {i b : Nat} {j : Jb} (h : ps[i]? = some (some (b, j))) : (b, Obj.cells (encJ j).toArray 228 (0, 0)) ∈ jbs ps :=
  List.mem_filterMap.2 ⟨some (b, j), List.mem_of_getElem? h, rfl⟩
theorem jbs_pick : ∀ (ps : List (Option (Nat × Jb))) (t b : Nat) (j : Jb), ps[t]? = some (some (b, j)) → ∃ R, (jbs ps).Perm ((b, .cells (encJ j).toArray 228 (0, 0)) :: R) ∧ jbs (ps.set t none) = R ∧ ∀ j', (jbs (ps.set t (some (b, j')))).Perm ((b, .cells (encJ j').toArray 228 (0, 0)) :: R)
  | [], t, b, j, h => by simp at h
  | p :: ps, 0, b, j, h => by
    obtain rfl : p = some (b, j) := by simpa using h
    exact ⟨jbs ps, .refl _, rfl, fun j' => .refl _⟩
  | p :: ps, t + 1, b, j, h => by
    obtain ⟨R, h1, h2, h3⟩ := jbs_pick ps t b j (by simpa using h)
    cases p with
    | none => exact ⟨R, h1, h2, h3⟩
    | some x =>
      refine ⟨(x.1, .cells (encJ x.2).toArray 228 (0, 0)) :: R, ?_, ?_, fun j' => ?_⟩
      · exact (h1.cons _).trans (.swap _ _ _)
      · rw [← h2]; rfl
      · exact ((h3 j').cons _).trans (.swap _ _ _)
theorem jbs_none (ps : List (Option (Nat × Jb))) (t : Nat) : (jbs (ps.set t none)).Sublist (jbs ps) := by
  induction ps generalizing t with
  | nil => exact .refl _
  | cons p ps ih =>
    cases t with
    | zero =>
      cases p with
      | none => exact .refl _
      | some x => exact List.sublist_cons_self _ _
    | succ t =>
      cases p with
      | none => exact ih t
      | some x => exact (ih t).cons_cons _
theorem jbs_new : ∀ (ps : List (Option (Nat × Jb))) (t b : Nat) (j : Jb), ps[t]? = some none → (jbs (ps.set t (some (b, j)))).Perm ((b, .cells (encJ j).toArray 228 (0, 0)) :: jbs ps)
  | [], t, b, j, h => by simp at h
  | p :: ps, 0, b, j, h => by
    obtain rfl : p = none := by simpa using h
    exact .refl _
  | p :: ps, t + 1, b, j, h => by
    have h1 := jbs_new ps t b j (by simpa using h)
    cases p with
    | none => exact h1
    | some x => exact (h1.cons _).trans (.swap _ _ _)
/-- What is due, in memory. -/
def DU (dv : Value) (ds : List Ev) (Ld : List Blk) : Prop := ∃ A c, dv = .slice A ds.length c ∧ ds.length ≤ c ∧ (ds = [] ∨ ∃ b off cells, A = some ⟨b, off, none⟩ ∧ Ld = [(b, .cells cells 26 (0, 0))] ∧ ∀ i (hi : i < ds.length) k, k < 8 → cells[off + i * 8 + k]? = (encE ds[i])[k]?)
theorem DU.nil : DU (.slice none 0 0) [] [] := ⟨none, 0, rfl, Nat.le_refl _, .inl rfl⟩
theorem DU.of {v : Value} {ds : List Ev} {L : List Blk} (h : OS 26 8 v (ds.flatMap encE) ds.length L) : DU v ds L := by
  obtain ⟨h0, h | h⟩ := h
  · obtain ⟨rfl, hx, rfl⟩ := h
    obtain rfl := List.eq_nil_of_length_eq_zero hx
    exact .nil
  · obtain ⟨b, cap, cur, rfl, rfl, h1, h2, h3, h4⟩ := h
    refine ⟨_, cap, rfl, h1, .inr ⟨b, 0, cur, rfl, rfl, fun i hi k hk => ?_⟩⟩
    rw [← Array.getElem?_toList]
    have h5 := flat_at encE_len ds [] i hi
    rw [List.append_nil, ← h4] at h5
    have h6 : (((cur.toList.take (ds.length * 8)).drop (i * 8)).take 8)[k]? = (encE ds[i])[k]? := by rw [h5]
    rw [List.getElem?_take_of_lt hk, List.getElem?_drop, List.getElem?_take_of_lt (by omega)] at h6
    rw [Nat.zero_add]
    exact h6
/-- The auditor's blocks. -/
def BL (A J N T : Nat) (lv dv : Value) (ps : List (Option (Nat × Jb))) (Ld : List Blk) (a : Au) : List Blk :=
  (A, .cells (auC lv J N T ps.length a dv).toArray 89 (0, 0)) :: (J, .cells (ps.map ptrV).toArray 226 (0, 0)) :: (N, .cells (a.cnt.map intV).toArray 3 (0, 0)) :: (T, .cells (a.last.map intV).toArray 3 (0, 0)) :: (Ld ++ jbs ps)
/-- L holds the auditor a. -/
def St (A J N T : Nat) (lv : Value) (a : Au) (L : List Blk) : Prop := ∃ dv ps Ld, L = BL A J N T lv dv ps Ld a ∧ DU dv a.due Ld ∧ a.js = ps.map (Option.map (·.2))
theorem AuW.of {w0 w we : World} {A J N T : Nat} {lv dv : Value} {ps : List (Option (Nat × Jb))} {Ld Le L : List Blk} {a : Au} (hz : Z w0 we Le L w) (hL : ∀ x ∈ BL A J N T lv dv ps Ld a, x ∈ L) (hl : Rd encT 3 w0 lv a.l) (hjs : a.js = ps.map (Option.map (·.2))) : AuW w A J N T lv dv ps a := by
  have hh : ∀ b o, (b, o) ∈ BL A J N T lv dv ps Ld a → w.heap[b]? = some o := fun b o h => hz.h.has _ (hL _ h)
  refine ⟨hh _ _ (List.mem_cons_self ..), hh _ _ (List.mem_cons_of_mem _ (List.mem_cons_self ..)), hh _ _ (List.mem_cons_of_mem _ (List.mem_cons_of_mem _ (List.mem_cons_self ..))), hh _ _ (List.mem_cons_of_mem _ (List.mem_cons_of_mem _ (List.mem_cons_of_mem _ (List.mem_cons_self ..)))), fun i b j h => hh _ _ ?_, hl.below hz.h.below, hjs⟩
  exact List.mem_cons_of_mem _ (List.mem_cons_of_mem _ (List.mem_cons_of_mem _ (List.mem_cons_of_mem _ (List.mem_append_right _ (jbs_mem h)))))
/-- What a handler answers. -/
def AccP (A J N T : Nat) (lv : Value) (o : Option Au) (v : Value) (L' : List Blk) : Prop := match o with
  | some b => v = .bool true ∧ St A J N T lv b L'
  | none => v = .bool false
def HV : List Value := [.nilFunc, .nilFunc, .func (.func 83) #[] #[], .func (.func 84) #[] #[], .nilFunc, .func (.func 85) #[] #[], .func (.func 86) #[] #[], .func (.func 84) #[] #[], .nilFunc, .func (.func 87) #[] #[], .func (.func 88) #[] #[], .func (.func 84) #[] #[]]
theorem evNe (e d : Ev) : decide ([e.s, e.c, e.t, e.j, e.k, e.v, e.cy, e.po] ≠ [d.s, d.c, d.t, d.j, d.k, d.v, e.cy, e.po]) = decide (e ≠ { d with cy := e.cy, po := e.po }) := by
  cases e; cases d; simp

theorem handlers_calls (w : World) : Calls Tryz.prog 57 #[] w fun e w' => e = .returned (.agg HV.toArray) ∧ Z w w [] [] w' := by
  refine enter (args := []) Tryz.func57 rfl rfl rfl (C := Z w w [] []) (Z.start (H.nil w)) ?_
  refine .seq (.reg (.alloc z135 fun b0 => .nil (.code ?_)))
  refine .seq (.reg (.q (.build st134 rfl rfl) (.q (.build st134 rfl rfl) (.q (.build st134 rfl rfl) (.q (.build st134 rfl rfl) (.q (.build st134 rfl rfl) (.q (.buildA st135 rfl rfl) (.stA a135 0 rfl rfl rfl rfl rfl rfl (.nil (.code ?_))))))))))
  refine .ret (.retC a135 0 Tryz.results57 rfl rfl rfl rfl fun w1 hz => ⟨rfl, hz.sublist (List.nil_sublist _)⟩)

theorem phaseOf_calls (w : World) (k : Int) : Calls Tryz.prog 58 #[.int .u8 k] w fun e w' => e = .returned (.int .i64 (phaseOf k)) ∧ Z w w [] [] w' := by
  refine enter (args := [_]) Tryz.func58 rfl rfl rfl (C := Z w w [] []) (Z.start (H.nil w)) ?_
  refine .seq (.reg (.q (.assign rfl) (.nil (.code ?_))))
  refine .seq (.seq (.reg (.q (.move rfl) (.nil (.code ?_)))))
  refine .block (.seq (.reg (.eqS rfl rfl (fun h5 => ?_) (fun h5 => ?_))))
  · refine .q (.assign rfl) (.nil (.code ?_))
    refine .tt (.seq (.reg (.q (.assign rfl) (.nil (.code ?_)))))
    refine .ret (.inbR (.thR (.ret1 Tryz.results58 rfl fun w1 hz => ⟨by unfold phaseOf; simp_all, hz⟩)))
  · refine .q (.assign rfl) (.nil (.code ?_))
    refine .ff (.seq (.reg (.eqS rfl rfl (fun h7 => ?_) (fun h7 => ?_))))
    · refine .q (.assign rfl) (.nil (.code ?_))
      refine .tt (.seq (.reg (.q (.assign rfl) (.nil (.code ?_)))))
      refine .ret (.inbR (.thR (.ret1 Tryz.results58 rfl fun w1 hz => ⟨by unfold phaseOf; simp_all, hz⟩)))
    · refine .q (.assign rfl) (.nil (.code ?_))
      refine .ff (.seq (.reg (.eqS rfl rfl (fun h9 => ?_) (fun h9 => ?_))))
      · refine .q (.assign rfl) (.nil (.code ?_))
        refine .tt (.seq (.reg (.q (.assign rfl) (.nil (.code ?_)))))
        refine .ret (.inbR (.thR (.ret1 Tryz.results58 rfl fun w1 hz => ⟨by unfold phaseOf; simp_all, hz⟩)))
      · refine .q (.assign rfl) (.nil (.code ?_))
        refine .ff (.seq (.seq (.reg (.eqS rfl rfl (fun h11 => ?_) (fun h11 => ?_)))))
        · refine .q (.assign rfl) (.nil (.code ?_))
          refine .tt (.skip (.code ?_))
          refine .tt (.seq (.reg (.q (.assign rfl) (.nil (.code ?_)))))
          refine .ret (.inbR (.thR (.ret1 Tryz.results58 rfl fun w1 hz => ⟨by unfold phaseOf; simp_all, hz⟩)))
        · refine .q (.assign rfl) (.nil (.code ?_))
          refine .ff (.seq (.reg (.eqS rfl rfl (fun h12 => ?_) (fun h12 => ?_))))
          · refine .q (.assign rfl) (.nil (.code ?_))
            refine .tt (.skip (.code ?_))
            refine .tt (.seq (.reg (.q (.assign rfl) (.nil (.code ?_)))))
            refine .ret (.inbR (.thR (.ret1 Tryz.results58 rfl fun w1 hz => ⟨by unfold phaseOf; simp_all, hz⟩)))
          · refine .q (.assign rfl) (.nil (.code ?_))
            refine .ff (.reg (.eqS rfl rfl (fun h13 => ?_) (fun h13 => ?_)))
            · refine .q (.assign rfl) (.nil (.code ?_))
              refine .tt (.seq (.reg (.q (.assign rfl) (.nil (.code ?_)))))
              refine .ret (.inbR (.thR (.ret1 Tryz.results58 rfl fun w1 hz => ⟨by unfold phaseOf; simp_all, hz⟩)))
            · refine .q (.assign rfl) (.nil (.code ?_))
              refine .ff (.seq (.reg (.eqS rfl rfl (fun h15 => ?_) (fun h15 => ?_))))
              · refine .q (.assign rfl) (.nil (.code ?_))
                refine .tt (.seq (.reg (.q (.assign rfl) (.nil (.code ?_)))))
                refine .ret (.inbR (.thR (.ret1 Tryz.results58 rfl fun w1 hz => ⟨by unfold phaseOf; simp_all, hz⟩)))
              · refine .q (.assign rfl) (.nil (.code ?_))
                refine .ff (.skip (.inbN (.code ?_)))
                refine .seq (.reg (.q (.assign rfl) (.nil (.code ?_))))
                refine .ret (.ret1 Tryz.results58 rfl fun w1 hz => ⟨by unfold phaseOf; simp_all, hz⟩)

end Go.Proofs.YtjccenbacjhglaaGreatDoor.AU3
