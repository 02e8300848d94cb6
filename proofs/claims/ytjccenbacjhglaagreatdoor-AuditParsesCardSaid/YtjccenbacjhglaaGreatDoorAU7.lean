import Derived.Test.YtjccenbacjhglaaGreatDoorProg
import Derived.Test.YtjccenbacjhglaaGreatDoorK
import Derived.Test.YtjccenbacjhglaaGreatDoorM
import Derived.Test.YtjccenbacjhglaaGreatDoorIS
import Derived.Test.YtjccenbacjhglaaGreatDoorM2
import Derived.Test.YtjccenbacjhglaaGreatDoorPF
import Derived.Test.YtjccenbacjhglaaGreatDoorSO
import Derived.Test.YtjccenbacjhglaaGreatDoorAU
import Derived.Test.YtjccenbacjhglaaGreatDoorAU2
import Derived.Test.YtjccenbacjhglaaGreatDoorM3
import Derived.Test.YtjccenbacjhglaaGreatDoorAU3
import Derived.Test.YtjccenbacjhglaaGreatDoorAU4
import Derived.Test.YtjccenbacjhglaaGreatDoorAU5
import Derived.Test.YtjccenbacjhglaaGreatDoorAU6
set_option linter.unusedVariables false
set_option linter.unusedSimpArgs false
set_option maxRecDepth 100000
set_option maxHeartbeats 1000000
namespace Go.Proofs.YtjccenbacjhglaaGreatDoor.AU7
open Go Go.Proofs Go.RowKit Go.Proofs.YtjccenbacjhglaaGreatDoor.K Go.Proofs.YtjccenbacjhglaaGreatDoor.M Go.Proofs.YtjccenbacjhglaaGreatDoor.PF Go.Proofs.YtjccenbacjhglaaGreatDoor.SO Go.Proofs.YtjccenbacjhglaaGreatDoor.AU Go.Proofs.YtjccenbacjhglaaGreatDoor.AU2 Go.Proofs.YtjccenbacjhglaaGreatDoor.AU3 Go.Proofs.YtjccenbacjhglaaGreatDoor.AU4 Go.Proofs.YtjccenbacjhglaaGreatDoor.AU5 Go.Proofs.YtjccenbacjhglaaGreatDoor.AU6
theorem a26 : Ag Tryz.prog 26 8 := ⟨_, Tryz.underlying26, rfl, by kernel_rfl⟩
theorem f89_5 : Fld Tryz.prog 89 5 5 := ⟨_, _, Tryz.underlying89, rfl, rfl, 0, by kernel_rfl⟩
theorem f89_7 : Fld Tryz.prog 89 7 7 := ⟨_, _, Tryz.underlying89, rfl, rfl, 0, by kernel_rfl⟩
theorem fn29 : Fnc Tryz.prog 29 := ⟨by kernel_rfl⟩
theorem fn30 : Fnc Tryz.prog 30 := ⟨by kernel_rfl⟩
theorem fn31 : Fnc Tryz.prog 31 := ⟨by kernel_rfl⟩
theorem fn32 : Fnc Tryz.prog 32 := ⟨by kernel_rfl⟩
theorem mix : Tryz.prog.follows .mixedOrders = true := by kernel_rfl
theorem o3 : One Tryz.prog 3 := ⟨_, Tryz.underlying3, rfl, by kernel_rfl⟩
theorem o22 : One Tryz.prog 22 := ⟨_, Tryz.underlying22, rfl, by kernel_rfl⟩
theorem s22 : Slc Tryz.prog 22 26 8 64 [.int .i64 0, .int .i64 0, .int .i64 0, .int .i64 0, .int .u8 0, .int .i64 0, .int .i64 0, .int .i64 0] := ⟨Tryz.underlying22, by kernel_rfl, rfl⟩
theorem s36 : Slc Tryz.prog 36 35 3 32 [.string ⟨#[]⟩, .int .i64 0, .int .i64 0] := ⟨Tryz.underlying36, by kernel_rfl, rfl⟩
theorem s37 : Slc Tryz.prog 37 40 2 16 [.int .i64 0, .int .i64 0] := ⟨Tryz.underlying37, by kernel_rfl, rfl⟩
theorem s41 : Slc Tryz.prog 41 3 1 8 [.int .i64 0] := ⟨Tryz.underlying41, by kernel_rfl, rfl⟩
theorem s87 : Slc Tryz.prog 87 226 1 8 [.pointer none] := ⟨Tryz.underlying87, by kernel_rfl, rfl⟩
theorem st40 : Str Tryz.prog 40 [.int .i64 0, .int .i64 0] #[(0, 1), (1, 1)] := ⟨⟨by kernel_rfl⟩, _, Tryz.underlying40, fun w => by kernel_rfl⟩
theorem st89 : Str Tryz.prog 89 [.slice none 0 0, .int .i64 0, .slice none 0 0, .slice none 0 0, .slice none 0 0, .int .i64 0, .int .i64 0, .slice none 0 0, .int .i64 0] #[(0, 1), (1, 1), (2, 1), (3, 1), (4, 1), (5, 1), (6, 1), (7, 1), (8, 1)] := ⟨⟨by kernel_rfl⟩, _, Tryz.underlying89, fun w => by kernel_rfl⟩
theorem z26 : Zr Tryz.prog 26 [.int .i64 0, .int .i64 0, .int .i64 0, .int .i64 0, .int .u8 0, .int .i64 0, .int .i64 0, .int .i64 0] := ⟨by kernel_rfl⟩

theorem newA_I {l : List Tk} {cores : Int} (hv : validT l = true) (hn : l.length ≤ 12) (h1 : 1 ≤ cores) (h4 : cores ≤ 4) : AuI (newA l cores) 0 := by
  refine ⟨hv, hn, by simp [newA], by simp [newA], by simp [newA], Int.le_refl _, by show (0 : Int) ≤ 100001; omega, Int.le_refl _, by show (0 : Int) ≤ 5; omega, h1, h4, fun i j hj => ?_, fun i x hx => ?_, fun i x hx => ?_, fun h => ?_, fun h d hd => absurd hd (List.not_mem_nil), Int.le_refl _, by omega⟩
  · have h2 := List.mem_of_getElem? hj
    cases List.eq_of_mem_replicate h2
  · have h2 := List.eq_of_mem_replicate (List.mem_of_getElem? hx)
    subst h2; exact ⟨Int.le_refl _, Int.le_refl _⟩
  · have h2 := List.eq_of_mem_replicate (List.mem_of_getElem? hx)
    subst h2; exact ⟨Int.le_refl _, Int.le_refl _⟩
  · have h2 : (0 : Int) = 3 := h
    omega
theorem newBL {w0 we w : World} {Le : List Blk} {A J N T : Nat} {lv : Value} {l : List Tk} {cores : Int} {c : List Value} (hz : Z w0 we Le [(A, .cells c.toArray 89 (0, 0)), (J, .cells (List.replicate l.length [Value.pointer none]).flatten.toArray 226 (0, 0)), (N, .cells (List.replicate l.length [Value.int .i64 0]).flatten.toArray 3 (0, 0)), (T, .cells (List.replicate l.length [Value.int .i64 0]).flatten.toArray 3 (0, 0))] w) (hc : c = auC lv J N T l.length (newA l cores) (.slice none 0 0)) : Z w0 we Le (BL A J N T lv (.slice none 0 0) (List.replicate l.length none) [] (newA l cores)) w := by
  subst hc
  have e1 : jbs (List.replicate l.length none) = [] := by
    unfold jbs
    rw [List.filterMap_eq_nil_iff]
    intro x hx
    rw [List.eq_of_mem_replicate hx]; rfl
  rw [BL, e1, List.length_replicate]
  rw [flat_rep, flat_rep] at hz
  simp only [newA, List.map_replicate, ptrV, intV] at hz ⊢
  exact hz
/-- What Check answers. -/
def FindP (o : Option (Int × Int)) (v : Value) (L' : List Blk) : Prop := match o with
  | none => v = .slice none 0 0
  | some x => OS 40 2 v [.int .i64 x.1, .int .i64 x.2] 1 L'
theorem chk0 {l : List Tk} {cores : Int} {tr : List Ev} (h : validT l = false ∨ cores < 1 ∨ 4 < cores) : checkA l cores tr = some (0, 0) := if_pos h
theorem chk1 {l : List Tk} {cores : Int} {tr : List Ev} {x : Int × Int} (h0 : ¬ (validT l = false ∨ cores < 1 ∨ 4 < cores)) (h : (examineAll (beginA (newA l cores) 0 1) 0 tr).2 = some x) : checkA l cores tr = some x := by
  unfold checkA; rw [if_neg h0]; simp only [h]
theorem chk2 {l : List Tk} {cores : Int} (h0 : ¬ (validT l = false ∨ cores < 1 ∨ 4 < cores)) : checkA l cores [] = none := by
  unfold checkA; rw [if_neg h0]; rfl
theorem chk3 {l : List Tk} {cores : Int} {tr : List Ev} {b : Au} (h0 : ¬ (validT l = false ∨ cores < 1 ∨ 4 < cores)) (h : examineAll (beginA (newA l cores) 0 1) 0 tr = (b, none)) (hne : tr ≠ []) (h1 : 0 < (advance b b.slot 5).2) : checkA l cores tr = some ((tr.length : Int), (advance b b.slot 5).2) := by
  unfold checkA; rw [if_neg h0]; simp only [h]; rw [if_neg hne, if_pos h1]
theorem chk4 {l : List Tk} {cores : Int} {tr : List Ev} {b : Au} (h0 : ¬ (validT l = false ∨ cores < 1 ∨ 4 < cores)) (h : examineAll (beginA (newA l cores) 0 1) 0 tr = (b, none)) (hne : tr ≠ []) (h1 : ¬ 0 < (advance b b.slot 5).2) (h2 : (advance b b.slot 5).1.due ≠ []) : checkA l cores tr = some ((tr.length : Int), 7) := by
  unfold checkA; rw [if_neg h0]; simp only [h]; rw [if_neg hne, if_neg h1, if_pos h2]
theorem chk5 {l : List Tk} {cores : Int} {tr : List Ev} {b : Au} (h0 : ¬ (validT l = false ∨ cores < 1 ∨ 4 < cores)) (h : examineAll (beginA (newA l cores) 0 1) 0 tr = (b, none)) (hne : tr ≠ []) (h1 : ¬ 0 < (advance b b.slot 5).2) (h2 : (advance b b.slot 5).1.due = []) : checkA l cores tr = none := by
  unfold checkA; rw [if_neg h0]; simp only [h]; rw [if_neg hne, if_neg h1, if_neg (by rw [h2]; simp)]
theorem findOS {b : Nat} {x y : Int} {L : List Blk} : OS 40 2 (.slice (some ⟨b, 0, none⟩) 1 1) [.int .i64 x, .int .i64 y] 1 [(b, .cells [Value.int .i64 x, .int .i64 y].toArray 40 (0, 0))] :=
  ⟨rfl, .inr ⟨b, 1, _, rfl, rfl, Nat.le_refl _, by decide, rfl, rfl⟩⟩


theorem examine_nn {a : Au} {K : Int} {e : Ev} (h : AuI a K) (hph : 1 ≤ a.phase) : 0 ≤ (examine a e).2 := by
  have hpb := phaseOf_bd e.k
  by_cases h1 : e.s < a.slot ∨ 100000 < e.s ∨ (e.s = a.slot ∧ 0 < phaseOf e.k ∧ phaseOf e.k < a.phase)
  · rw [ex1 h1]; show (0 : Int) ≤ 1; omega
  by_cases h2 : phaseOf e.k = 0 ∨ e.t < 0 ∨ (a.l.length : Int) ≤ e.t
  · rw [ex2 h1 h2]; show (0 : Int) ≤ 2; omega
  by_cases h3 : 0 < (advance a e.s (phaseOf e.k)).2
  · rw [ex3 h1 h2 h3]; omega
  cases h4 : accept (phaseOf e.k) (advance a e.s (phaseOf e.k)).1 e with
  | none => rw [ex4 h1 h2 h3 h4]; simp only; omega
  | some b => rw [ex5 h1 h2 h3 h4]; exact Int.le_refl 0

theorem check_calls (w : World) (lv tr0 : Value) (l : List Tk) (cores : Int) (tr : List Ev) (hl : Rd encT 3 w lv l) (ht : Rd encE 8 w tr0 tr) (h12 : l.length ≤ 12) (hlen : tr.length ≤ 1000000) : Calls Tryz.prog 14 #[lv, .int .i64 cores, tr0] w fun r w' => ∃ v L', r = .returned v ∧ Z w w [] L' w' ∧ FindP (checkA l cores tr) v L' := by
  obtain ⟨lA, lc, rfl⟩ : ∃ A c, lv = .slice A l.length c := by obtain ⟨A, c, h, _⟩ := hl; exact ⟨A, c, h⟩
  obtain ⟨tA, tc, rfl⟩ : ∃ A c, tr0 = .slice A tr.length c := by obtain ⟨A, c, h, _⟩ := ht; exact ⟨A, c, h⟩
  refine enter (args := [_, _, _]) Tryz.func14 rfl rfl rfl (C := Z w w [] []) (Z.start (H.nil w)) ?_
  refine .seq (.reg (.q (.assign rfl) (.nil (.code ?_))))
  refine .seq (.seq (.reg (.q (.move rfl) (?_))))
  rcases hv : validT l with _ | _
  · refine .q (.call (v := .bool false) fn29 rfl (fun w hz => by rw [← hv]; exact valid_calls w _ l (hl.below hz.h.below))) (.q (.notB rfl) (.q (.move rfl) (.skip (.skip (.q (.pickT rfl rfl) (.q (.move rfl) (.skip (.skip (.q (.pickT rfl rfl) (.nil (.code ?_)))))))))))
    refine .tt (.seq (.reg (.q (.build st40 rfl rfl) (.bslice s37 rfl rfl rfl fun b24 => .q (.assign rfl) (.nil (.code ?_))))))
    refine .ret (.thR (.ret1 Tryz.results14 rfl fun w1 hz => ⟨_, [_], rfl, hz.sublist (.cons_cons _ (List.nil_sublist _)), by rw [chk0 (by first | exact .inl hv | omega)]; exact findOS (L := [])⟩))
  · refine .q (.call (v := .bool true) fn29 rfl (fun w hz => by rw [← hv]; exact valid_calls w _ l (hl.below hz.h.below))) (.q (.notB rfl) (.q (.move rfl) (.q (.move rfl) (.ltS rfl rfl (fun h17 => ?_) (fun h17 => ?_)))))
    · refine .q (.pickF rfl rfl) (.q (.move rfl) (.skip (.skip (.q (.pickT rfl rfl) (.nil (.code ?_))))))
      refine .tt (.seq (.reg (.q (.build st40 rfl rfl) (.bslice s37 rfl rfl rfl fun b24 => .q (.assign rfl) (.nil (.code ?_))))))
      refine .ret (.thR (.ret1 Tryz.results14 rfl fun w1 hz => ⟨_, [_], rfl, hz.sublist (.cons_cons _ (List.nil_sublist _)), by rw [chk0 (by first | exact .inl hv | omega)]; exact findOS (L := [])⟩))
    · refine .q (.pickF rfl rfl) (.q (.move rfl) (.q (.move rfl) (.gtS rfl rfl (fun h21 => ?_) (fun h21 => ?_))))
      · refine .q (.pickF rfl rfl) (.nil (.code ?_))
        refine .tt (.seq (.reg (.q (.build st40 rfl rfl) (.bslice s37 rfl rfl rfl fun b24 => .q (.assign rfl) (.nil (.code ?_))))))
        refine .ret (.thR (.ret1 Tryz.results14 rfl fun w1 hz => ⟨_, [_], rfl, hz.sublist (.cons_cons _ (List.nil_sublist _)), by rw [chk0 (by first | exact .inl hv | omega)]; exact findOS (L := [])⟩))
      · refine .q (.pickF rfl rfl) (.nil (.code ?_))
        refine .ff (.skip (.code ?_))
        refine .ct (fun x : Nat × Nat × Nat × Nat => [(0, .slice lA l.length lc), (2, .slice tA tr.length tc), (7, .pointer (some ⟨x.1, 0, none⟩))]) (fun x => BL x.1 x.2.1 x.2.2.1 x.2.2.2 (.slice lA l.length lc) (.slice none 0 0) (List.replicate l.length none) [] (newA l cores)) (fun _ => True) ?_ ?_
        · refine .drawS (F := Z w w [] []) mix [] [] [0, 1, 2, 3, 5, 6, 8, 9] (.tri 4 (.two 7 (.one 10 (.one 11 (.one 12 (.one 13 .nil)))) 10 (.one 7 (.one 11 (.one 12 (.one 13 .nil))))) 7 (.two 4 (.one 10 (.one 11 (.one 12 (.one 13 .nil)))) 10 (.one 4 (.one 11 (.one 12 (.one 13 .nil))))) 10 (.two 4 (.one 7 (.one 11 (.one 12 (.one 13 .nil)))) 7 (.one 4 (.one 11 (.one 12 (.one 13 .nil)))))) (by kernel_rfl) (fun _ h => h.drew) (fun _ h => h.sublist (List.nil_sublist _)) (.toS (.q (.move rfl) (.q (.move rfl) (.q (.move rfl) (.q (.lenS s36.t rfl) (.q (.move rfl) (.q (.lenS s36.t rfl) (.q (.move rfl) (.q (.lenS s36.t rfl) (.toT (.all3 ?_ ?_ ?_)))))))))))
          · refine .step rfl (.mk s87 rfl rfl (by omega) (by omega) (by omega) fun b29 => (.nil (.tk (fun _ h => h.sublist (List.nil_sublist _)) (.both ?_ ?_))))
            · refine .step rfl (.mk s41 rfl rfl (by omega) (by omega) (by omega) fun b32 => (.nil (.tk (fun _ h => h.sublist (List.nil_sublist _)) (.step rfl (.mk s41 rfl rfl (by omega) (by omega) (by omega) fun b35 => (.nil (.tk (fun _ h => h.sublist (List.nil_sublist _)) (.step rfl (.q (.build st89 rfl rfl) (.nil (.tk (fun _ h => h.sublist (List.nil_sublist _)) (.step rfl (.box rfl fun b37 => .nil (.tk (fun _ h => h.sublist (List.nil_sublist _)) (.step rfl (.q (.assign rfl) (.nil (.tk (fun _ h => h.sublist (List.nil_sublist _)) (.nil (.ot (b37, b29, b32, b35) ⟨rfl, rfl, rfl, trivial⟩ (fun _ h => newBL (h.perm ((((List.Perm.swap _ _ _).cons _).trans (((List.Perm.swap _ _ _).cons _).cons _)).trans ((List.Perm.swap _ _ _).cons _))) rfl) trivial))))))))))))))))))))
            · refine .step rfl (.mk s41 rfl rfl (by omega) (by omega) (by omega) fun b35 => (.nil (.tk (fun _ h => h.sublist (List.nil_sublist _)) (.step rfl (.mk s41 rfl rfl (by omega) (by omega) (by omega) fun b32 => (.nil (.tk (fun _ h => h.sublist (List.nil_sublist _)) (.step rfl (.q (.build st89 rfl rfl) (.nil (.tk (fun _ h => h.sublist (List.nil_sublist _)) (.step rfl (.box rfl fun b37 => .nil (.tk (fun _ h => h.sublist (List.nil_sublist _)) (.step rfl (.q (.assign rfl) (.nil (.tk (fun _ h => h.sublist (List.nil_sublist _)) (.nil (.ot (b37, b29, b32, b35) ⟨rfl, rfl, rfl, trivial⟩ (fun _ h => newBL (h.perm ((((List.Perm.swap _ _ _).cons _).cons _).trans ((List.Perm.swap _ _ _).cons _))) rfl) trivial))))))))))))))))))))
          · refine .step rfl (.mk s41 rfl rfl (by omega) (by omega) (by omega) fun b32 => (.nil (.tk (fun _ h => h.sublist (List.nil_sublist _)) (.both ?_ ?_))))
            · refine .step rfl (.mk s87 rfl rfl (by omega) (by omega) (by omega) fun b29 => (.nil (.tk (fun _ h => h.sublist (List.nil_sublist _)) (.step rfl (.mk s41 rfl rfl (by omega) (by omega) (by omega) fun b35 => (.nil (.tk (fun _ h => h.sublist (List.nil_sublist _)) (.step rfl (.q (.build st89 rfl rfl) (.nil (.tk (fun _ h => h.sublist (List.nil_sublist _)) (.step rfl (.box rfl fun b37 => .nil (.tk (fun _ h => h.sublist (List.nil_sublist _)) (.step rfl (.q (.assign rfl) (.nil (.tk (fun _ h => h.sublist (List.nil_sublist _)) (.nil (.ot (b37, b29, b32, b35) ⟨rfl, rfl, rfl, trivial⟩ (fun _ h => newBL (h.perm (((List.Perm.swap _ _ _).cons _).trans (((List.Perm.swap _ _ _).cons _).cons _))) rfl) trivial))))))))))))))))))))
            · refine .step rfl (.mk s41 rfl rfl (by omega) (by omega) (by omega) fun b35 => (.nil (.tk (fun _ h => h.sublist (List.nil_sublist _)) (.step rfl (.mk s87 rfl rfl (by omega) (by omega) (by omega) fun b29 => (.nil (.tk (fun _ h => h.sublist (List.nil_sublist _)) (.step rfl (.q (.build st89 rfl rfl) (.nil (.tk (fun _ h => h.sublist (List.nil_sublist _)) (.step rfl (.box rfl fun b37 => .nil (.tk (fun _ h => h.sublist (List.nil_sublist _)) (.step rfl (.q (.assign rfl) (.nil (.tk (fun _ h => h.sublist (List.nil_sublist _)) (.nil (.ot (b37, b29, b32, b35) ⟨rfl, rfl, rfl, trivial⟩ (fun _ h => newBL (h.perm (((List.Perm.swap _ _ _).cons _).cons _)) rfl) trivial))))))))))))))))))))
          · refine .step rfl (.mk s41 rfl rfl (by omega) (by omega) (by omega) fun b35 => (.nil (.tk (fun _ h => h.sublist (List.nil_sublist _)) (.both ?_ ?_))))
            · refine .step rfl (.mk s87 rfl rfl (by omega) (by omega) (by omega) fun b29 => (.nil (.tk (fun _ h => h.sublist (List.nil_sublist _)) (.step rfl (.mk s41 rfl rfl (by omega) (by omega) (by omega) fun b32 => (.nil (.tk (fun _ h => h.sublist (List.nil_sublist _)) (.step rfl (.q (.build st89 rfl rfl) (.nil (.tk (fun _ h => h.sublist (List.nil_sublist _)) (.step rfl (.box rfl fun b37 => .nil (.tk (fun _ h => h.sublist (List.nil_sublist _)) (.step rfl (.q (.assign rfl) (.nil (.tk (fun _ h => h.sublist (List.nil_sublist _)) (.nil (.ot (b37, b29, b32, b35) ⟨rfl, rfl, rfl, trivial⟩ (fun _ h => newBL (h.perm ((List.Perm.swap _ _ _).cons _)) rfl) trivial))))))))))))))))))))
            · refine .step rfl (.mk s41 rfl rfl (by omega) (by omega) (by omega) fun b32 => (.nil (.tk (fun _ h => h.sublist (List.nil_sublist _)) (.step rfl (.mk s87 rfl rfl (by omega) (by omega) (by omega) fun b29 => (.nil (.tk (fun _ h => h.sublist (List.nil_sublist _)) (.step rfl (.q (.build st89 rfl rfl) (.nil (.tk (fun _ h => h.sublist (List.nil_sublist _)) (.step rfl (.box rfl fun b37 => .nil (.tk (fun _ h => h.sublist (List.nil_sublist _)) (.step rfl (.q (.assign rfl) (.nil (.tk (fun _ h => h.sublist (List.nil_sublist _)) (.nil (.ot (b37, b29, b32, b35) ⟨rfl, rfl, rfl, trivial⟩ (fun _ h => newBL h rfl) trivial))))))))))))))))))))
        rintro ⟨A, J, N, T⟩ _
        show WC _ _ _ _ (Z w w _ (BL A J N T (.slice lA l.length lc) (.slice none 0 0) (List.replicate l.length none) [] (newA l cores))) _
        have hnI := newA_I hv h12 (show 1 ≤ cores by omega) (show cores ≤ 4 by omega)
        refine .seq (.reg (.q (.move rfl) (.callM (Lm := BL A J N T (.slice lA l.length lc) (.slice none 0 0) (List.replicate l.length none) [] (newA l cores)) (Lr := []) (Post := fun _ L' => St A J N T (.slice lA l.length lc) (beginA (newA l cores) 0 1) L') fn30 rfl (pkN _) (fun w1 hH => begin_calls w w1 A J N T _ _ _ _ _ 0 0 1 hH hl (by simp [newA]) hnI (Int.le_refl _) (by omega) (by omega) (by omega)) fun v39 L39 p39 => (.nil (.code ?_)))))
        refine .seq (.seq (.reg (.q (.move rfl) (.q (.lenS s22.t rfl) (.q (.move rfl) (.nil (.code ?_)))))))
        refine .block (.lp (fun s : Nat × Au × List Blk => [(0, .slice lA l.length lc), (2, .slice tA tr.length tc), (7, .pointer (some ⟨A, 0, none⟩)), (40, .slice tA tr.length tc), (41, .int .i64 (tr.length : Int)), (42, .int .i64 (s.1 : Int))]) (fun s => s.2.2) (fun s => s.1 ≤ tr.length ∧ St A J N T (.slice lA l.length lc) s.2.1 s.2.2 ∧ AuI s.2.1 (s.1 : Int) ∧ 1 ≤ s.2.1.phase ∧ s.2.1.l = l ∧ examineAll (beginA (newA l cores) 0 1) 0 tr = examineAll s.2.1 s.1 (tr.drop s.1)) (fun s => tr.length - s.1) (0, beginA (newA l cores) 0 1, L39) ⟨rfl, rfl, rfl, rfl, rfl, rfl, trivial⟩ (fun _ h => by rw [List.append_nil] at h; exact h) ⟨Nat.zero_le _, p39, beginA_I hnI (Int.le_refl _) (by omega) (Int.le_refl _) (by omega), Int.le_refl 1, rfl, rfl⟩ fun ⟨i, b, Lb⟩ hk => ?_)
        obtain ⟨hk1, hk2, hk3, hk4, hk5, hk6⟩ := hk
        simp only at hk1 hk2 hk3 hk4 hk5 hk6
        show WC _ _ _ _ (Z w w _ Lb) _
        refine .seq (.reg (.ltS rfl rfl (fun h43 => ?_) (fun h43 => ?_)))
        · have hi : i < tr.length := by omega
          obtain ⟨tb, toff, tc2, hte, hrd⟩ := Rd.at ht hi
          cases hte
          have hex : (examine b tr[i]).2 = 0 → _ := examine_I hk3 (by omega) hk4
          have hex0 : 0 ≤ (examine b tr[i]).2 := examine_nn hk3 hk4
          refine .nil (.code ?_)
          refine .seq (.tt (.skip (.code ?_)))
          refine .seq (.block (.seq (.reg (.q (.move rfl) (.q (.ix s22 rfl rfl (by omega)) (.q (.ldWA a26 (cs := encE tr[i]) rfl rfl fun j hj => hrd j hj) (.alloc z26 fun b9 => .q (.assign rfl) (.stA a26 0 rfl rfl rfl rfl rfl rfl (.nil (.code ?_))))))))))
          refine .seq (.reg (.q (.move rfl) (.q (.ldOA (cs := encE tr[i]) a26 0 rfl rfl rfl rfl) (.callM (Lm := Lb) (Lr := [_]) fn31 rfl (List.perm_append_singleton _ _).symm (fun w1 hH => examine_calls w w1 A J N T _ b (i : Int) Lb hk2 hH (hk5 ▸ hl) hk3 tr[i] hk4) fun v49 L49 p49 => (?_)))))
          obtain ⟨rfl, p49⟩ := p49
          have p49 : (examine b tr[i]).2 = 0 → St A J N T (.slice lA l.length lc) (examine b tr[i]).1 L49 := p49
          refine .q (.assign rfl) (.nil (.code ?_))
          refine .seq (.reg (.q (.move rfl) (.gtS rfl rfl (fun h51 => ?_) (fun h51 => ?_))))
          · refine .nil (.code ?_)
            refine .tt (.seq (.reg (.q (.move rfl) (.q (.move rfl) (.q (.build st40 rfl rfl) (.bslice s37 rfl rfl rfl fun b55 => .q (.assign rfl) (.nil (.code ?_))))))))
            refine .ret (.inbR (.thR (.thR (.inbR (.thR (.ret1 Tryz.results14 rfl fun w1 hz => ⟨_, [_], rfl, hz.sublist (.cons_cons _ (List.nil_sublist _)), by rw [chk1 (x := ((i : Int), (examine b tr[i]).2)) (show ¬ (validT l = false ∨ cores < 1 ∨ 4 < cores) by rw [hv]; simp; omega) (by rw [hk6, drop_cons hi, examineAll, if_pos (by omega)])]; exact findOS (L := [])⟩))))))
          · have hex := hex (by have := hex0; omega)
            refine .nil (.code ?_)
            refine .ff (.skip (.inbN (.code ?_)))
            refine .reg (.q (.add rfl rfl (IntWalk.i64_in _ (by omega))) (.q (.move rfl) (.nil (.rd (i + 1, (examine b tr[i]).1, L49) ⟨rfl, rfl, rfl, rfl, rfl, rfl, trivial⟩ (fun _ h => h.sublist (List.sublist_append_left _ _)) ⟨by simp only; omega, p49 (by omega), by rw [show ((i + 1 : Nat) : Int) = (i : Int) + 1 by omega]; exact hex.1, hex.2.2, hex.2.1.trans hk5, by rw [hk6, drop_cons hi, examineAll, if_neg (by omega)]⟩ (by simp only; omega)))))
        · refine .nil (.code ?_)
          refine .seq (.ff (.exit (.thE (.thE (.inbX (.code ?_))))))
          refine .seq (.seq (.reg (.q (.move rfl) (.q (.lenS s22.t rfl) (.eqS rfl rfl (fun h59 => ?_) (fun h59 => ?_))))))
          · refine .nil (.code ?_)
            refine .tt (.seq (.reg (.q (.assign rfl) (.nil (.code ?_)))))
            refine .ret (.thR (.ret1 Tryz.results14 rfl fun w1 hz => ⟨_, _, rfl, hz, by rw [show checkA l cores tr = none by
        have e : tr = [] := List.eq_nil_of_length_eq_zero (by omega)
        subst e; exact chk2 (show ¬ (validT l = false ∨ cores < 1 ∨ 4 < cores) by rw [hv]; simp; omega)]; rfl⟩))
          · refine .nil (.code ?_)
            refine .ff (.skip (.code ?_))
            refine .seq (.seq (.reg (?_)))
            have hie : i = tr.length := by omega
            have hne : tr ≠ [] := fun e => by rw [e] at h59; simp at h59
            have hall : examineAll (beginA (newA l cores) 0 1) 0 tr = (b, none) := by rw [hk6, List.drop_of_length_le (by omega), examineAll]
            have hb5 := hk3.p1
            have hbs := hk3.s1
            obtain ⟨dv, ps, Ld, rfl, hD, hjs⟩ := hk2
            have hnn := (adv_I (s := b.slot) (p := 5) (by omega) (by omega) (by omega) (advM b b.slot) b _ hk3 hk4 (Int.le_refl _) (fun _ => hb5) rfl).2.2.2.1
            refine .q (.move rfl) (.q (.move rfl) (.q (.nilP rfl) (.q (.fld f89_5 rfl) (.q (.ldO o3 0 rfl rfl rfl) (.callM (Lm := BL A J N T (.slice lA l.length lc) dv ps Ld b) (Lr := []) fn32 rfl (pkN _) (fun w1 hH => advance_calls w w1 A J N T _ b (i : Int) _ ⟨dv, ps, Ld, rfl, hD, hjs⟩ b.slot 5 (Int.le_refl _) hbs (by omega) (by omega) hk4 hH (hk5 ▸ hl) hk3) fun v65 L65 p65 => (?_))))))
            obtain ⟨rfl, dv6, ps6, Ld6, rfl, hD6, hjs6⟩ := p65
            obtain ⟨dA, dc, rfl, hdc, _⟩ := hD6
            refine .world ?_ (fun _ h => by rw [List.append_nil] at h; exact h)
            refine .q (.assign rfl) (.nil (.code ?_))
            refine .seq (.reg (.q (.move rfl) (.gtS rfl rfl (fun h67 => ?_) (fun h67 => ?_))))
            · refine .nil (.code ?_)
              refine .tt (.seq (.reg (.q (.move rfl) (.q (.lenS s22.t rfl) (.q (.move rfl) (.q (.build st40 rfl rfl) (.bslice s37 rfl rfl rfl fun b72 => .q (.assign rfl) (.nil (.code ?_)))))))))
              refine .ret (.thR (.ret1 Tryz.results14 rfl fun w1 hz => ⟨_, [_], rfl, hz.sublist (.cons_cons _ (List.nil_sublist _)), by rw [chk3 (show ¬ (validT l = false ∨ cores < 1 ∨ 4 < cores) by rw [hv]; simp; omega) hall hne (by omega)]; exact findOS (L := [])⟩))
            · refine .nil (.code ?_)
              refine .ff (.skip (.code ?_))
              refine .seq (.seq (.reg (.q (.move rfl) (.q (.nilP rfl) (.q (.fld f89_7 rfl) (.q (.ldO o22 0 rfl rfl rfl) (.q (.lenS s22.t rfl) (.gtS rfl rfl (fun h78 => ?_) (fun h78 => ?_)))))))))
              · refine .nil (.code ?_)
                refine .tt (.seq (.reg (.q (.move rfl) (.q (.lenS s22.t rfl) (.q (.build st40 rfl rfl) (.bslice s37 rfl rfl rfl fun b82 => .q (.assign rfl) (.nil (.code ?_))))))))
                refine .ret (.thR (.ret1 Tryz.results14 rfl fun w1 hz => ⟨_, [_], rfl, hz.sublist (.cons_cons _ (List.nil_sublist _)), by rw [chk4 (show ¬ (validT l = false ∨ cores < 1 ∨ 4 < cores) by rw [hv]; simp; omega) hall hne (by omega) (fun e => by rw [e] at h78; simp at h78)]; exact findOS (L := [])⟩))
              · refine .nil (.code ?_)
                refine .ff (.skip (.code ?_))
                refine .seq (.reg (.q (.assign rfl) (.nil (.code ?_))))
                refine .ret (.ret1 Tryz.results14 rfl fun w1 hz => ⟨_, _, rfl, hz, by rw [chk5 (show ¬ (validT l = false ∨ cores < 1 ∨ 4 < cores) by rw [hv]; simp; omega) hall hne (by omega) (List.eq_nil_of_length_eq_zero (by omega))]; rfl⟩)

end Go.Proofs.YtjccenbacjhglaaGreatDoor.AU7
