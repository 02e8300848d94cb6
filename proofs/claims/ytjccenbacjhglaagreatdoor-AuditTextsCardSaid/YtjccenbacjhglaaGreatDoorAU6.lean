import Derived.Test.YtjccenbacjhglaaGreatDoorProg
import Derived.Test.YtjccenbacjhglaaGreatDoorK
import Derived.Test.YtjccenbacjhglaaGreatDoorM
import Derived.Test.YtjccenbacjhglaaGreatDoorIS
import Derived.Test.YtjccenbacjhglaaGreatDoorM2
import Derived.Test.YtjccenbacjhglaaGreatDoorPF
import Derived.Test.YtjccenbacjhglaaGreatDoorSO
import Derived.Test.YtjccenbacjhglaaGreatDoorAU
import Derived.Test.YtjccenbacjhglaaGreatDoorAU2
import Derived.Test.YtjccenbacjhglaaGreatDoorM3
import Derived.Test.YtjccenbacjhglaaGreatDoorAU3
import Derived.Test.YtjccenbacjhglaaGreatDoorAU4
import Derived.Test.YtjccenbacjhglaaGreatDoorAU5
set_option linter.unusedVariables false
set_option linter.unusedSimpArgs false
set_option maxRecDepth 100000
set_option maxHeartbeats 1000000
namespace Go.Proofs.YtjccenbacjhglaaGreatDoor.AU6
open Go Go.Proofs Go.RowKit Go.Proofs.YtjccenbacjhglaaGreatDoor.K Go.Proofs.YtjccenbacjhglaaGreatDoor.M Go.Proofs.YtjccenbacjhglaaGreatDoor.PF Go.Proofs.YtjccenbacjhglaaGreatDoor.SO Go.Proofs.YtjccenbacjhglaaGreatDoor.AU Go.Proofs.YtjccenbacjhglaaGreatDoor.AU2 Go.Proofs.YtjccenbacjhglaaGreatDoor.AU3 Go.Proofs.YtjccenbacjhglaaGreatDoor.AU4 Go.Proofs.YtjccenbacjhglaaGreatDoor.AU5
theorem a26 : Ag Tryz.prog 26 8 := ⟨_, Tryz.underlying26, rfl, by kernel_rfl⟩
theorem a134 : Ag Tryz.prog 134 2 := ⟨_, Tryz.underlying134, rfl, by kernel_rfl⟩
theorem f26_0 : Fld Tryz.prog 26 0 0 := ⟨_, _, Tryz.underlying26, rfl, rfl, 0, by kernel_rfl⟩
theorem f26_2 : Fld Tryz.prog 26 2 2 := ⟨_, _, Tryz.underlying26, rfl, rfl, 0, by kernel_rfl⟩
theorem f26_4 : Fld Tryz.prog 26 4 4 := ⟨_, _, Tryz.underlying26, rfl, rfl, 0, by kernel_rfl⟩
theorem f89_0 : Fld Tryz.prog 89 0 0 := ⟨_, _, Tryz.underlying89, rfl, rfl, 0, by kernel_rfl⟩
theorem f89_5 : Fld Tryz.prog 89 5 5 := ⟨_, _, Tryz.underlying89, rfl, rfl, 0, by kernel_rfl⟩
theorem f89_6 : Fld Tryz.prog 89 6 6 := ⟨_, _, Tryz.underlying89, rfl, rfl, 0, by kernel_rfl⟩
theorem fn32 : Fnc Tryz.prog 32 := ⟨by kernel_rfl⟩
theorem fn57 : Fnc Tryz.prog 57 := ⟨by kernel_rfl⟩
theorem fn58 : Fnc Tryz.prog 58 := ⟨by kernel_rfl⟩
theorem fn84 : Fnc Tryz.prog 84 := ⟨by kernel_rfl⟩
theorem fn85 : Fnc Tryz.prog 85 := ⟨by kernel_rfl⟩
theorem fn87 : Fnc Tryz.prog 87 := ⟨by kernel_rfl⟩
theorem ft132 : Fty Tryz.prog 132 := ⟨_, _, _, Tryz.underlying132⟩
theorem mix : Tryz.prog.follows .mixedOrders = true := by kernel_rfl
theorem o3 : One Tryz.prog 3 := ⟨_, Tryz.underlying3, rfl, by kernel_rfl⟩
theorem o5 : One Tryz.prog 5 := ⟨_, Tryz.underlying5, rfl, by kernel_rfl⟩
theorem o36 : One Tryz.prog 36 := ⟨_, Tryz.underlying36, rfl, by kernel_rfl⟩
theorem s36 : Slc Tryz.prog 36 35 3 32 [.string ⟨#[]⟩, .int .i64 0, .int .i64 0] := ⟨Tryz.underlying36, by kernel_rfl, rfl⟩

theorem phaseOf_bd (k : Int) : 0 ≤ phaseOf k ∧ phaseOf k ≤ 5 := by
  unfold phaseOf
  repeat' split
  all_goals omega
theorem ex1 {a : Au} {e : Ev} (h : e.s < a.slot ∨ 100000 < e.s ∨ (e.s = a.slot ∧ 0 < phaseOf e.k ∧ phaseOf e.k < a.phase)) : examine a e = (a, 1) := if_pos h
theorem ex2 {a : Au} {e : Ev} (h1 : ¬ (e.s < a.slot ∨ 100000 < e.s ∨ (e.s = a.slot ∧ 0 < phaseOf e.k ∧ phaseOf e.k < a.phase))) (h : phaseOf e.k = 0 ∨ e.t < 0 ∨ (a.l.length : Int) ≤ e.t) : examine a e = (a, 2) := (if_neg h1).trans (if_pos h)
theorem ex3 {a : Au} {e : Ev} (h1 : ¬ (e.s < a.slot ∨ 100000 < e.s ∨ (e.s = a.slot ∧ 0 < phaseOf e.k ∧ phaseOf e.k < a.phase))) (h2 : ¬ (phaseOf e.k = 0 ∨ e.t < 0 ∨ (a.l.length : Int) ≤ e.t)) (h : 0 < (advance a e.s (phaseOf e.k)).2) : examine a e = advance a e.s (phaseOf e.k) := (if_neg h1).trans ((if_neg h2).trans (if_pos h))
theorem ex4 {a : Au} {e : Ev} (h1 : ¬ (e.s < a.slot ∨ 100000 < e.s ∨ (e.s = a.slot ∧ 0 < phaseOf e.k ∧ phaseOf e.k < a.phase))) (h2 : ¬ (phaseOf e.k = 0 ∨ e.t < 0 ∨ (a.l.length : Int) ≤ e.t)) (h3 : ¬ 0 < (advance a e.s (phaseOf e.k)).2) (h : accept (phaseOf e.k) (advance a e.s (phaseOf e.k)).1 e = none) : examine a e = ((advance a e.s (phaseOf e.k)).1, phaseOf e.k + 2) := (if_neg h1).trans ((if_neg h2).trans ((if_neg h3).trans (by rw [h])))
theorem ex5 {a b : Au} {e : Ev} (h1 : ¬ (e.s < a.slot ∨ 100000 < e.s ∨ (e.s = a.slot ∧ 0 < phaseOf e.k ∧ phaseOf e.k < a.phase))) (h2 : ¬ (phaseOf e.k = 0 ∨ e.t < 0 ∨ (a.l.length : Int) ≤ e.t)) (h3 : ¬ 0 < (advance a e.s (phaseOf e.k)).2) (h : accept (phaseOf e.k) (advance a e.s (phaseOf e.k)).1 e = some b) : examine a e = (b, 0) := (if_neg h1).trans ((if_neg h2).trans ((if_neg h3).trans (by rw [h])))
theorem examine_I {a : Au} {K : Int} {e : Ev} (h : AuI a K) (hk : K + 1 ≤ 1000000000000000) (hph : 1 ≤ a.phase) (h0 : (examine a e).2 = 0) : AuI (examine a e).1 (K + 1) ∧ (examine a e).1.l = a.l ∧ 1 ≤ (examine a e).1.phase := by
  have hpb := phaseOf_bd e.k
  by_cases h1 : e.s < a.slot ∨ 100000 < e.s ∨ (e.s = a.slot ∧ 0 < phaseOf e.k ∧ phaseOf e.k < a.phase)
  · rw [ex1 h1] at h0; cases h0
  by_cases h2 : phaseOf e.k = 0 ∨ e.t < 0 ∨ (a.l.length : Int) ≤ e.t
  · rw [ex2 h1 h2] at h0; cases h0
  obtain ⟨c1, c2, c3, c4, c5, c6⟩ := adv_I (s := e.s) (p := phaseOf e.k) (by omega) hpb.2 (by omega) (advM a e.s) a K h hph (by omega) (by omega) rfl
  have c1 : AuI (advance a e.s (phaseOf e.k)).1 K := c1
  have c2 : (advance a e.s (phaseOf e.k)).1.l = a.l := c2
  have c3 : (advance a e.s (phaseOf e.k)).2 = 0 → (advance a e.s (phaseOf e.k)).1.slot = e.s ∧ (advance a e.s (phaseOf e.k)).1.phase = phaseOf e.k := c3
  have c4 : 0 ≤ (advance a e.s (phaseOf e.k)).2 := c4
  by_cases h3 : 0 < (advance a e.s (phaseOf e.k)).2
  · rw [ex3 h1 h2 h3] at h0; omega
  cases h4 : accept (phaseOf e.k) (advance a e.s (phaseOf e.k)).1 e with
  | none => rw [ex4 h1 h2 h3 h4] at h0; simp only at h0; omega
  | some b =>
    rw [ex5 h1 h2 h3 h4]
    obtain ⟨d1, d2⟩ := c3 (by omega)
    have hnj := c1.nj
    rw [c2] at hnj
    obtain ⟨e1, e2, e3, e4⟩ := accept_I c1 hk (by omega) d2 h4
    exact ⟨e1, e2.trans c2, by simp only; omega⟩

theorem examine_calls (w0 w : World) (A J N T : Nat) (lv : Value) (a : Au) (K : Int) (L0 : List Blk) (hS : St A J N T lv a L0)  (hH : H w0 w L0) (hl : Rd encT 3 w0 lv a.l) (hI : AuI a K) (e : Ev) (hph : 1 ≤ a.phase) : Calls Tryz.prog 31 #[.pointer (some ⟨A, 0, none⟩), .agg (encE e).toArray] w fun r w' => ∃ v L', r = .returned v ∧ Z w0 w L0 L' w' ∧ (v = .int .i64 (examine a e).2 ∧ ((examine a e).2 = 0 → St A J N T lv (examine a e).1 L')) := by
  obtain ⟨dv, ps, Ld, rfl, hD, hjs⟩ := hS
  obtain ⟨q1, q2, q3, q4, q5, q6⟩ := And.intro hI.s0 (And.intro hI.s1 (And.intro hI.c0 (And.intro hI.c1 (And.intro hI.k0 hI.k1))))
  have hpb := phaseOf_bd e.k
  obtain ⟨lA, lc, hlv⟩ : ∃ A c, lv = .slice A a.l.length c := by obtain ⟨A, c, h, _⟩ := hl; exact ⟨A, c, h⟩
  refine enter (args := [_, _]) Tryz.func31 rfl rfl rfl (C := Z w0 w (BL A J N T lv dv ps Ld a) (BL A J N T lv dv ps Ld a)) (Z.start hH) ?_
  refine .seq (.reg (.box rfl fun b3 => .q (.assign rfl) (.nil (.code ?_))))
  refine .seq (.reg (.q (.fld f26_4 rfl) (.q (.ldO o5 0 rfl rfl rfl) (.q (.call fn58 rfl (fun w hz => phaseOf_calls w e.k)) (.q (.assign rfl) (.nil (.code ?_)))))))
  refine .seq (.block (.seq (.draw mix (by kernel_rfl) (fun _ h => h.drew) (.q (.fld f26_0 rfl) (.q (.ldO o3 0 rfl rfl rfl) (.q (.move rfl) (.q (.nilP rfl) (.q (.fld f89_5 rfl) (.q (.ldO o3 1 rfl rfl rfl) (.ltS rfl rfl (fun h17 => ?_) (fun h17 => ?_)))))))))))
  · refine .q (.move rfl) (.skip (.skip (.skip (.q (.pickT rfl rfl) (.q (.move rfl) (.skip (.skip (.skip (.skip (.skip (.skip (.skip (.skip (.skip (.skip (.skip (.skip (.skip (.skip (.skip (.skip (.skip (.skip (.skip (.q (.pickT rfl rfl) (.q (.assign rfl) (.nil (.code ?_))))))))))))))))))))))))))))
    refine .tt (.seq (.reg (.q (.assign rfl) (.nil (.code ?_)))))
    refine .ret (.inbR (.thR (.ret1 Tryz.results31 rfl fun w1 hz => ⟨_, _, rfl, hz, by rw [ex1 (by omega)]; exact ⟨rfl, fun h => by cases h⟩⟩)))
  · refine .q (.move rfl) (.q (.fld f26_0 rfl) (.q (.ldO o3 0 rfl rfl rfl) (.gtS rfl rfl (fun h21 => ?_) (fun h21 => ?_))))
    · refine .q (.pickF rfl rfl) (.q (.move rfl) (.skip (.skip (.skip (.skip (.skip (.skip (.skip (.skip (.skip (.skip (.skip (.skip (.skip (.skip (.skip (.skip (.skip (.skip (.skip (.q (.pickT rfl rfl) (.q (.assign rfl) (.nil (.code ?_))))))))))))))))))))))))
      refine .tt (.seq (.reg (.q (.assign rfl) (.nil (.code ?_)))))
      refine .ret (.inbR (.thR (.ret1 Tryz.results31 rfl fun w1 hz => ⟨_, _, rfl, hz, by rw [ex1 (by omega)]; exact ⟨rfl, fun h => by cases h⟩⟩)))
    · refine .q (.pickF rfl rfl) (.q (.move rfl) (.q (.fld f26_0 rfl) (.q (.ldO o3 0 rfl rfl rfl) (.q (.move rfl) (.q (.nilP rfl) (.q (.fld f89_5 rfl) (.q (.ldO o3 1 rfl rfl rfl) (.eqS rfl rfl (fun h30 => ?_) (fun h30 => ?_)))))))))
      · refine .q (.move rfl) (.q (.move rfl) (.gtS rfl rfl (fun h33 => ?_) (fun h33 => ?_)))
        · refine .q (.pickT rfl rfl) (.q (.move rfl) (.q (.move rfl) (.q (.move rfl) (.q (.nilP rfl) (.q (.fld f89_6 rfl) (.q (.ldO o3 1 rfl rfl rfl) (.ltS rfl rfl (fun h41 => ?_) (fun h41 => ?_))))))))
          · refine .q (.pickT rfl rfl) (.q (.pickF rfl rfl) (.q (.assign rfl) (.nil (.code ?_))))
            refine .tt (.seq (.reg (.q (.assign rfl) (.nil (.code ?_)))))
            refine .ret (.inbR (.thR (.ret1 Tryz.results31 rfl fun w1 hz => ⟨_, _, rfl, hz, by rw [ex1 (by omega)]; exact ⟨rfl, fun h => by cases h⟩⟩)))
          · refine .q (.pickT rfl rfl) (.q (.pickF rfl rfl) (.q (.assign rfl) (.nil (.code ?_))))
            refine .ff (.seq (.draw mix (by kernel_rfl) (fun _ h => h.drew) (.q (.move rfl) (.eqS rfl rfl (fun h46 => ?_) (fun h46 => ?_)))))
            · refine .q (.move rfl) (.skip (.skip (.skip (.q (.pickT rfl rfl) (.q (.move rfl) (.skip (.skip (.skip (.skip (.skip (.skip (.skip (.skip (.q (.pickT rfl rfl) (.q (.assign rfl) (.nil (.code ?_)))))))))))))))))
              refine .tt (.seq (.reg (.q (.assign rfl) (.nil (.code ?_)))))
              refine .ret (.inbR (.thR (.ret1 Tryz.results31 rfl fun w1 hz => ⟨_, _, rfl, hz, by rw [ex2 (show ¬ (e.s < a.slot ∨ 100000 < e.s ∨ (e.s = a.slot ∧ 0 < phaseOf e.k ∧ phaseOf e.k < a.phase)) by omega) (by omega)]; exact ⟨rfl, fun h => by cases h⟩⟩)))
            · refine .q (.move rfl) (.q (.fld f26_2 rfl) (.q (.ldO o3 0 rfl rfl rfl) (.ltS rfl rfl (fun h50 => ?_) (fun h50 => ?_))))
              · refine .q (.pickF rfl rfl) (.q (.move rfl) (.skip (.skip (.skip (.skip (.skip (.skip (.skip (.skip (.q (.pickT rfl rfl) (.q (.assign rfl) (.nil (.code ?_)))))))))))))
                refine .tt (.seq (.reg (.q (.assign rfl) (.nil (.code ?_)))))
                refine .ret (.inbR (.thR (.ret1 Tryz.results31 rfl fun w1 hz => ⟨_, _, rfl, hz, by rw [ex2 (show ¬ (e.s < a.slot ∨ 100000 < e.s ∨ (e.s = a.slot ∧ 0 < phaseOf e.k ∧ phaseOf e.k < a.phase)) by omega) (by omega)]; exact ⟨rfl, fun h => by cases h⟩⟩)))
              · refine .q (.pickF rfl rfl) (.q (.move rfl) (.q (.fld f26_2 rfl) (.q (.ldO o3 0 rfl rfl rfl) (.q (.move rfl) (.q (.nilP rfl) (.q (.fld f89_0 rfl) (.q (.ldO (v := .slice lA a.l.length lc) o36 1 rfl rfl (by rw [← hlv]; rfl)) (.q (.lenS s36.t rfl) (.geS rfl rfl (fun h60 => ?_) (fun h60 => ?_))))))))))
                · refine .q (.pickF rfl rfl) (.q (.assign rfl) (.nil (.code ?_)))
                  refine .tt (.seq (.reg (.q (.assign rfl) (.nil (.code ?_)))))
                  refine .ret (.inbR (.thR (.ret1 Tryz.results31 rfl fun w1 hz => ⟨_, _, rfl, hz, by rw [ex2 (show ¬ (e.s < a.slot ∨ 100000 < e.s ∨ (e.s = a.slot ∧ 0 < phaseOf e.k ∧ phaseOf e.k < a.phase)) by omega) (by omega)]; exact ⟨rfl, fun h => by cases h⟩⟩)))
                · refine .q (.pickF rfl rfl) (.q (.assign rfl) (.nil (.code ?_)))
                  refine .ff (.skip (.inbN (.code ?_)))
                  refine .seq (.seq (.reg (?_)))
                  obtain ⟨c1, c2, c3, c4, c5, c6⟩ := adv_I (s := e.s) (p := phaseOf e.k) (by omega) hpb.2 (by omega) (advM a e.s) a K hI hph (by omega) (by omega) rfl
                  have c1 : AuI (advance a e.s (phaseOf e.k)).1 K := c1
                  have c2 : (advance a e.s (phaseOf e.k)).1.l = a.l := c2
                  have c3 : (advance a e.s (phaseOf e.k)).2 = 0 → (advance a e.s (phaseOf e.k)).1.slot = e.s ∧ (advance a e.s (phaseOf e.k)).1.phase = phaseOf e.k := c3
                  have c4 : 0 ≤ (advance a e.s (phaseOf e.k)).2 := c4
                  refine .q (.move rfl) (.q (.fld f26_0 rfl) (.q (.ldO o3 0 rfl rfl rfl) (.q (.move rfl) (.callM (Lm := BL A J N T lv dv ps Ld a) (Lr := [_]) fn32 rfl (List.perm_append_singleton _ _).symm (fun w hH => advance_calls w0 w A J N T lv a K _ ⟨dv, ps, Ld, rfl, hD, hjs⟩ e.s (phaseOf e.k) (by omega) (by omega) (by omega) hpb.2 hph hH hl hI) fun v66 L66 p66 => (?_)))))
                  obtain ⟨rfl, dv1, ps1, Ld1, rfl, hD1, hjs1⟩ := p66
                  refine .world ?_ (fun _ h => zperm (List.perm_append_singleton _ _) h)
                  refine .q (.assign rfl) (.nil (.code ?_))
                  refine .seq (.reg (.q (.move rfl) (.gtS rfl rfl (fun h68 => ?_) (fun h68 => ?_))))
                  · refine .nil (.code ?_)
                    refine .tt (.seq (.reg (.q (.move rfl) (.q (.assign rfl) (.nil (.code ?_))))))
                    refine .ret (.thR (.ret1 Tryz.results31 rfl fun w1 hz => ⟨_, _, rfl, hz, by rw [ex3 (show ¬ (e.s < a.slot ∨ 100000 < e.s ∨ (e.s = a.slot ∧ 0 < phaseOf e.k ∧ phaseOf e.k < a.phase)) by omega) (show ¬ (phaseOf e.k = 0 ∨ e.t < 0 ∨ (a.l.length : Int) ≤ e.t) by omega) (by omega)]; exact ⟨rfl, fun h => by omega⟩⟩))
                  · refine .nil (.code ?_)
                    refine .ff (.skip (.code ?_))
                    refine .seq (.seq (.drawT mix 6 (by kernel_rfl) (fun _ h => h.drew) (?_)))
                    obtain hp | hp | hp | hp | hp : phaseOf e.k = 1 ∨ phaseOf e.k = 2 ∨ phaseOf e.k = 3 ∨ phaseOf e.k = 4 ∨ phaseOf e.k = 5 := by omega
                    · have hac : accept (phaseOf e.k) = next := by rw [hp]; rfl
                      refine .q (.call fn57 rfl (fun w hz => handlers_calls w)) (.q (.move rfl) (.q (.idxA (j := 1) (vs := [Value.func (.func 83) #[] #[], Value.func (.func 84) #[] #[]]) Tryz.underlying135 a134 rfl (by rw [hp]; rfl) (by omega) rfl) (.q (.fld1 (v := Value.func (.func 84) #[] #[]) Tryz.underlying134 rfl rfl Tryz.underlying132 rfl rfl rfl) (.q (.move rfl) (.q (.ldOA a26 0 rfl rfl rfl rfl) (.tail (.callMV (Lm := BL A J N T lv dv1 ps1 Ld1 (advance a e.s (phaseOf e.k)).1) (Lr := [_]) fn84 rfl rfl (List.perm_append_singleton _ _).symm (fun w hH => next_calls w0 w A J N T lv dv1 ps1 Ld1 (advance a e.s (phaseOf e.k)).1 K e hH (c2 ▸ hl) hjs1 hD1 c1 (by omega) (by rw [c2]; omega)) fun v76 L76 p76 => (?_))))))))
                      rcases ho : next (advance a e.s (phaseOf e.k)).1 e with _ | b
                      · rw [ho] at p76
                        obtain rfl := p76
                        have hacc : accept (phaseOf e.k) (advance a e.s (phaseOf e.k)).1 e = none := by rw [hac]; exact ho
                        refine .q (.notB (b := false) rfl) (.nil (.code ?_))
                        refine .tt (.seq (.reg (.q (.move rfl) (.q (.add rfl rfl (IntWalk.i64_in _ (by omega))) (.q (.assign rfl) (.nil (.code ?_)))))))
                        refine .ret (.thR (.ret1 Tryz.results31 rfl fun w1 hz => ⟨_, _, rfl, hz, by rw [ex4 (show ¬ (e.s < a.slot ∨ 100000 < e.s ∨ (e.s = a.slot ∧ 0 < phaseOf e.k ∧ phaseOf e.k < a.phase)) by omega) (show ¬ (phaseOf e.k = 0 ∨ e.t < 0 ∨ (a.l.length : Int) ≤ e.t) by omega) (by omega) hacc]; exact ⟨rfl, fun h => by simp only at h; omega⟩⟩))
                      · rw [ho] at p76
                        obtain ⟨rfl, hSt⟩ := p76
                        have hacc : accept (phaseOf e.k) (advance a e.s (phaseOf e.k)).1 e = some b := by rw [hac]; exact ho
                        refine .q (.notB (b := true) rfl) (.nil (.code ?_))
                        refine .ff (.skip (.code ?_))
                        refine .seq (.reg (.q (.assign rfl) (.nil (.code ?_))))
                        refine .ret (.ret1 Tryz.results31 rfl fun w1 hz => ⟨_, L76, rfl, hz.sublist (List.sublist_append_left _ _), by rw [ex5 (show ¬ (e.s < a.slot ∨ 100000 < e.s ∨ (e.s = a.slot ∧ 0 < phaseOf e.k ∧ phaseOf e.k < a.phase)) by omega) (show ¬ (phaseOf e.k = 0 ∨ e.t < 0 ∨ (a.l.length : Int) ≤ e.t) by omega) (by omega) hacc]; exact ⟨rfl, fun _ => hSt⟩⟩)
                    · have hac : accept (phaseOf e.k) = release := by rw [hp]; rfl
                      refine .q (.call fn57 rfl (fun w hz => handlers_calls w)) (.q (.move rfl) (.q (.idxA (j := 2) (vs := [Value.nilFunc, Value.func (.func 85) #[] #[]]) Tryz.underlying135 a134 rfl (by rw [hp]; rfl) (by omega) rfl) (.q (.fld1 (v := Value.func (.func 85) #[] #[]) Tryz.underlying134 rfl rfl Tryz.underlying132 rfl rfl rfl) (.q (.move rfl) (.q (.ldOA a26 0 rfl rfl rfl rfl) (.tail (.callMV (Lm := BL A J N T lv dv1 ps1 Ld1 (advance a e.s (phaseOf e.k)).1) (Lr := [_]) fn85 rfl rfl (List.perm_append_singleton _ _).symm (fun w hH => release_calls w0 w A J N T lv dv1 ps1 Ld1 (advance a e.s (phaseOf e.k)).1 K e hH (c2 ▸ hl) hjs1 hD1 c1 (by omega) (by rw [c2]; omega)) fun v76 L76 p76 => (?_))))))))
                      rcases ho : release (advance a e.s (phaseOf e.k)).1 e with _ | b
                      · rw [ho] at p76
                        obtain rfl := p76
                        have hacc : accept (phaseOf e.k) (advance a e.s (phaseOf e.k)).1 e = none := by rw [hac]; exact ho
                        refine .q (.notB (b := false) rfl) (.nil (.code ?_))
                        refine .tt (.seq (.reg (.q (.move rfl) (.q (.add rfl rfl (IntWalk.i64_in _ (by omega))) (.q (.assign rfl) (.nil (.code ?_)))))))
                        refine .ret (.thR (.ret1 Tryz.results31 rfl fun w1 hz => ⟨_, _, rfl, hz, by rw [ex4 (show ¬ (e.s < a.slot ∨ 100000 < e.s ∨ (e.s = a.slot ∧ 0 < phaseOf e.k ∧ phaseOf e.k < a.phase)) by omega) (show ¬ (phaseOf e.k = 0 ∨ e.t < 0 ∨ (a.l.length : Int) ≤ e.t) by omega) (by omega) hacc]; exact ⟨rfl, fun h => by simp only at h; omega⟩⟩))
                      · rw [ho] at p76
                        obtain ⟨rfl, hSt⟩ := p76
                        have hacc : accept (phaseOf e.k) (advance a e.s (phaseOf e.k)).1 e = some b := by rw [hac]; exact ho
                        refine .q (.notB (b := true) rfl) (.nil (.code ?_))
                        refine .ff (.skip (.code ?_))
                        refine .seq (.reg (.q (.assign rfl) (.nil (.code ?_))))
                        refine .ret (.ret1 Tryz.results31 rfl fun w1 hz => ⟨_, L76, rfl, hz.sublist (List.sublist_append_left _ _), by rw [ex5 (show ¬ (e.s < a.slot ∨ 100000 < e.s ∨ (e.s = a.slot ∧ 0 < phaseOf e.k ∧ phaseOf e.k < a.phase)) by omega) (show ¬ (phaseOf e.k = 0 ∨ e.t < 0 ∨ (a.l.length : Int) ≤ e.t) by omega) (by omega) hacc]; exact ⟨rfl, fun _ => hSt⟩⟩)
                    · have hac : accept (phaseOf e.k) = next := by rw [hp]; rfl
                      refine .q (.call fn57 rfl (fun w hz => handlers_calls w)) (.q (.move rfl) (.q (.idxA (j := 3) (vs := [Value.func (.func 86) #[] #[], Value.func (.func 84) #[] #[]]) Tryz.underlying135 a134 rfl (by rw [hp]; rfl) (by omega) rfl) (.q (.fld1 (v := Value.func (.func 84) #[] #[]) Tryz.underlying134 rfl rfl Tryz.underlying132 rfl rfl rfl) (.q (.move rfl) (.q (.ldOA a26 0 rfl rfl rfl rfl) (.tail (.callMV (Lm := BL A J N T lv dv1 ps1 Ld1 (advance a e.s (phaseOf e.k)).1) (Lr := [_]) fn84 rfl rfl (List.perm_append_singleton _ _).symm (fun w hH => next_calls w0 w A J N T lv dv1 ps1 Ld1 (advance a e.s (phaseOf e.k)).1 K e hH (c2 ▸ hl) hjs1 hD1 c1 (by omega) (by rw [c2]; omega)) fun v76 L76 p76 => (?_))))))))
                      rcases ho : next (advance a e.s (phaseOf e.k)).1 e with _ | b
                      · rw [ho] at p76
                        obtain rfl := p76
                        have hacc : accept (phaseOf e.k) (advance a e.s (phaseOf e.k)).1 e = none := by rw [hac]; exact ho
                        refine .q (.notB (b := false) rfl) (.nil (.code ?_))
                        refine .tt (.seq (.reg (.q (.move rfl) (.q (.add rfl rfl (IntWalk.i64_in _ (by omega))) (.q (.assign rfl) (.nil (.code ?_)))))))
                        refine .ret (.thR (.ret1 Tryz.results31 rfl fun w1 hz => ⟨_, _, rfl, hz, by rw [ex4 (show ¬ (e.s < a.slot ∨ 100000 < e.s ∨ (e.s = a.slot ∧ 0 < phaseOf e.k ∧ phaseOf e.k < a.phase)) by omega) (show ¬ (phaseOf e.k = 0 ∨ e.t < 0 ∨ (a.l.length : Int) ≤ e.t) by omega) (by omega) hacc]; exact ⟨rfl, fun h => by simp only at h; omega⟩⟩))
                      · rw [ho] at p76
                        obtain ⟨rfl, hSt⟩ := p76
                        have hacc : accept (phaseOf e.k) (advance a e.s (phaseOf e.k)).1 e = some b := by rw [hac]; exact ho
                        refine .q (.notB (b := true) rfl) (.nil (.code ?_))
                        refine .ff (.skip (.code ?_))
                        refine .seq (.reg (.q (.assign rfl) (.nil (.code ?_))))
                        refine .ret (.ret1 Tryz.results31 rfl fun w1 hz => ⟨_, L76, rfl, hz.sublist (List.sublist_append_left _ _), by rw [ex5 (show ¬ (e.s < a.slot ∨ 100000 < e.s ∨ (e.s = a.slot ∧ 0 < phaseOf e.k ∧ phaseOf e.k < a.phase)) by omega) (show ¬ (phaseOf e.k = 0 ∨ e.t < 0 ∨ (a.l.length : Int) ≤ e.t) by omega) (by omega) hacc]; exact ⟨rfl, fun _ => hSt⟩⟩)
                    · have hac : accept (phaseOf e.k) = run := by rw [hp]; rfl
                      refine .q (.call fn57 rfl (fun w hz => handlers_calls w)) (.q (.move rfl) (.q (.idxA (j := 4) (vs := [Value.nilFunc, Value.func (.func 87) #[] #[]]) Tryz.underlying135 a134 rfl (by rw [hp]; rfl) (by omega) rfl) (.q (.fld1 (v := Value.func (.func 87) #[] #[]) Tryz.underlying134 rfl rfl Tryz.underlying132 rfl rfl rfl) (.q (.move rfl) (.q (.ldOA a26 0 rfl rfl rfl rfl) (.tail (.callMV (Lm := BL A J N T lv dv1 ps1 Ld1 (advance a e.s (phaseOf e.k)).1) (Lr := [_]) fn87 rfl rfl (List.perm_append_singleton _ _).symm (fun w hH => run_calls w0 w A J N T lv dv1 ps1 Ld1 (advance a e.s (phaseOf e.k)).1 K e hH (c2 ▸ hl) hjs1 hD1 c1 (by omega) (by rw [c2]; omega)) fun v76 L76 p76 => (?_))))))))
                      rcases ho : run (advance a e.s (phaseOf e.k)).1 e with _ | b
                      · rw [ho] at p76
                        obtain rfl := p76
                        have hacc : accept (phaseOf e.k) (advance a e.s (phaseOf e.k)).1 e = none := by rw [hac]; exact ho
                        refine .q (.notB (b := false) rfl) (.nil (.code ?_))
                        refine .tt (.seq (.reg (.q (.move rfl) (.q (.add rfl rfl (IntWalk.i64_in _ (by omega))) (.q (.assign rfl) (.nil (.code ?_)))))))
                        refine .ret (.thR (.ret1 Tryz.results31 rfl fun w1 hz => ⟨_, _, rfl, hz, by rw [ex4 (show ¬ (e.s < a.slot ∨ 100000 < e.s ∨ (e.s = a.slot ∧ 0 < phaseOf e.k ∧ phaseOf e.k < a.phase)) by omega) (show ¬ (phaseOf e.k = 0 ∨ e.t < 0 ∨ (a.l.length : Int) ≤ e.t) by omega) (by omega) hacc]; exact ⟨rfl, fun h => by simp only at h; omega⟩⟩))
                      · rw [ho] at p76
                        obtain ⟨rfl, hSt⟩ := p76
                        have hacc : accept (phaseOf e.k) (advance a e.s (phaseOf e.k)).1 e = some b := by rw [hac]; exact ho
                        refine .q (.notB (b := true) rfl) (.nil (.code ?_))
                        refine .ff (.skip (.code ?_))
                        refine .seq (.reg (.q (.assign rfl) (.nil (.code ?_))))
                        refine .ret (.ret1 Tryz.results31 rfl fun w1 hz => ⟨_, L76, rfl, hz.sublist (List.sublist_append_left _ _), by rw [ex5 (show ¬ (e.s < a.slot ∨ 100000 < e.s ∨ (e.s = a.slot ∧ 0 < phaseOf e.k ∧ phaseOf e.k < a.phase)) by omega) (show ¬ (phaseOf e.k = 0 ∨ e.t < 0 ∨ (a.l.length : Int) ≤ e.t) by omega) (by omega) hacc]; exact ⟨rfl, fun _ => hSt⟩⟩)
                    · have hac : accept (phaseOf e.k) = next := by rw [hp]; rfl
                      refine .q (.call fn57 rfl (fun w hz => handlers_calls w)) (.q (.move rfl) (.q (.idxA (j := 5) (vs := [Value.func (.func 88) #[] #[], Value.func (.func 84) #[] #[]]) Tryz.underlying135 a134 rfl (by rw [hp]; rfl) (by omega) rfl) (.q (.fld1 (v := Value.func (.func 84) #[] #[]) Tryz.underlying134 rfl rfl Tryz.underlying132 rfl rfl rfl) (.q (.move rfl) (.q (.ldOA a26 0 rfl rfl rfl rfl) (.tail (.callMV (Lm := BL A J N T lv dv1 ps1 Ld1 (advance a e.s (phaseOf e.k)).1) (Lr := [_]) fn84 rfl rfl (List.perm_append_singleton _ _).symm (fun w hH => next_calls w0 w A J N T lv dv1 ps1 Ld1 (advance a e.s (phaseOf e.k)).1 K e hH (c2 ▸ hl) hjs1 hD1 c1 (by omega) (by rw [c2]; omega)) fun v76 L76 p76 => (?_))))))))
                      rcases ho : next (advance a e.s (phaseOf e.k)).1 e with _ | b
                      · rw [ho] at p76
                        obtain rfl := p76
                        have hacc : accept (phaseOf e.k) (advance a e.s (phaseOf e.k)).1 e = none := by rw [hac]; exact ho
                        refine .q (.notB (b := false) rfl) (.nil (.code ?_))
                        refine .tt (.seq (.reg (.q (.move rfl) (.q (.add rfl rfl (IntWalk.i64_in _ (by omega))) (.q (.assign rfl) (.nil (.code ?_)))))))
                        refine .ret (.thR (.ret1 Tryz.results31 rfl fun w1 hz => ⟨_, _, rfl, hz, by rw [ex4 (show ¬ (e.s < a.slot ∨ 100000 < e.s ∨ (e.s = a.slot ∧ 0 < phaseOf e.k ∧ phaseOf e.k < a.phase)) by omega) (show ¬ (phaseOf e.k = 0 ∨ e.t < 0 ∨ (a.l.length : Int) ≤ e.t) by omega) (by omega) hacc]; exact ⟨rfl, fun h => by simp only at h; omega⟩⟩))
                      · rw [ho] at p76
                        obtain ⟨rfl, hSt⟩ := p76
                        have hacc : accept (phaseOf e.k) (advance a e.s (phaseOf e.k)).1 e = some b := by rw [hac]; exact ho
                        refine .q (.notB (b := true) rfl) (.nil (.code ?_))
                        refine .ff (.skip (.code ?_))
                        refine .seq (.reg (.q (.assign rfl) (.nil (.code ?_))))
                        refine .ret (.ret1 Tryz.results31 rfl fun w1 hz => ⟨_, L76, rfl, hz.sublist (List.sublist_append_left _ _), by rw [ex5 (show ¬ (e.s < a.slot ∨ 100000 < e.s ∨ (e.s = a.slot ∧ 0 < phaseOf e.k ∧ phaseOf e.k < a.phase)) by omega) (show ¬ (phaseOf e.k = 0 ∨ e.t < 0 ∨ (a.l.length : Int) ≤ e.t) by omega) (by omega) hacc]; exact ⟨rfl, fun _ => hSt⟩⟩)
        · refine .q (.pickT rfl rfl) (.q (.move rfl) (.skip (.skip (.skip (.skip (.skip (.skip (.q (.pickF rfl rfl) (.q (.pickF rfl rfl) (.q (.assign rfl) (.nil (.code ?_))))))))))))
          refine .ff (.seq (.draw mix (by kernel_rfl) (fun _ h => h.drew) (.q (.move rfl) (.eqS rfl rfl (fun h46 => ?_) (fun h46 => ?_)))))
          · refine .q (.move rfl) (.skip (.skip (.skip (.q (.pickT rfl rfl) (.q (.move rfl) (.skip (.skip (.skip (.skip (.skip (.skip (.skip (.skip (.q (.pickT rfl rfl) (.q (.assign rfl) (.nil (.code ?_)))))))))))))))))
            refine .tt (.seq (.reg (.q (.assign rfl) (.nil (.code ?_)))))
            refine .ret (.inbR (.thR (.ret1 Tryz.results31 rfl fun w1 hz => ⟨_, _, rfl, hz, by rw [ex2 (show ¬ (e.s < a.slot ∨ 100000 < e.s ∨ (e.s = a.slot ∧ 0 < phaseOf e.k ∧ phaseOf e.k < a.phase)) by omega) (by omega)]; exact ⟨rfl, fun h => by cases h⟩⟩)))
          · refine .q (.move rfl) (.q (.fld f26_2 rfl) (.q (.ldO o3 0 rfl rfl rfl) (.ltS rfl rfl (fun h50 => ?_) (fun h50 => ?_))))
            · refine .q (.pickF rfl rfl) (.q (.move rfl) (.skip (.skip (.skip (.skip (.skip (.skip (.skip (.skip (.q (.pickT rfl rfl) (.q (.assign rfl) (.nil (.code ?_)))))))))))))
              refine .tt (.seq (.reg (.q (.assign rfl) (.nil (.code ?_)))))
              refine .ret (.inbR (.thR (.ret1 Tryz.results31 rfl fun w1 hz => ⟨_, _, rfl, hz, by rw [ex2 (show ¬ (e.s < a.slot ∨ 100000 < e.s ∨ (e.s = a.slot ∧ 0 < phaseOf e.k ∧ phaseOf e.k < a.phase)) by omega) (by omega)]; exact ⟨rfl, fun h => by cases h⟩⟩)))
            · refine .q (.pickF rfl rfl) (.q (.move rfl) (.q (.fld f26_2 rfl) (.q (.ldO o3 0 rfl rfl rfl) (.q (.move rfl) (.q (.nilP rfl) (.q (.fld f89_0 rfl) (.q (.ldO (v := .slice lA a.l.length lc) o36 1 rfl rfl (by rw [← hlv]; rfl)) (.q (.lenS s36.t rfl) (.geS rfl rfl (fun h60 => ?_) (fun h60 => ?_))))))))))
              · refine .q (.pickF rfl rfl) (.q (.assign rfl) (.nil (.code ?_)))
                refine .tt (.seq (.reg (.q (.assign rfl) (.nil (.code ?_)))))
                refine .ret (.inbR (.thR (.ret1 Tryz.results31 rfl fun w1 hz => ⟨_, _, rfl, hz, by rw [ex2 (show ¬ (e.s < a.slot ∨ 100000 < e.s ∨ (e.s = a.slot ∧ 0 < phaseOf e.k ∧ phaseOf e.k < a.phase)) by omega) (by omega)]; exact ⟨rfl, fun h => by cases h⟩⟩)))
              · refine .q (.pickF rfl rfl) (.q (.assign rfl) (.nil (.code ?_)))
                refine .ff (.skip (.inbN (.code ?_)))
                refine .seq (.seq (.reg (?_)))
                obtain ⟨c1, c2, c3, c4, c5, c6⟩ := adv_I (s := e.s) (p := phaseOf e.k) (by omega) hpb.2 (by omega) (advM a e.s) a K hI hph (by omega) (by omega) rfl
                have c1 : AuI (advance a e.s (phaseOf e.k)).1 K := c1
                have c2 : (advance a e.s (phaseOf e.k)).1.l = a.l := c2
                have c3 : (advance a e.s (phaseOf e.k)).2 = 0 → (advance a e.s (phaseOf e.k)).1.slot = e.s ∧ (advance a e.s (phaseOf e.k)).1.phase = phaseOf e.k := c3
                have c4 : 0 ≤ (advance a e.s (phaseOf e.k)).2 := c4
                refine .q (.move rfl) (.q (.fld f26_0 rfl) (.q (.ldO o3 0 rfl rfl rfl) (.q (.move rfl) (.callM (Lm := BL A J N T lv dv ps Ld a) (Lr := [_]) fn32 rfl (List.perm_append_singleton _ _).symm (fun w hH => advance_calls w0 w A J N T lv a K _ ⟨dv, ps, Ld, rfl, hD, hjs⟩ e.s (phaseOf e.k) (by omega) (by omega) (by omega) hpb.2 hph hH hl hI) fun v66 L66 p66 => (?_)))))
                obtain ⟨rfl, dv1, ps1, Ld1, rfl, hD1, hjs1⟩ := p66
                refine .world ?_ (fun _ h => zperm (List.perm_append_singleton _ _) h)
                refine .q (.assign rfl) (.nil (.code ?_))
                refine .seq (.reg (.q (.move rfl) (.gtS rfl rfl (fun h68 => ?_) (fun h68 => ?_))))
                · refine .nil (.code ?_)
                  refine .tt (.seq (.reg (.q (.move rfl) (.q (.assign rfl) (.nil (.code ?_))))))
                  refine .ret (.thR (.ret1 Tryz.results31 rfl fun w1 hz => ⟨_, _, rfl, hz, by rw [ex3 (show ¬ (e.s < a.slot ∨ 100000 < e.s ∨ (e.s = a.slot ∧ 0 < phaseOf e.k ∧ phaseOf e.k < a.phase)) by omega) (show ¬ (phaseOf e.k = 0 ∨ e.t < 0 ∨ (a.l.length : Int) ≤ e.t) by omega) (by omega)]; exact ⟨rfl, fun h => by omega⟩⟩))
                · refine .nil (.code ?_)
                  refine .ff (.skip (.code ?_))
                  refine .seq (.seq (.drawT mix 6 (by kernel_rfl) (fun _ h => h.drew) (?_)))
                  obtain hp | hp | hp | hp | hp : phaseOf e.k = 1 ∨ phaseOf e.k = 2 ∨ phaseOf e.k = 3 ∨ phaseOf e.k = 4 ∨ phaseOf e.k = 5 := by omega
                  · have hac : accept (phaseOf e.k) = next := by rw [hp]; rfl
                    refine .q (.call fn57 rfl (fun w hz => handlers_calls w)) (.q (.move rfl) (.q (.idxA (j := 1) (vs := [Value.func (.func 83) #[] #[], Value.func (.func 84) #[] #[]]) Tryz.underlying135 a134 rfl (by rw [hp]; rfl) (by omega) rfl) (.q (.fld1 (v := Value.func (.func 84) #[] #[]) Tryz.underlying134 rfl rfl Tryz.underlying132 rfl rfl rfl) (.q (.move rfl) (.q (.ldOA a26 0 rfl rfl rfl rfl) (.tail (.callMV (Lm := BL A J N T lv dv1 ps1 Ld1 (advance a e.s (phaseOf e.k)).1) (Lr := [_]) fn84 rfl rfl (List.perm_append_singleton _ _).symm (fun w hH => next_calls w0 w A J N T lv dv1 ps1 Ld1 (advance a e.s (phaseOf e.k)).1 K e hH (c2 ▸ hl) hjs1 hD1 c1 (by omega) (by rw [c2]; omega)) fun v76 L76 p76 => (?_))))))))
                    rcases ho : next (advance a e.s (phaseOf e.k)).1 e with _ | b
                    · rw [ho] at p76
                      obtain rfl := p76
                      have hacc : accept (phaseOf e.k) (advance a e.s (phaseOf e.k)).1 e = none := by rw [hac]; exact ho
                      refine .q (.notB (b := false) rfl) (.nil (.code ?_))
                      refine .tt (.seq (.reg (.q (.move rfl) (.q (.add rfl rfl (IntWalk.i64_in _ (by omega))) (.q (.assign rfl) (.nil (.code ?_)))))))
                      refine .ret (.thR (.ret1 Tryz.results31 rfl fun w1 hz => ⟨_, _, rfl, hz, by rw [ex4 (show ¬ (e.s < a.slot ∨ 100000 < e.s ∨ (e.s = a.slot ∧ 0 < phaseOf e.k ∧ phaseOf e.k < a.phase)) by omega) (show ¬ (phaseOf e.k = 0 ∨ e.t < 0 ∨ (a.l.length : Int) ≤ e.t) by omega) (by omega) hacc]; exact ⟨rfl, fun h => by simp only at h; omega⟩⟩))
                    · rw [ho] at p76
                      obtain ⟨rfl, hSt⟩ := p76
                      have hacc : accept (phaseOf e.k) (advance a e.s (phaseOf e.k)).1 e = some b := by rw [hac]; exact ho
                      refine .q (.notB (b := true) rfl) (.nil (.code ?_))
                      refine .ff (.skip (.code ?_))
                      refine .seq (.reg (.q (.assign rfl) (.nil (.code ?_))))
                      refine .ret (.ret1 Tryz.results31 rfl fun w1 hz => ⟨_, L76, rfl, hz.sublist (List.sublist_append_left _ _), by rw [ex5 (show ¬ (e.s < a.slot ∨ 100000 < e.s ∨ (e.s = a.slot ∧ 0 < phaseOf e.k ∧ phaseOf e.k < a.phase)) by omega) (show ¬ (phaseOf e.k = 0 ∨ e.t < 0 ∨ (a.l.length : Int) ≤ e.t) by omega) (by omega) hacc]; exact ⟨rfl, fun _ => hSt⟩⟩)
                  · have hac : accept (phaseOf e.k) = release := by rw [hp]; rfl
                    refine .q (.call fn57 rfl (fun w hz => handlers_calls w)) (.q (.move rfl) (.q (.idxA (j := 2) (vs := [Value.nilFunc, Value.func (.func 85) #[] #[]]) Tryz.underlying135 a134 rfl (by rw [hp]; rfl) (by omega) rfl) (.q (.fld1 (v := Value.func (.func 85) #[] #[]) Tryz.underlying134 rfl rfl Tryz.underlying132 rfl rfl rfl) (.q (.move rfl) (.q (.ldOA a26 0 rfl rfl rfl rfl) (.tail (.callMV (Lm := BL A J N T lv dv1 ps1 Ld1 (advance a e.s (phaseOf e.k)).1) (Lr := [_]) fn85 rfl rfl (List.perm_append_singleton _ _).symm (fun w hH => release_calls w0 w A J N T lv dv1 ps1 Ld1 (advance a e.s (phaseOf e.k)).1 K e hH (c2 ▸ hl) hjs1 hD1 c1 (by omega) (by rw [c2]; omega)) fun v76 L76 p76 => (?_))))))))
                    rcases ho : release (advance a e.s (phaseOf e.k)).1 e with _ | b
                    · rw [ho] at p76
                      obtain rfl := p76
                      have hacc : accept (phaseOf e.k) (advance a e.s (phaseOf e.k)).1 e = none := by rw [hac]; exact ho
                      refine .q (.notB (b := false) rfl) (.nil (.code ?_))
                      refine .tt (.seq (.reg (.q (.move rfl) (.q (.add rfl rfl (IntWalk.i64_in _ (by omega))) (.q (.assign rfl) (.nil (.code ?_)))))))
                      refine .ret (.thR (.ret1 Tryz.results31 rfl fun w1 hz => ⟨_, _, rfl, hz, by rw [ex4 (show ¬ (e.s < a.slot ∨ 100000 < e.s ∨ (e.s = a.slot ∧ 0 < phaseOf e.k ∧ phaseOf e.k < a.phase)) by omega) (show ¬ (phaseOf e.k = 0 ∨ e.t < 0 ∨ (a.l.length : Int) ≤ e.t) by omega) (by omega) hacc]; exact ⟨rfl, fun h => by simp only at h; omega⟩⟩))
                    · rw [ho] at p76
                      obtain ⟨rfl, hSt⟩ := p76
                      have hacc : accept (phaseOf e.k) (advance a e.s (phaseOf e.k)).1 e = some b := by rw [hac]; exact ho
                      refine .q (.notB (b := true) rfl) (.nil (.code ?_))
                      refine .ff (.skip (.code ?_))
                      refine .seq (.reg (.q (.assign rfl) (.nil (.code ?_))))
                      refine .ret (.ret1 Tryz.results31 rfl fun w1 hz => ⟨_, L76, rfl, hz.sublist (List.sublist_append_left _ _), by rw [ex5 (show ¬ (e.s < a.slot ∨ 100000 < e.s ∨ (e.s = a.slot ∧ 0 < phaseOf e.k ∧ phaseOf e.k < a.phase)) by omega) (show ¬ (phaseOf e.k = 0 ∨ e.t < 0 ∨ (a.l.length : Int) ≤ e.t) by omega) (by omega) hacc]; exact ⟨rfl, fun _ => hSt⟩⟩)
                  · have hac : accept (phaseOf e.k) = next := by rw [hp]; rfl
                    refine .q (.call fn57 rfl (fun w hz => handlers_calls w)) (.q (.move rfl) (.q (.idxA (j := 3) (vs := [Value.func (.func 86) #[] #[], Value.func (.func 84) #[] #[]]) Tryz.underlying135 a134 rfl (by rw [hp]; rfl) (by omega) rfl) (.q (.fld1 (v := Value.func (.func 84) #[] #[]) Tryz.underlying134 rfl rfl Tryz.underlying132 rfl rfl rfl) (.q (.move rfl) (.q (.ldOA a26 0 rfl rfl rfl rfl) (.tail (.callMV (Lm := BL A J N T lv dv1 ps1 Ld1 (advance a e.s (phaseOf e.k)).1) (Lr := [_]) fn84 rfl rfl (List.perm_append_singleton _ _).symm (fun w hH => next_calls w0 w A J N T lv dv1 ps1 Ld1 (advance a e.s (phaseOf e.k)).1 K e hH (c2 ▸ hl) hjs1 hD1 c1 (by omega) (by rw [c2]; omega)) fun v76 L76 p76 => (?_))))))))
                    rcases ho : next (advance a e.s (phaseOf e.k)).1 e with _ | b
                    · rw [ho] at p76
                      obtain rfl := p76
                      have hacc : accept (phaseOf e.k) (advance a e.s (phaseOf e.k)).1 e = none := by rw [hac]; exact ho
                      refine .q (.notB (b := false) rfl) (.nil (.code ?_))
                      refine .tt (.seq (.reg (.q (.move rfl) (.q (.add rfl rfl (IntWalk.i64_in _ (by omega))) (.q (.assign rfl) (.nil (.code ?_)))))))
                      refine .ret (.thR (.ret1 Tryz.results31 rfl fun w1 hz => ⟨_, _, rfl, hz, by rw [ex4 (show ¬ (e.s < a.slot ∨ 100000 < e.s ∨ (e.s = a.slot ∧ 0 < phaseOf e.k ∧ phaseOf e.k < a.phase)) by omega) (show ¬ (phaseOf e.k = 0 ∨ e.t < 0 ∨ (a.l.length : Int) ≤ e.t) by omega) (by omega) hacc]; exact ⟨rfl, fun h => by simp only at h; omega⟩⟩))
                    · rw [ho] at p76
                      obtain ⟨rfl, hSt⟩ := p76
                      have hacc : accept (phaseOf e.k) (advance a e.s (phaseOf e.k)).1 e = some b := by rw [hac]; exact ho
                      refine .q (.notB (b := true) rfl) (.nil (.code ?_))
                      refine .ff (.skip (.code ?_))
                      refine .seq (.reg (.q (.assign rfl) (.nil (.code ?_))))
                      refine .ret (.ret1 Tryz.results31 rfl fun w1 hz => ⟨_, L76, rfl, hz.sublist (List.sublist_append_left _ _), by rw [ex5 (show ¬ (e.s < a.slot ∨ 100000 < e.s ∨ (e.s = a.slot ∧ 0 < phaseOf e.k ∧ phaseOf e.k < a.phase)) by omega) (show ¬ (phaseOf e.k = 0 ∨ e.t < 0 ∨ (a.l.length : Int) ≤ e.t) by omega) (by omega) hacc]; exact ⟨rfl, fun _ => hSt⟩⟩)
                  · have hac : accept (phaseOf e.k) = run := by rw [hp]; rfl
                    refine .q (.call fn57 rfl (fun w hz => handlers_calls w)) (.q (.move rfl) (.q (.idxA (j := 4) (vs := [Value.nilFunc, Value.func (.func 87) #[] #[]]) Tryz.underlying135 a134 rfl (by rw [hp]; rfl) (by omega) rfl) (.q (.fld1 (v := Value.func (.func 87) #[] #[]) Tryz.underlying134 rfl rfl Tryz.underlying132 rfl rfl rfl) (.q (.move rfl) (.q (.ldOA a26 0 rfl rfl rfl rfl) (.tail (.callMV (Lm := BL A J N T lv dv1 ps1 Ld1 (advance a e.s (phaseOf e.k)).1) (Lr := [_]) fn87 rfl rfl (List.perm_append_singleton _ _).symm (fun w hH => run_calls w0 w A J N T lv dv1 ps1 Ld1 (advance a e.s (phaseOf e.k)).1 K e hH (c2 ▸ hl) hjs1 hD1 c1 (by omega) (by rw [c2]; omega)) fun v76 L76 p76 => (?_))))))))
                    rcases ho : run (advance a e.s (phaseOf e.k)).1 e with _ | b
                    · rw [ho] at p76
                      obtain rfl := p76
                      have hacc : accept (phaseOf e.k) (advance a e.s (phaseOf e.k)).1 e = none := by rw [hac]; exact ho
                      refine .q (.notB (b := false) rfl) (.nil (.code ?_))
                      refine .tt (.seq (.reg (.q (.move rfl) (.q (.add rfl rfl (IntWalk.i64_in _ (by omega))) (.q (.assign rfl) (.nil (.code ?_)))))))
                      refine .ret (.thR (.ret1 Tryz.results31 rfl fun w1 hz => ⟨_, _, rfl, hz, by rw [ex4 (show ¬ (e.s < a.slot ∨ 100000 < e.s ∨ (e.s = a.slot ∧ 0 < phaseOf e.k ∧ phaseOf e.k < a.phase)) by omega) (show ¬ (phaseOf e.k = 0 ∨ e.t < 0 ∨ (a.l.length : Int) ≤ e.t) by omega) (by omega) hacc]; exact ⟨rfl, fun h => by simp only at h; omega⟩⟩))
                    · rw [ho] at p76
                      obtain ⟨rfl, hSt⟩ := p76
                      have hacc : accept (phaseOf e.k) (advance a e.s (phaseOf e.k)).1 e = some b := by rw [hac]; exact ho
                      refine .q (.notB (b := true) rfl) (.nil (.code ?_))
                      refine .ff (.skip (.code ?_))
                      refine .seq (.reg (.q (.assign rfl) (.nil (.code ?_))))
                      refine .ret (.ret1 Tryz.results31 rfl fun w1 hz => ⟨_, L76, rfl, hz.sublist (List.sublist_append_left _ _), by rw [ex5 (show ¬ (e.s < a.slot ∨ 100000 < e.s ∨ (e.s = a.slot ∧ 0 < phaseOf e.k ∧ phaseOf e.k < a.phase)) by omega) (show ¬ (phaseOf e.k = 0 ∨ e.t < 0 ∨ (a.l.length : Int) ≤ e.t) by omega) (by omega) hacc]; exact ⟨rfl, fun _ => hSt⟩⟩)
                  · have hac : accept (phaseOf e.k) = next := by rw [hp]; rfl
                    refine .q (.call fn57 rfl (fun w hz => handlers_calls w)) (.q (.move rfl) (.q (.idxA (j := 5) (vs := [Value.func (.func 88) #[] #[], Value.func (.func 84) #[] #[]]) Tryz.underlying135 a134 rfl (by rw [hp]; rfl) (by omega) rfl) (.q (.fld1 (v := Value.func (.func 84) #[] #[]) Tryz.underlying134 rfl rfl Tryz.underlying132 rfl rfl rfl) (.q (.move rfl) (.q (.ldOA a26 0 rfl rfl rfl rfl) (.tail (.callMV (Lm := BL A J N T lv dv1 ps1 Ld1 (advance a e.s (phaseOf e.k)).1) (Lr := [_]) fn84 rfl rfl (List.perm_append_singleton _ _).symm (fun w hH => next_calls w0 w A J N T lv dv1 ps1 Ld1 (advance a e.s (phaseOf e.k)).1 K e hH (c2 ▸ hl) hjs1 hD1 c1 (by omega) (by rw [c2]; omega)) fun v76 L76 p76 => (?_))))))))
                    rcases ho : next (advance a e.s (phaseOf e.k)).1 e with _ | b
                    · rw [ho] at p76
                      obtain rfl := p76
                      have hacc : accept (phaseOf e.k) (advance a e.s (phaseOf e.k)).1 e = none := by rw [hac]; exact ho
                      refine .q (.notB (b := false) rfl) (.nil (.code ?_))
                      refine .tt (.seq (.reg (.q (.move rfl) (.q (.add rfl rfl (IntWalk.i64_in _ (by omega))) (.q (.assign rfl) (.nil (.code ?_)))))))
                      refine .ret (.thR (.ret1 Tryz.results31 rfl fun w1 hz => ⟨_, _, rfl, hz, by rw [ex4 (show ¬ (e.s < a.slot ∨ 100000 < e.s ∨ (e.s = a.slot ∧ 0 < phaseOf e.k ∧ phaseOf e.k < a.phase)) by omega) (show ¬ (phaseOf e.k = 0 ∨ e.t < 0 ∨ (a.l.length : Int) ≤ e.t) by omega) (by omega) hacc]; exact ⟨rfl, fun h => by simp only at h; omega⟩⟩))
                    · rw [ho] at p76
                      obtain ⟨rfl, hSt⟩ := p76
                      have hacc : accept (phaseOf e.k) (advance a e.s (phaseOf e.k)).1 e = some b := by rw [hac]; exact ho
                      refine .q (.notB (b := true) rfl) (.nil (.code ?_))
                      refine .ff (.skip (.code ?_))
                      refine .seq (.reg (.q (.assign rfl) (.nil (.code ?_))))
                      refine .ret (.ret1 Tryz.results31 rfl fun w1 hz => ⟨_, L76, rfl, hz.sublist (List.sublist_append_left _ _), by rw [ex5 (show ¬ (e.s < a.slot ∨ 100000 < e.s ∨ (e.s = a.slot ∧ 0 < phaseOf e.k ∧ phaseOf e.k < a.phase)) by omega) (show ¬ (phaseOf e.k = 0 ∨ e.t < 0 ∨ (a.l.length : Int) ≤ e.t) by omega) (by omega) hacc]; exact ⟨rfl, fun _ => hSt⟩⟩)
      · refine .q (.move rfl) (.skip (.skip (.q (.pickF rfl rfl) (.q (.move rfl) (.skip (.skip (.skip (.skip (.skip (.skip (.q (.pickF rfl rfl) (.q (.pickF rfl rfl) (.q (.assign rfl) (.nil (.code ?_)))))))))))))))
        refine .ff (.seq (.draw mix (by kernel_rfl) (fun _ h => h.drew) (.q (.move rfl) (.eqS rfl rfl (fun h46 => ?_) (fun h46 => ?_)))))
        · refine .q (.move rfl) (.skip (.skip (.skip (.q (.pickT rfl rfl) (.q (.move rfl) (.skip (.skip (.skip (.skip (.skip (.skip (.skip (.skip (.q (.pickT rfl rfl) (.q (.assign rfl) (.nil (.code ?_)))))))))))))))))
          refine .tt (.seq (.reg (.q (.assign rfl) (.nil (.code ?_)))))
          refine .ret (.inbR (.thR (.ret1 Tryz.results31 rfl fun w1 hz => ⟨_, _, rfl, hz, by rw [ex2 (show ¬ (e.s < a.slot ∨ 100000 < e.s ∨ (e.s = a.slot ∧ 0 < phaseOf e.k ∧ phaseOf e.k < a.phase)) by omega) (by omega)]; exact ⟨rfl, fun h => by cases h⟩⟩)))
        · refine .q (.move rfl) (.q (.fld f26_2 rfl) (.q (.ldO o3 0 rfl rfl rfl) (.ltS rfl rfl (fun h50 => ?_) (fun h50 => ?_))))
          · refine .q (.pickF rfl rfl) (.q (.move rfl) (.skip (.skip (.skip (.skip (.skip (.skip (.skip (.skip (.q (.pickT rfl rfl) (.q (.assign rfl) (.nil (.code ?_)))))))))))))
            refine .tt (.seq (.reg (.q (.assign rfl) (.nil (.code ?_)))))
            refine .ret (.inbR (.thR (.ret1 Tryz.results31 rfl fun w1 hz => ⟨_, _, rfl, hz, by rw [ex2 (show ¬ (e.s < a.slot ∨ 100000 < e.s ∨ (e.s = a.slot ∧ 0 < phaseOf e.k ∧ phaseOf e.k < a.phase)) by omega) (by omega)]; exact ⟨rfl, fun h => by cases h⟩⟩)))
          · refine .q (.pickF rfl rfl) (.q (.move rfl) (.q (.fld f26_2 rfl) (.q (.ldO o3 0 rfl rfl rfl) (.q (.move rfl) (.q (.nilP rfl) (.q (.fld f89_0 rfl) (.q (.ldO (v := .slice lA a.l.length lc) o36 1 rfl rfl (by rw [← hlv]; rfl)) (.q (.lenS s36.t rfl) (.geS rfl rfl (fun h60 => ?_) (fun h60 => ?_))))))))))
            · refine .q (.pickF rfl rfl) (.q (.assign rfl) (.nil (.code ?_)))
              refine .tt (.seq (.reg (.q (.assign rfl) (.nil (.code ?_)))))
              refine .ret (.inbR (.thR (.ret1 Tryz.results31 rfl fun w1 hz => ⟨_, _, rfl, hz, by rw [ex2 (show ¬ (e.s < a.slot ∨ 100000 < e.s ∨ (e.s = a.slot ∧ 0 < phaseOf e.k ∧ phaseOf e.k < a.phase)) by omega) (by omega)]; exact ⟨rfl, fun h => by cases h⟩⟩)))
            · refine .q (.pickF rfl rfl) (.q (.assign rfl) (.nil (.code ?_)))
              refine .ff (.skip (.inbN (.code ?_)))
              refine .seq (.seq (.reg (?_)))
              obtain ⟨c1, c2, c3, c4, c5, c6⟩ := adv_I (s := e.s) (p := phaseOf e.k) (by omega) hpb.2 (by omega) (advM a e.s) a K hI hph (by omega) (by omega) rfl
              have c1 : AuI (advance a e.s (phaseOf e.k)).1 K := c1
              have c2 : (advance a e.s (phaseOf e.k)).1.l = a.l := c2
              have c3 : (advance a e.s (phaseOf e.k)).2 = 0 → (advance a e.s (phaseOf e.k)).1.slot = e.s ∧ (advance a e.s (phaseOf e.k)).1.phase = phaseOf e.k := c3
              have c4 : 0 ≤ (advance a e.s (phaseOf e.k)).2 := c4
              refine .q (.move rfl) (.q (.fld f26_0 rfl) (.q (.ldO o3 0 rfl rfl rfl) (.q (.move rfl) (.callM (Lm := BL A J N T lv dv ps Ld a) (Lr := [_]) fn32 rfl (List.perm_append_singleton _ _).symm (fun w hH => advance_calls w0 w A J N T lv a K _ ⟨dv, ps, Ld, rfl, hD, hjs⟩ e.s (phaseOf e.k) (by omega) (by omega) (by omega) hpb.2 hph hH hl hI) fun v66 L66 p66 => (?_)))))
              obtain ⟨rfl, dv1, ps1, Ld1, rfl, hD1, hjs1⟩ := p66
              refine .world ?_ (fun _ h => zperm (List.perm_append_singleton _ _) h)
              refine .q (.assign rfl) (.nil (.code ?_))
              refine .seq (.reg (.q (.move rfl) (.gtS rfl rfl (fun h68 => ?_) (fun h68 => ?_))))
              · refine .nil (.code ?_)
                refine .tt (.seq (.reg (.q (.move rfl) (.q (.assign rfl) (.nil (.code ?_))))))
                refine .ret (.thR (.ret1 Tryz.results31 rfl fun w1 hz => ⟨_, _, rfl, hz, by rw [ex3 (show ¬ (e.s < a.slot ∨ 100000 < e.s ∨ (e.s = a.slot ∧ 0 < phaseOf e.k ∧ phaseOf e.k < a.phase)) by omega) (show ¬ (phaseOf e.k = 0 ∨ e.t < 0 ∨ (a.l.length : Int) ≤ e.t) by omega) (by omega)]; exact ⟨rfl, fun h => by omega⟩⟩))
              · refine .nil (.code ?_)
                refine .ff (.skip (.code ?_))
                refine .seq (.seq (.drawT mix 6 (by kernel_rfl) (fun _ h => h.drew) (?_)))
                obtain hp | hp | hp | hp | hp : phaseOf e.k = 1 ∨ phaseOf e.k = 2 ∨ phaseOf e.k = 3 ∨ phaseOf e.k = 4 ∨ phaseOf e.k = 5 := by omega
                · have hac : accept (phaseOf e.k) = next := by rw [hp]; rfl
                  refine .q (.call fn57 rfl (fun w hz => handlers_calls w)) (.q (.move rfl) (.q (.idxA (j := 1) (vs := [Value.func (.func 83) #[] #[], Value.func (.func 84) #[] #[]]) Tryz.underlying135 a134 rfl (by rw [hp]; rfl) (by omega) rfl) (.q (.fld1 (v := Value.func (.func 84) #[] #[]) Tryz.underlying134 rfl rfl Tryz.underlying132 rfl rfl rfl) (.q (.move rfl) (.q (.ldOA a26 0 rfl rfl rfl rfl) (.tail (.callMV (Lm := BL A J N T lv dv1 ps1 Ld1 (advance a e.s (phaseOf e.k)).1) (Lr := [_]) fn84 rfl rfl (List.perm_append_singleton _ _).symm (fun w hH => next_calls w0 w A J N T lv dv1 ps1 Ld1 (advance a e.s (phaseOf e.k)).1 K e hH (c2 ▸ hl) hjs1 hD1 c1 (by omega) (by rw [c2]; omega)) fun v76 L76 p76 => (?_))))))))
                  rcases ho : next (advance a e.s (phaseOf e.k)).1 e with _ | b
                  · rw [ho] at p76
                    obtain rfl := p76
                    have hacc : accept (phaseOf e.k) (advance a e.s (phaseOf e.k)).1 e = none := by rw [hac]; exact ho
                    refine .q (.notB (b := false) rfl) (.nil (.code ?_))
                    refine .tt (.seq (.reg (.q (.move rfl) (.q (.add rfl rfl (IntWalk.i64_in _ (by omega))) (.q (.assign rfl) (.nil (.code ?_)))))))
                    refine .ret (.thR (.ret1 Tryz.results31 rfl fun w1 hz => ⟨_, _, rfl, hz, by rw [ex4 (show ¬ (e.s < a.slot ∨ 100000 < e.s ∨ (e.s = a.slot ∧ 0 < phaseOf e.k ∧ phaseOf e.k < a.phase)) by omega) (show ¬ (phaseOf e.k = 0 ∨ e.t < 0 ∨ (a.l.length : Int) ≤ e.t) by omega) (by omega) hacc]; exact ⟨rfl, fun h => by simp only at h; omega⟩⟩))
                  · rw [ho] at p76
                    obtain ⟨rfl, hSt⟩ := p76
                    have hacc : accept (phaseOf e.k) (advance a e.s (phaseOf e.k)).1 e = some b := by rw [hac]; exact ho
                    refine .q (.notB (b := true) rfl) (.nil (.code ?_))
                    refine .ff (.skip (.code ?_))
                    refine .seq (.reg (.q (.assign rfl) (.nil (.code ?_))))
                    refine .ret (.ret1 Tryz.results31 rfl fun w1 hz => ⟨_, L76, rfl, hz.sublist (List.sublist_append_left _ _), by rw [ex5 (show ¬ (e.s < a.slot ∨ 100000 < e.s ∨ (e.s = a.slot ∧ 0 < phaseOf e.k ∧ phaseOf e.k < a.phase)) by omega) (show ¬ (phaseOf e.k = 0 ∨ e.t < 0 ∨ (a.l.length : Int) ≤ e.t) by omega) (by omega) hacc]; exact ⟨rfl, fun _ => hSt⟩⟩)
                · have hac : accept (phaseOf e.k) = release := by rw [hp]; rfl
                  refine .q (.call fn57 rfl (fun w hz => handlers_calls w)) (.q (.move rfl) (.q (.idxA (j := 2) (vs := [Value.nilFunc, Value.func (.func 85) #[] #[]]) Tryz.underlying135 a134 rfl (by rw [hp]; rfl) (by omega) rfl) (.q (.fld1 (v := Value.func (.func 85) #[] #[]) Tryz.underlying134 rfl rfl Tryz.underlying132 rfl rfl rfl) (.q (.move rfl) (.q (.ldOA a26 0 rfl rfl rfl rfl) (.tail (.callMV (Lm := BL A J N T lv dv1 ps1 Ld1 (advance a e.s (phaseOf e.k)).1) (Lr := [_]) fn85 rfl rfl (List.perm_append_singleton _ _).symm (fun w hH => release_calls w0 w A J N T lv dv1 ps1 Ld1 (advance a e.s (phaseOf e.k)).1 K e hH (c2 ▸ hl) hjs1 hD1 c1 (by omega) (by rw [c2]; omega)) fun v76 L76 p76 => (?_))))))))
                  rcases ho : release (advance a e.s (phaseOf e.k)).1 e with _ | b
                  · rw [ho] at p76
                    obtain rfl := p76
                    have hacc : accept (phaseOf e.k) (advance a e.s (phaseOf e.k)).1 e = none := by rw [hac]; exact ho
                    refine .q (.notB (b := false) rfl) (.nil (.code ?_))
                    refine .tt (.seq (.reg (.q (.move rfl) (.q (.add rfl rfl (IntWalk.i64_in _ (by omega))) (.q (.assign rfl) (.nil (.code ?_)))))))
                    refine .ret (.thR (.ret1 Tryz.results31 rfl fun w1 hz => ⟨_, _, rfl, hz, by rw [ex4 (show ¬ (e.s < a.slot ∨ 100000 < e.s ∨ (e.s = a.slot ∧ 0 < phaseOf e.k ∧ phaseOf e.k < a.phase)) by omega) (show ¬ (phaseOf e.k = 0 ∨ e.t < 0 ∨ (a.l.length : Int) ≤ e.t) by omega) (by omega) hacc]; exact ⟨rfl, fun h => by simp only at h; omega⟩⟩))
                  · rw [ho] at p76
                    obtain ⟨rfl, hSt⟩ := p76
                    have hacc : accept (phaseOf e.k) (advance a e.s (phaseOf e.k)).1 e = some b := by rw [hac]; exact ho
                    refine .q (.notB (b := true) rfl) (.nil (.code ?_))
                    refine .ff (.skip (.code ?_))
                    refine .seq (.reg (.q (.assign rfl) (.nil (.code ?_))))
                    refine .ret (.ret1 Tryz.results31 rfl fun w1 hz => ⟨_, L76, rfl, hz.sublist (List.sublist_append_left _ _), by rw [ex5 (show ¬ (e.s < a.slot ∨ 100000 < e.s ∨ (e.s = a.slot ∧ 0 < phaseOf e.k ∧ phaseOf e.k < a.phase)) by omega) (show ¬ (phaseOf e.k = 0 ∨ e.t < 0 ∨ (a.l.length : Int) ≤ e.t) by omega) (by omega) hacc]; exact ⟨rfl, fun _ => hSt⟩⟩)
                · have hac : accept (phaseOf e.k) = next := by rw [hp]; rfl
                  refine .q (.call fn57 rfl (fun w hz => handlers_calls w)) (.q (.move rfl) (.q (.idxA (j := 3) (vs := [Value.func (.func 86) #[] #[], Value.func (.func 84) #[] #[]]) Tryz.underlying135 a134 rfl (by rw [hp]; rfl) (by omega) rfl) (.q (.fld1 (v := Value.func (.func 84) #[] #[]) Tryz.underlying134 rfl rfl Tryz.underlying132 rfl rfl rfl) (.q (.move rfl) (.q (.ldOA a26 0 rfl rfl rfl rfl) (.tail (.callMV (Lm := BL A J N T lv dv1 ps1 Ld1 (advance a e.s (phaseOf e.k)).1) (Lr := [_]) fn84 rfl rfl (List.perm_append_singleton _ _).symm (fun w hH => next_calls w0 w A J N T lv dv1 ps1 Ld1 (advance a e.s (phaseOf e.k)).1 K e hH (c2 ▸ hl) hjs1 hD1 c1 (by omega) (by rw [c2]; omega)) fun v76 L76 p76 => (?_))))))))
                  rcases ho : next (advance a e.s (phaseOf e.k)).1 e with _ | b
                  · rw [ho] at p76
                    obtain rfl := p76
                    have hacc : accept (phaseOf e.k) (advance a e.s (phaseOf e.k)).1 e = none := by rw [hac]; exact ho
                    refine .q (.notB (b := false) rfl) (.nil (.code ?_))
                    refine .tt (.seq (.reg (.q (.move rfl) (.q (.add rfl rfl (IntWalk.i64_in _ (by omega))) (.q (.assign rfl) (.nil (.code ?_)))))))
                    refine .ret (.thR (.ret1 Tryz.results31 rfl fun w1 hz => ⟨_, _, rfl, hz, by rw [ex4 (show ¬ (e.s < a.slot ∨ 100000 < e.s ∨ (e.s = a.slot ∧ 0 < phaseOf e.k ∧ phaseOf e.k < a.phase)) by omega) (show ¬ (phaseOf e.k = 0 ∨ e.t < 0 ∨ (a.l.length : Int) ≤ e.t) by omega) (by omega) hacc]; exact ⟨rfl, fun h => by simp only at h; omega⟩⟩))
                  · rw [ho] at p76
                    obtain ⟨rfl, hSt⟩ := p76
                    have hacc : accept (phaseOf e.k) (advance a e.s (phaseOf e.k)).1 e = some b := by rw [hac]; exact ho
                    refine .q (.notB (b := true) rfl) (.nil (.code ?_))
                    refine .ff (.skip (.code ?_))
                    refine .seq (.reg (.q (.assign rfl) (.nil (.code ?_))))
                    refine .ret (.ret1 Tryz.results31 rfl fun w1 hz => ⟨_, L76, rfl, hz.sublist (List.sublist_append_left _ _), by rw [ex5 (show ¬ (e.s < a.slot ∨ 100000 < e.s ∨ (e.s = a.slot ∧ 0 < phaseOf e.k ∧ phaseOf e.k < a.phase)) by omega) (show ¬ (phaseOf e.k = 0 ∨ e.t < 0 ∨ (a.l.length : Int) ≤ e.t) by omega) (by omega) hacc]; exact ⟨rfl, fun _ => hSt⟩⟩)
                · have hac : accept (phaseOf e.k) = run := by rw [hp]; rfl
                  refine .q (.call fn57 rfl (fun w hz => handlers_calls w)) (.q (.move rfl) (.q (.idxA (j := 4) (vs := [Value.nilFunc, Value.func (.func 87) #[] #[]]) Tryz.underlying135 a134 rfl (by rw [hp]; rfl) (by omega) rfl) (.q (.fld1 (v := Value.func (.func 87) #[] #[]) Tryz.underlying134 rfl rfl Tryz.underlying132 rfl rfl rfl) (.q (.move rfl) (.q (.ldOA a26 0 rfl rfl rfl rfl) (.tail (.callMV (Lm := BL A J N T lv dv1 ps1 Ld1 (advance a e.s (phaseOf e.k)).1) (Lr := [_]) fn87 rfl rfl (List.perm_append_singleton _ _).symm (fun w hH => run_calls w0 w A J N T lv dv1 ps1 Ld1 (advance a e.s (phaseOf e.k)).1 K e hH (c2 ▸ hl) hjs1 hD1 c1 (by omega) (by rw [c2]; omega)) fun v76 L76 p76 => (?_))))))))
                  rcases ho : run (advance a e.s (phaseOf e.k)).1 e with _ | b
                  · rw [ho] at p76
                    obtain rfl := p76
                    have hacc : accept (phaseOf e.k) (advance a e.s (phaseOf e.k)).1 e = none := by rw [hac]; exact ho
                    refine .q (.notB (b := false) rfl) (.nil (.code ?_))
                    refine .tt (.seq (.reg (.q (.move rfl) (.q (.add rfl rfl (IntWalk.i64_in _ (by omega))) (.q (.assign rfl) (.nil (.code ?_)))))))
                    refine .ret (.thR (.ret1 Tryz.results31 rfl fun w1 hz => ⟨_, _, rfl, hz, by rw [ex4 (show ¬ (e.s < a.slot ∨ 100000 < e.s ∨ (e.s = a.slot ∧ 0 < phaseOf e.k ∧ phaseOf e.k < a.phase)) by omega) (show ¬ (phaseOf e.k = 0 ∨ e.t < 0 ∨ (a.l.length : Int) ≤ e.t) by omega) (by omega) hacc]; exact ⟨rfl, fun h => by simp only at h; omega⟩⟩))
                  · rw [ho] at p76
                    obtain ⟨rfl, hSt⟩ := p76
                    have hacc : accept (phaseOf e.k) (advance a e.s (phaseOf e.k)).1 e = some b := by rw [hac]; exact ho
                    refine .q (.notB (b := true) rfl) (.nil (.code ?_))
                    refine .ff (.skip (.code ?_))
                    refine .seq (.reg (.q (.assign rfl) (.nil (.code ?_))))
                    refine .ret (.ret1 Tryz.results31 rfl fun w1 hz => ⟨_, L76, rfl, hz.sublist (List.sublist_append_left _ _), by rw [ex5 (show ¬ (e.s < a.slot ∨ 100000 < e.s ∨ (e.s = a.slot ∧ 0 < phaseOf e.k ∧ phaseOf e.k < a.phase)) by omega) (show ¬ (phaseOf e.k = 0 ∨ e.t < 0 ∨ (a.l.length : Int) ≤ e.t) by omega) (by omega) hacc]; exact ⟨rfl, fun _ => hSt⟩⟩)
                · have hac : accept (phaseOf e.k) = next := by rw [hp]; rfl
                  refine .q (.call fn57 rfl (fun w hz => handlers_calls w)) (.q (.move rfl) (.q (.idxA (j := 5) (vs := [Value.func (.func 88) #[] #[], Value.func (.func 84) #[] #[]]) Tryz.underlying135 a134 rfl (by rw [hp]; rfl) (by omega) rfl) (.q (.fld1 (v := Value.func (.func 84) #[] #[]) Tryz.underlying134 rfl rfl Tryz.underlying132 rfl rfl rfl) (.q (.move rfl) (.q (.ldOA a26 0 rfl rfl rfl rfl) (.tail (.callMV (Lm := BL A J N T lv dv1 ps1 Ld1 (advance a e.s (phaseOf e.k)).1) (Lr := [_]) fn84 rfl rfl (List.perm_append_singleton _ _).symm (fun w hH => next_calls w0 w A J N T lv dv1 ps1 Ld1 (advance a e.s (phaseOf e.k)).1 K e hH (c2 ▸ hl) hjs1 hD1 c1 (by omega) (by rw [c2]; omega)) fun v76 L76 p76 => (?_))))))))
                  rcases ho : next (advance a e.s (phaseOf e.k)).1 e with _ | b
                  · rw [ho] at p76
                    obtain rfl := p76
                    have hacc : accept (phaseOf e.k) (advance a e.s (phaseOf e.k)).1 e = none := by rw [hac]; exact ho
                    refine .q (.notB (b := false) rfl) (.nil (.code ?_))
                    refine .tt (.seq (.reg (.q (.move rfl) (.q (.add rfl rfl (IntWalk.i64_in _ (by omega))) (.q (.assign rfl) (.nil (.code ?_)))))))
                    refine .ret (.thR (.ret1 Tryz.results31 rfl fun w1 hz => ⟨_, _, rfl, hz, by rw [ex4 (show ¬ (e.s < a.slot ∨ 100000 < e.s ∨ (e.s = a.slot ∧ 0 < phaseOf e.k ∧ phaseOf e.k < a.phase)) by omega) (show ¬ (phaseOf e.k = 0 ∨ e.t < 0 ∨ (a.l.length : Int) ≤ e.t) by omega) (by omega) hacc]; exact ⟨rfl, fun h => by simp only at h; omega⟩⟩))
                  · rw [ho] at p76
                    obtain ⟨rfl, hSt⟩ := p76
                    have hacc : accept (phaseOf e.k) (advance a e.s (phaseOf e.k)).1 e = some b := by rw [hac]; exact ho
                    refine .q (.notB (b := true) rfl) (.nil (.code ?_))
                    refine .ff (.skip (.code ?_))
                    refine .seq (.reg (.q (.assign rfl) (.nil (.code ?_))))
                    refine .ret (.ret1 Tryz.results31 rfl fun w1 hz => ⟨_, L76, rfl, hz.sublist (List.sublist_append_left _ _), by rw [ex5 (show ¬ (e.s < a.slot ∨ 100000 < e.s ∨ (e.s = a.slot ∧ 0 < phaseOf e.k ∧ phaseOf e.k < a.phase)) by omega) (show ¬ (phaseOf e.k = 0 ∨ e.t < 0 ∨ (a.l.length : Int) ≤ e.t) by omega) (by omega) hacc]; exact ⟨rfl, fun _ => hSt⟩⟩)

end Go.Proofs.YtjccenbacjhglaaGreatDoor.AU6
