import Derived.Test.YtjccenbacjhglaaGreatDoorProg
import Derived.Test.YtjccenbacjhglaaGreatDoorK
import Derived.Test.YtjccenbacjhglaaGreatDoorM
import Derived.Test.YtjccenbacjhglaaGreatDoorIS
import Derived.Test.YtjccenbacjhglaaGreatDoorM2
import Derived.Test.YtjccenbacjhglaaGreatDoorPF
import Derived.Test.YtjccenbacjhglaaGreatDoorSO
import Derived.Test.YtjccenbacjhglaaGreatDoorAU
import Derived.Test.YtjccenbacjhglaaGreatDoorAU2
import Derived.Test.YtjccenbacjhglaaGreatDoorM3
import Derived.Test.YtjccenbacjhglaaGreatDoorAU3
import Derived.Test.YtjccenbacjhglaaGreatDoorAU4
set_option linter.unusedVariables false
set_option linter.unusedSimpArgs false
set_option maxRecDepth 100000
set_option maxHeartbeats 1000000
namespace Go.Proofs.YtjccenbacjhglaaGreatDoor.AU5
open Go Go.Proofs Go.RowKit Go.Proofs.YtjccenbacjhglaaGreatDoor.K Go.Proofs.YtjccenbacjhglaaGreatDoor.M Go.Proofs.YtjccenbacjhglaaGreatDoor.PF Go.Proofs.YtjccenbacjhglaaGreatDoor.SO Go.Proofs.YtjccenbacjhglaaGreatDoor.AU Go.Proofs.YtjccenbacjhglaaGreatDoor.AU2 Go.Proofs.YtjccenbacjhglaaGreatDoor.AU3 Go.Proofs.YtjccenbacjhglaaGreatDoor.AU4
theorem a134 : Ag Tryz.prog 134 2 := ⟨_, Tryz.underlying134, rfl, by kernel_rfl⟩
theorem f89_5 : Fld Tryz.prog 89 5 5 := ⟨_, _, Tryz.underlying89, rfl, rfl, 0, by kernel_rfl⟩
theorem f89_6 : Fld Tryz.prog 89 6 6 := ⟨_, _, Tryz.underlying89, rfl, rfl, 0, by kernel_rfl⟩
theorem f89_7 : Fld Tryz.prog 89 7 7 := ⟨_, _, Tryz.underlying89, rfl, rfl, 0, by kernel_rfl⟩
theorem f89_8 : Fld Tryz.prog 89 8 8 := ⟨_, _, Tryz.underlying89, rfl, rfl, 0, by kernel_rfl⟩
theorem fn30 : Fnc Tryz.prog 30 := ⟨by kernel_rfl⟩
theorem fn57 : Fnc Tryz.prog 57 := ⟨by kernel_rfl⟩
theorem fn83 : Fnc Tryz.prog 83 := ⟨by kernel_rfl⟩
theorem fn86 : Fnc Tryz.prog 86 := ⟨by kernel_rfl⟩
theorem fn88 : Fnc Tryz.prog 88 := ⟨by kernel_rfl⟩
theorem ft131 : Fty Tryz.prog 131 := ⟨_, _, _, Tryz.underlying131⟩
theorem mix : Tryz.prog.follows .mixedOrders = true := by kernel_rfl
theorem o3 : One Tryz.prog 3 := ⟨_, Tryz.underlying3, rfl, by kernel_rfl⟩
theorem o22 : One Tryz.prog 22 := ⟨_, Tryz.underlying22, rfl, by kernel_rfl⟩
theorem s22 : Slc Tryz.prog 22 26 8 64 [.int .i64 0, .int .i64 0, .int .i64 0, .int .i64 0, .int .u8 0, .int .i64 0, .int .i64 0, .int .i64 0] := ⟨Tryz.underlying22, by kernel_rfl, rfl⟩

theorem fin_due {w0 we w : World} {Le Ld Lx : List Blk} {A J N T : Nat} {lv dv : Value} {ps : List (Option (Nat × Jb))} {b : Au} {c1 : List Value} {x y z : Blk} (hz : Z w0 we Le ((((A, .cells c1.toArray 89 (0, 0)) :: x :: y :: z :: (Ld ++ jbs ps)) ++ Lx)) w) (h1 : c1 = auC lv J N T ps.length b dv) (hx : x = (J, .cells (ps.map ptrV).toArray 226 (0, 0))) (hy : y = (N, .cells (b.cnt.map intV).toArray 3 (0, 0))) (hw : z = (T, .cells (b.last.map intV).toArray 3 (0, 0))) : Z w0 we Le (BL A J N T lv dv ps Lx b) w := by
  subst h1 hx hy hw
  rw [BL]
  have h2 : ((Ld ++ jbs ps) ++ Lx).Perm (Ld ++ (Lx ++ jbs ps)) := by
    rw [List.append_assoc]
    exact List.perm_append_comm.append_left Ld
  have h3 := hz.perm (((((h2.cons _).cons _).cons _).cons _))
  exact h3.sublist (((((List.sublist_append_right Ld _).cons_cons _).cons_cons _).cons_cons _).cons_cons _)
theorem fin_nodue {w0 we w : World} {Le Ld : List Blk} {A J N T : Nat} {lv dv : Value} {ps : List (Option (Nat × Jb))} {b : Au} {c1 : List Value} {x y z : Blk} (hz : Z w0 we Le ((A, .cells c1.toArray 89 (0, 0)) :: x :: y :: z :: (Ld ++ jbs ps)) w) (h1 : c1 = auC lv J N T ps.length b dv) (hx : x = (J, .cells (ps.map ptrV).toArray 226 (0, 0))) (hy : y = (N, .cells (b.cnt.map intV).toArray 3 (0, 0))) (hw : z = (T, .cells (b.last.map intV).toArray 3 (0, 0))) : Z w0 we Le (BL A J N T lv dv ps [] b) w := by
  subst h1 hx hy hw
  rw [BL]
  exact hz.sublist (((((List.sublist_append_right Ld _).cons_cons _).cons_cons _).cons_cons _).cons_cons _)

theorem begin_calls (w0 w : World) (A J N T : Nat) (lv dv : Value) (ps : List (Option (Nat × Jb))) (Ld : List Blk) (a : Au) (K s p : Int) (hH : H w0 w (BL A J N T lv dv ps Ld a)) (hl : Rd encT 3 w0 lv a.l) (hjs : a.js = ps.map (Option.map (·.2))) (hI : AuI a K) (hs : a.slot ≤ s) (hs1 : s ≤ 100001) (hp0 : 1 ≤ p) (hp1 : p ≤ 5) : Calls Tryz.prog 30 #[.pointer (some ⟨A, 0, none⟩), .int .i64 s, .int .i64 p] w fun r w' => ∃ v L', r = .returned v ∧ Z w0 w (BL A J N T lv dv ps Ld a) L' w' ∧ St A J N T lv (beginA a s p) L' := by
  have hI0 := begin0_I hI hs hs1 hp0 hp1
  refine enter (args := [_, _, _]) Tryz.func30 rfl rfl rfl (C := Z w0 w (BL A J N T lv dv ps Ld a) (BL A J N T lv dv ps Ld a)) (Z.start hH) ?_
  refine .seq (.reg (?_))
  obtain rfl | rfl | rfl | rfl | rfl : p = 1 ∨ p = 2 ∨ p = 3 ∨ p = 4 ∨ p = 5 := by omega
  · refine .q (.move rfl) (.q (.move rfl) (.q (.move rfl) (.q (.move rfl) (.q (.move rfl) (.q (.nilP rfl) (.q (.fld f89_5 rfl) (.st o3 0 rfl rfl rfl rfl rfl (.q (.nilP rfl) (.q (.fld f89_6 rfl) (.st o3 0 rfl rfl rfl rfl rfl (.q (.nilP rfl) (.q (.fld f89_7 rfl) (.st o22 0 rfl rfl rfl rfl rfl (.nil (.code ?_)))))))))))))))
    refine .seq (.seq (.reg (.q (.move rfl) (.q (.cmp rfl rfl (eqT (by omega))) (.nil (.code ?_))))))
    refine .tt (.reg (.q (.move rfl) (.q (.nilP rfl) (.q (.fld f89_8 rfl) (.st o3 0 rfl rfl rfl rfl rfl (.nil (.code ?_)))))))
    refine .seq (.reg (.q (.call fn57 rfl (fun w hz => handlers_calls w)) (.q (.move rfl) (.q (.idxA (j := 1) (vs := [Value.func (.func 83) #[] #[], Value.func (.func 84) #[] #[]]) Tryz.underlying135 a134 rfl rfl (by omega) rfl) (.q (.fld1 (v := Value.func (.func 83) #[] #[]) Tryz.underlying134 rfl rfl Tryz.underlying131 rfl rfl rfl) (.q (.assign rfl) (.nil (.code ?_))))))))
    refine .seq (.reg (.q (.move rfl) (.q (.neFn (b := true) ft131 rfl (.inr ⟨⟨_, _, _, rfl⟩, rfl⟩)) (.nil (.code ?_)))))
    refine .tt (.reg (.q (.move rfl) (.q (.move rfl) (.q (.move rfl) (.callAV fn83 rfl rfl (fun w hz => late_calls w A J N T lv (.slice none 0 0) ps (begin0 a s 1) K (AuW.of (Ld := Ld) hz (fun x hx => hx) hl hjs) hI0) fun v32 L32 o32 => (?_))))))
    obtain ⟨sA, sc, rfl⟩ := OS.form o32
    refine .world ?_ (fun _ h => zperm List.perm_append_comm h)
    refine .q (.nilP rfl) (.q (.fld f89_7 rfl) (.st o22 0 rfl rfl rfl rfl rfl (.nil (.ret0 Tryz.results30 fun w1 hz => ⟨_, _, rfl, fin_due (b := beginA a s _) hz rfl rfl rfl rfl, _, _, _, rfl, DU.of o32, hjs⟩))))
  · refine .q (.move rfl) (.q (.move rfl) (.q (.move rfl) (.q (.move rfl) (.q (.move rfl) (.q (.nilP rfl) (.q (.fld f89_5 rfl) (.st o3 0 rfl rfl rfl rfl rfl (.q (.nilP rfl) (.q (.fld f89_6 rfl) (.st o3 0 rfl rfl rfl rfl rfl (.q (.nilP rfl) (.q (.fld f89_7 rfl) (.st o22 0 rfl rfl rfl rfl rfl (.nil (.code ?_)))))))))))))))
    refine .seq (.seq (.reg (.q (.move rfl) (.q (.cmp rfl rfl (eqF (by omega))) (.nil (.code ?_))))))
    refine .ff (.skip (.code ?_))
    refine .seq (.reg (.q (.call fn57 rfl (fun w hz => handlers_calls w)) (.q (.move rfl) (.q (.idxA (j := 2) (vs := [Value.nilFunc, Value.func (.func 85) #[] #[]]) Tryz.underlying135 a134 rfl rfl (by omega) rfl) (.q (.fld1 (v := Value.nilFunc) Tryz.underlying134 rfl rfl Tryz.underlying131 rfl rfl rfl) (.q (.assign rfl) (.nil (.code ?_))))))))
    refine .seq (.reg (.q (.move rfl) (.q (.neFn (b := false) ft131 rfl (.inl ⟨rfl, rfl⟩)) (.nil (.code ?_)))))
    refine .ff (.skip (.ret0 Tryz.results30 fun w1 hz => ⟨_, _, rfl, fin_nodue (b := beginA a s _) hz rfl rfl rfl rfl, _, _, _, rfl, DU.nil, hjs⟩))
  · refine .q (.move rfl) (.q (.move rfl) (.q (.move rfl) (.q (.move rfl) (.q (.move rfl) (.q (.nilP rfl) (.q (.fld f89_5 rfl) (.st o3 0 rfl rfl rfl rfl rfl (.q (.nilP rfl) (.q (.fld f89_6 rfl) (.st o3 0 rfl rfl rfl rfl rfl (.q (.nilP rfl) (.q (.fld f89_7 rfl) (.st o22 0 rfl rfl rfl rfl rfl (.nil (.code ?_)))))))))))))))
    refine .seq (.seq (.reg (.q (.move rfl) (.q (.cmp rfl rfl (eqF (by omega))) (.nil (.code ?_))))))
    refine .ff (.skip (.code ?_))
    refine .seq (.reg (.q (.call fn57 rfl (fun w hz => handlers_calls w)) (.q (.move rfl) (.q (.idxA (j := 3) (vs := [Value.func (.func 86) #[] #[], Value.func (.func 84) #[] #[]]) Tryz.underlying135 a134 rfl rfl (by omega) rfl) (.q (.fld1 (v := Value.func (.func 86) #[] #[]) Tryz.underlying134 rfl rfl Tryz.underlying131 rfl rfl rfl) (.q (.assign rfl) (.nil (.code ?_))))))))
    refine .seq (.reg (.q (.move rfl) (.q (.neFn (b := true) ft131 rfl (.inr ⟨⟨_, _, _, rfl⟩, rfl⟩)) (.nil (.code ?_)))))
    refine .tt (.reg (.q (.move rfl) (.q (.move rfl) (.q (.move rfl) (.callAV fn86 rfl rfl (fun w hz => selection_calls w A J N T lv (.slice none 0 0) ps (begin0 a s 3) K (AuW.of (Ld := Ld) hz (fun x hx => hx) hl hjs) hI0) fun v32 L32 o32 => (?_))))))
    obtain ⟨sA, sc, rfl⟩ := OS.form o32
    refine .world ?_ (fun _ h => zperm List.perm_append_comm h)
    refine .q (.nilP rfl) (.q (.fld f89_7 rfl) (.st o22 0 rfl rfl rfl rfl rfl (.nil (.ret0 Tryz.results30 fun w1 hz => ⟨_, _, rfl, fin_due (b := beginA a s _) hz rfl rfl rfl rfl, _, _, _, rfl, DU.of o32, hjs⟩))))
  · refine .q (.move rfl) (.q (.move rfl) (.q (.move rfl) (.q (.move rfl) (.q (.move rfl) (.q (.nilP rfl) (.q (.fld f89_5 rfl) (.st o3 0 rfl rfl rfl rfl rfl (.q (.nilP rfl) (.q (.fld f89_6 rfl) (.st o3 0 rfl rfl rfl rfl rfl (.q (.nilP rfl) (.q (.fld f89_7 rfl) (.st o22 0 rfl rfl rfl rfl rfl (.nil (.code ?_)))))))))))))))
    refine .seq (.seq (.reg (.q (.move rfl) (.q (.cmp rfl rfl (eqF (by omega))) (.nil (.code ?_))))))
    refine .ff (.skip (.code ?_))
    refine .seq (.reg (.q (.call fn57 rfl (fun w hz => handlers_calls w)) (.q (.move rfl) (.q (.idxA (j := 4) (vs := [Value.nilFunc, Value.func (.func 87) #[] #[]]) Tryz.underlying135 a134 rfl rfl (by omega) rfl) (.q (.fld1 (v := Value.nilFunc) Tryz.underlying134 rfl rfl Tryz.underlying131 rfl rfl rfl) (.q (.assign rfl) (.nil (.code ?_))))))))
    refine .seq (.reg (.q (.move rfl) (.q (.neFn (b := false) ft131 rfl (.inl ⟨rfl, rfl⟩)) (.nil (.code ?_)))))
    refine .ff (.skip (.ret0 Tryz.results30 fun w1 hz => ⟨_, _, rfl, fin_nodue (b := beginA a s _) hz rfl rfl rfl rfl, _, _, _, rfl, DU.nil, hjs⟩))
  · refine .q (.move rfl) (.q (.move rfl) (.q (.move rfl) (.q (.move rfl) (.q (.move rfl) (.q (.nilP rfl) (.q (.fld f89_5 rfl) (.st o3 0 rfl rfl rfl rfl rfl (.q (.nilP rfl) (.q (.fld f89_6 rfl) (.st o3 0 rfl rfl rfl rfl rfl (.q (.nilP rfl) (.q (.fld f89_7 rfl) (.st o22 0 rfl rfl rfl rfl rfl (.nil (.code ?_)))))))))))))))
    refine .seq (.seq (.reg (.q (.move rfl) (.q (.cmp rfl rfl (eqF (by omega))) (.nil (.code ?_))))))
    refine .ff (.skip (.code ?_))
    refine .seq (.reg (.q (.call fn57 rfl (fun w hz => handlers_calls w)) (.q (.move rfl) (.q (.idxA (j := 5) (vs := [Value.func (.func 88) #[] #[], Value.func (.func 84) #[] #[]]) Tryz.underlying135 a134 rfl rfl (by omega) rfl) (.q (.fld1 (v := Value.func (.func 88) #[] #[]) Tryz.underlying134 rfl rfl Tryz.underlying131 rfl rfl rfl) (.q (.assign rfl) (.nil (.code ?_))))))))
    refine .seq (.reg (.q (.move rfl) (.q (.neFn (b := true) ft131 rfl (.inr ⟨⟨_, _, _, rfl⟩, rfl⟩)) (.nil (.code ?_)))))
    refine .tt (.reg (.q (.move rfl) (.q (.move rfl) (.q (.move rfl) (.callAV fn88 rfl rfl (fun w hz => cutoff_calls w A J N T lv (.slice none 0 0) ps (begin0 a s 5) K (AuW.of (Ld := Ld) hz (fun x hx => hx) hl hjs) hI0) fun v32 L32 o32 => (?_))))))
    obtain ⟨sA, sc, rfl⟩ := OS.form o32
    refine .world ?_ (fun _ h => zperm List.perm_append_comm h)
    refine .q (.nilP rfl) (.q (.fld f89_7 rfl) (.st o22 0 rfl rfl rfl rfl rfl (.nil (.ret0 Tryz.results30 fun w1 hz => ⟨_, _, rfl, fin_due (b := beginA a s _) hz rfl rfl rfl rfl, _, _, _, rfl, DU.of o32, hjs⟩))))

theorem advance_calls (w0 w : World) (A J N T : Nat) (lv : Value) (a : Au) (K : Int) (L0 : List Blk) (hS : St A J N T lv a L0) (s p : Int) (hs0 : a.slot ≤ s) (hs1 : s ≤ 100001) (hp0 : 1 ≤ p) (hp1 : p ≤ 5) (hph : 1 ≤ a.phase) (hH : H w0 w L0) (hl : Rd encT 3 w0 lv a.l) (hI : AuI a K)  : Calls Tryz.prog 32 #[.pointer (some ⟨A, 0, none⟩), .int .i64 s, .int .i64 p] w fun r w' => ∃ v L', r = .returned v ∧ Z w0 w L0 L' w' ∧ (v = .int .i64 (advance a s p).2 ∧ St A J N T lv (advance a s p).1 L') := by
  obtain ⟨dv, ps, Ld, rfl, hD, hjs⟩ := hS
  obtain ⟨q1, q2, q3, q4, q5, q6⟩ := And.intro hI.s0 (And.intro hI.s1 (And.intro hI.c0 (And.intro hI.c1 (And.intro hI.k0 hI.k1))))
  refine enter (args := [_, _, _]) Tryz.func32 rfl rfl rfl (C := Z w0 w (BL A J N T lv dv ps Ld a) (BL A J N T lv dv ps Ld a)) (Z.start hH) ?_
  refine .seq (.reg (.q (.assign rfl) (.nil (.code ?_))))
  refine .seq (.block (.lp (fun s' : Au × Value × List (Option (Nat × Jb)) × List Blk => [(0, .pointer (some ⟨A, 0, none⟩)), (1, .int .i64 s), (2, .int .i64 p)]) (fun s' => BL A J N T lv s'.2.1 s'.2.2.1 s'.2.2.2 s'.1) (fun s' => AuI s'.1 K ∧ s'.1.l = a.l ∧ 1 ≤ s'.1.phase ∧ s'.1.slot ≤ s ∧ DU s'.2.1 s'.1.due s'.2.2.2 ∧ s'.1.js = s'.2.2.1.map (Option.map (·.2)) ∧ adv (advM s'.1 s) s'.1 s p = advance a s p) (fun s' => advM s'.1 s) (a, dv, ps, Ld) ⟨rfl, rfl, rfl, trivial⟩ (fun _ h => h) ⟨hI, rfl, hph, hs0, hD, hjs, rfl⟩ fun ⟨b, dv2, ps2, Ld2⟩ hk => ?_))
  obtain ⟨hk1, hk2, hk3, hk4, hk5, hk6, hk7⟩ := hk
  simp only at hk1 hk2 hk3 hk4 hk5 hk6 hk7
  obtain ⟨dA, dc, rfl, hdc, hd2⟩ := hk5
  have hk5 : DU (.slice dA b.due.length dc) b.due Ld2 := ⟨dA, dc, rfl, hdc, hd2⟩
  have hbs0 := hk1.s0
  have hbs1 := hk1.s1
  have hbp1 := hk1.p1
  show WC _ _ _ _ (Z w0 w _ (BL A J N T lv (.slice dA b.due.length dc) ps2 Ld2 b)) _
  refine .seq (.seq (.reg (.q (.move rfl) (.q (.nilP rfl) (.q (.fld f89_5 rfl) (.q (.ldO o3 0 rfl rfl rfl) (.q (.move rfl) (.ltS rfl rfl (fun h12 => ?_) (fun h12 => ?_)))))))))
  · refine .q (.move rfl) (.skip (.skip (.skip (.skip (.skip (.skip (.q (.pickT rfl rfl) (.nil (.code ?_)))))))))
    refine .tt (.skip (.code ?_))
    refine .block (.seq (.seq (.reg (.q (.move rfl) (.q (.nilP rfl) (.q (.fld f89_7 rfl) (.q (.ldO o22 0 rfl rfl rfl) (.q (.lenS s22.t rfl) (.gtS rfl rfl (fun h26 => ?_) (fun h26 => ?_))))))))))
    · refine .nil (.code ?_)
      refine .tt (.seq (.reg (.q (.move rfl) (.q (.nilP rfl) (.q (.fld f89_6 rfl) (.q (.ldO o3 0 rfl rfl rfl) (.q (.add rfl rfl (IntWalk.i64_in _ (by omega))) (.q (.assign rfl) (.nil (.code ?_))))))))))
      refine .ret (.thR (.inbR (.thR (.inbR (.thR (.ret1 Tryz.results32 rfl fun w1 hz => ⟨_, _, rfl, hz, by
        have hne : b.due ≠ [] := fun e => by rw [e] at h26; simp at h26
        have hM : ∃ n, advM b s = n + 1 := ⟨advM b s - 1, by unfold advM; omega⟩
        obtain ⟨n, hn⟩ := hM
        rw [hn, adv, if_pos (by omega), if_pos hne] at hk7
        rw [← hk7]
        exact ⟨rfl, _, _, _, rfl, hk5, hk6⟩⟩))))))
    · have hdn : b.due = [] := List.eq_nil_of_length_eq_zero (by omega)
      refine .nil (.code ?_)
      refine .ff (.skip (.code ?_))
      refine .seq (.reg (.q (.move rfl) (.q (.nilP rfl) (.q (.fld f89_6 rfl) (.q (.ldO o3 0 rfl rfl rfl) (.ltS rfl rfl (fun h36 => ?_) (fun h36 => ?_)))))))
      · refine .nil (.code ?_)
        refine .tt (.drawT mix 10 (by kernel_rfl) (fun _ h => h.drew) (.q (.move rfl) (.q (.move rfl) (.q (.nilP rfl) (.q (.fld f89_5 rfl) (.q (.ldO o3 0 rfl rfl rfl) (.q (.move rfl) (.q (.nilP rfl) (.q (.fld f89_6 rfl) (.q (.ldO o3 0 rfl rfl rfl) (.q (.add rfl rfl (IntWalk.i64_in _ (by omega))) (.tail (.callM (Lm := BL A J N T lv (.slice dA b.due.length dc) ps2 Ld2 b) (Lr := []) (Post := fun _ L' => St A J N T lv (beginA b (b.slot) (b.phase + 1)) L') fn30 rfl (pkN _) (fun w hH => begin_calls w0 w A J N T lv _ ps2 Ld2 b K (b.slot) (b.phase + 1) hH (hk2 ▸ hl) hk6 hk1 (by omega) (by omega) (by omega) (by omega)) fun v47 L47 p47 => (?_))))))))))))))
        obtain ⟨dv3, ps3, Ld3, rfl, hD3, hjs3⟩ := p47
        have hde : advM (beginA b (b.slot) (b.phase + 1)) s < advM b s := by unfold advM; show (5 * (s - (b.slot)) + (5 - (b.phase + 1))).toNat < (5 * (s - b.slot) + (5 - b.phase)).toNat; omega
        have hst : adv (advM (beginA b (b.slot) (b.phase + 1)) s) (beginA b (b.slot) (b.phase + 1)) s p = advance a s p := by
          have e : advM b s = advM (beginA b (b.slot) (b.phase + 1)) s + 1 := by unfold advM; show (5 * (s - b.slot) + (5 - b.phase)).toNat = (5 * (s - (b.slot)) + (5 - (b.phase + 1))).toNat + 1; omega
          rw [← hk7, e, adv, if_pos (by omega), if_neg (by rw [hdn]; simp), if_pos (by omega)]
        have hin : AuI (beginA b (b.slot) (b.phase + 1)) K ∧ (beginA b (b.slot) (b.phase + 1)).l = a.l ∧ 1 ≤ (beginA b (b.slot) (b.phase + 1)).phase ∧ (beginA b (b.slot) (b.phase + 1)).slot ≤ s ∧ DU dv3 (beginA b (b.slot) (b.phase + 1)).due Ld3 ∧ (beginA b (b.slot) (b.phase + 1)).js = ps3.map (Option.map (·.2)) ∧ adv (advM (beginA b (b.slot) (b.phase + 1)) s) (beginA b (b.slot) (b.phase + 1)) s p = advance a s p := ⟨beginA_I hk1 (by omega) (by omega) (by omega) (by omega), hk2, (by show 1 ≤ (b.phase + 1); omega), (by show (b.slot) ≤ s; omega), hD3, hjs3, hst⟩
        refine .nil (.inbN (.rd (beginA b b.slot (b.phase + 1), dv3, ps3, Ld3) ⟨rfl, rfl, rfl, trivial⟩ (fun _ h => by rw [List.append_nil] at h; exact h) hin hde))
      · refine .nil (.code ?_)
        refine .ff (.reg (.q (.move rfl) (.q (.move rfl) (.q (.nilP rfl) (.q (.fld f89_5 rfl) (.q (.ldO o3 0 rfl rfl rfl) (.q (.add rfl rfl (IntWalk.i64_in _ (by omega))) (.callM (Lm := BL A J N T lv (.slice dA b.due.length dc) ps2 Ld2 b) (Lr := []) (Post := fun _ L' => St A J N T lv (beginA b (b.slot + 1) (1)) L') fn30 rfl (pkN _) (fun w hH => begin_calls w0 w A J N T lv _ ps2 Ld2 b K (b.slot + 1) (1) hH (hk2 ▸ hl) hk6 hk1 (by omega) (by omega) (by omega) (by omega)) fun v54 L54 p54 => (?_)))))))))
        obtain ⟨dv3, ps3, Ld3, rfl, hD3, hjs3⟩ := p54
        have hde : advM (beginA b (b.slot + 1) (1)) s < advM b s := by unfold advM; show (5 * (s - (b.slot + 1)) + (5 - (1))).toNat < (5 * (s - b.slot) + (5 - b.phase)).toNat; omega
        have hst : adv (advM (beginA b (b.slot + 1) (1)) s) (beginA b (b.slot + 1) (1)) s p = advance a s p := by
          have e : advM b s = advM (beginA b (b.slot + 1) (1)) s + 1 := by unfold advM; show (5 * (s - b.slot) + (5 - b.phase)).toNat = (5 * (s - (b.slot + 1)) + (5 - (1))).toNat + 1; omega
          rw [← hk7, e, adv, if_pos (by omega), if_neg (by rw [hdn]; simp), if_neg (by omega)]
        have hin : AuI (beginA b (b.slot + 1) (1)) K ∧ (beginA b (b.slot + 1) (1)).l = a.l ∧ 1 ≤ (beginA b (b.slot + 1) (1)).phase ∧ (beginA b (b.slot + 1) (1)).slot ≤ s ∧ DU dv3 (beginA b (b.slot + 1) (1)).due Ld3 ∧ (beginA b (b.slot + 1) (1)).js = ps3.map (Option.map (·.2)) ∧ adv (advM (beginA b (b.slot + 1) (1)) s) (beginA b (b.slot + 1) (1)) s p = advance a s p := ⟨beginA_I hk1 (by omega) (by omega) (by omega) (by omega), hk2, (by show 1 ≤ (1); omega), (by show (b.slot + 1) ≤ s; omega), hD3, hjs3, hst⟩
        refine .nil (.inbN (.rd (beginA b (b.slot + 1) 1, dv3, ps3, Ld3) ⟨rfl, rfl, rfl, trivial⟩ (fun _ h => by rw [List.append_nil] at h; exact h) hin hde))
  · refine .q (.move rfl) (.q (.move rfl) (.q (.nilP rfl) (.q (.fld f89_6 rfl) (.q (.ldO o3 0 rfl rfl rfl) (.q (.move rfl) (.ltS rfl rfl (fun h19 => ?_) (fun h19 => ?_)))))))
    · refine .q (.pickF rfl rfl) (.nil (.code ?_))
      refine .tt (.skip (.code ?_))
      refine .block (.seq (.seq (.reg (.q (.move rfl) (.q (.nilP rfl) (.q (.fld f89_7 rfl) (.q (.ldO o22 0 rfl rfl rfl) (.q (.lenS s22.t rfl) (.gtS rfl rfl (fun h26 => ?_) (fun h26 => ?_))))))))))
      · refine .nil (.code ?_)
        refine .tt (.seq (.reg (.q (.move rfl) (.q (.nilP rfl) (.q (.fld f89_6 rfl) (.q (.ldO o3 0 rfl rfl rfl) (.q (.add rfl rfl (IntWalk.i64_in _ (by omega))) (.q (.assign rfl) (.nil (.code ?_))))))))))
        refine .ret (.thR (.inbR (.thR (.inbR (.thR (.ret1 Tryz.results32 rfl fun w1 hz => ⟨_, _, rfl, hz, by
        have hne : b.due ≠ [] := fun e => by rw [e] at h26; simp at h26
        have hM : ∃ n, advM b s = n + 1 := ⟨advM b s - 1, by unfold advM; omega⟩
        obtain ⟨n, hn⟩ := hM
        rw [hn, adv, if_pos (by omega), if_pos hne] at hk7
        rw [← hk7]
        exact ⟨rfl, _, _, _, rfl, hk5, hk6⟩⟩))))))
      · have hdn : b.due = [] := List.eq_nil_of_length_eq_zero (by omega)
        refine .nil (.code ?_)
        refine .ff (.skip (.code ?_))
        refine .seq (.reg (.q (.move rfl) (.q (.nilP rfl) (.q (.fld f89_6 rfl) (.q (.ldO o3 0 rfl rfl rfl) (.ltS rfl rfl (fun h36 => ?_) (fun h36 => ?_)))))))
        · refine .nil (.code ?_)
          refine .tt (.drawT mix 10 (by kernel_rfl) (fun _ h => h.drew) (.q (.move rfl) (.q (.move rfl) (.q (.nilP rfl) (.q (.fld f89_5 rfl) (.q (.ldO o3 0 rfl rfl rfl) (.q (.move rfl) (.q (.nilP rfl) (.q (.fld f89_6 rfl) (.q (.ldO o3 0 rfl rfl rfl) (.q (.add rfl rfl (IntWalk.i64_in _ (by omega))) (.tail (.callM (Lm := BL A J N T lv (.slice dA b.due.length dc) ps2 Ld2 b) (Lr := []) (Post := fun _ L' => St A J N T lv (beginA b (b.slot) (b.phase + 1)) L') fn30 rfl (pkN _) (fun w hH => begin_calls w0 w A J N T lv _ ps2 Ld2 b K (b.slot) (b.phase + 1) hH (hk2 ▸ hl) hk6 hk1 (by omega) (by omega) (by omega) (by omega)) fun v47 L47 p47 => (?_))))))))))))))
          obtain ⟨dv3, ps3, Ld3, rfl, hD3, hjs3⟩ := p47
          have hde : advM (beginA b (b.slot) (b.phase + 1)) s < advM b s := by unfold advM; show (5 * (s - (b.slot)) + (5 - (b.phase + 1))).toNat < (5 * (s - b.slot) + (5 - b.phase)).toNat; omega
          have hst : adv (advM (beginA b (b.slot) (b.phase + 1)) s) (beginA b (b.slot) (b.phase + 1)) s p = advance a s p := by
            have e : advM b s = advM (beginA b (b.slot) (b.phase + 1)) s + 1 := by unfold advM; show (5 * (s - b.slot) + (5 - b.phase)).toNat = (5 * (s - (b.slot)) + (5 - (b.phase + 1))).toNat + 1; omega
            rw [← hk7, e, adv, if_pos (by omega), if_neg (by rw [hdn]; simp), if_pos (by omega)]
          have hin : AuI (beginA b (b.slot) (b.phase + 1)) K ∧ (beginA b (b.slot) (b.phase + 1)).l = a.l ∧ 1 ≤ (beginA b (b.slot) (b.phase + 1)).phase ∧ (beginA b (b.slot) (b.phase + 1)).slot ≤ s ∧ DU dv3 (beginA b (b.slot) (b.phase + 1)).due Ld3 ∧ (beginA b (b.slot) (b.phase + 1)).js = ps3.map (Option.map (·.2)) ∧ adv (advM (beginA b (b.slot) (b.phase + 1)) s) (beginA b (b.slot) (b.phase + 1)) s p = advance a s p := ⟨beginA_I hk1 (by omega) (by omega) (by omega) (by omega), hk2, (by show 1 ≤ (b.phase + 1); omega), (by show (b.slot) ≤ s; omega), hD3, hjs3, hst⟩
          refine .nil (.inbN (.rd (beginA b b.slot (b.phase + 1), dv3, ps3, Ld3) ⟨rfl, rfl, rfl, trivial⟩ (fun _ h => by rw [List.append_nil] at h; exact h) hin hde))
        · refine .nil (.code ?_)
          refine .ff (.reg (.q (.move rfl) (.q (.move rfl) (.q (.nilP rfl) (.q (.fld f89_5 rfl) (.q (.ldO o3 0 rfl rfl rfl) (.q (.add rfl rfl (IntWalk.i64_in _ (by omega))) (.callM (Lm := BL A J N T lv (.slice dA b.due.length dc) ps2 Ld2 b) (Lr := []) (Post := fun _ L' => St A J N T lv (beginA b (b.slot + 1) (1)) L') fn30 rfl (pkN _) (fun w hH => begin_calls w0 w A J N T lv _ ps2 Ld2 b K (b.slot + 1) (1) hH (hk2 ▸ hl) hk6 hk1 (by omega) (by omega) (by omega) (by omega)) fun v54 L54 p54 => (?_)))))))))
          obtain ⟨dv3, ps3, Ld3, rfl, hD3, hjs3⟩ := p54
          have hde : advM (beginA b (b.slot + 1) (1)) s < advM b s := by unfold advM; show (5 * (s - (b.slot + 1)) + (5 - (1))).toNat < (5 * (s - b.slot) + (5 - b.phase)).toNat; omega
          have hst : adv (advM (beginA b (b.slot + 1) (1)) s) (beginA b (b.slot + 1) (1)) s p = advance a s p := by
            have e : advM b s = advM (beginA b (b.slot + 1) (1)) s + 1 := by unfold advM; show (5 * (s - b.slot) + (5 - b.phase)).toNat = (5 * (s - (b.slot + 1)) + (5 - (1))).toNat + 1; omega
            rw [← hk7, e, adv, if_pos (by omega), if_neg (by rw [hdn]; simp), if_neg (by omega)]
          have hin : AuI (beginA b (b.slot + 1) (1)) K ∧ (beginA b (b.slot + 1) (1)).l = a.l ∧ 1 ≤ (beginA b (b.slot + 1) (1)).phase ∧ (beginA b (b.slot + 1) (1)).slot ≤ s ∧ DU dv3 (beginA b (b.slot + 1) (1)).due Ld3 ∧ (beginA b (b.slot + 1) (1)).js = ps3.map (Option.map (·.2)) ∧ adv (advM (beginA b (b.slot + 1) (1)) s) (beginA b (b.slot + 1) (1)) s p = advance a s p := ⟨beginA_I hk1 (by omega) (by omega) (by omega) (by omega), hk2, (by show 1 ≤ (1); omega), (by show (b.slot + 1) ≤ s; omega), hD3, hjs3, hst⟩
          refine .nil (.inbN (.rd (beginA b (b.slot + 1) 1, dv3, ps3, Ld3) ⟨rfl, rfl, rfl, trivial⟩ (fun _ h => by rw [List.append_nil] at h; exact h) hin hde))
    · refine .q (.pickF rfl rfl) (.nil (.code ?_))
      refine .ff (.exit (.thE (.thE (.inbX (.code ?_)))))
      refine .seq (.reg (.q (.assign rfl) (.nil (.code ?_))))
      refine .ret (.ret1 Tryz.results32 rfl fun w1 hz => ⟨_, _, rfl, hz, by
      have hr : adv (advM b s) b s p = (b, 0) := by
        cases advM b s with
        | zero => rfl
        | succ n => rw [adv, if_neg (by omega)]
      rw [hr] at hk7
      rw [← hk7]
      exact ⟨rfl, _, _, _, rfl, hk5, hk6⟩⟩)

end Go.Proofs.YtjccenbacjhglaaGreatDoor.AU5
