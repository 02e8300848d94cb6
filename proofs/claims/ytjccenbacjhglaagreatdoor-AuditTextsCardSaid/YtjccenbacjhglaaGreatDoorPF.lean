import Derived.Test.YtjccenbacjhglaaGreatDoorProg
import Derived.Test.YtjccenbacjhglaaGreatDoorK
import Derived.Test.YtjccenbacjhglaaGreatDoorM
set_option linter.unusedVariables false
set_option linter.unusedSimpArgs false
set_option maxRecDepth 100000
set_option maxHeartbeats 1000000
namespace Go.Proofs.YtjccenbacjhglaaGreatDoor.PF
open Go Go.Proofs Go.RowKit Go.Proofs.YtjccenbacjhglaaGreatDoor.K Go.Proofs.YtjccenbacjhglaaGreatDoor.M
theorem a35 : Ag Tryz.prog 35 3 := ⟨_, Tryz.underlying35, rfl, by kernel_rfl⟩
theorem a172 : Ag Tryz.prog 172 6 := ⟨_, Tryz.underlying172, rfl, by kernel_rfl⟩
theorem a174 : Ag Tryz.prog 174 3 := ⟨_, Tryz.underlying174, rfl, by kernel_rfl⟩
theorem f35_1 : Fld Tryz.prog 35 1 1 := ⟨_, _, Tryz.underlying35, rfl, rfl, 0, by kernel_rfl⟩
theorem f35_2 : Fld Tryz.prog 35 2 2 := ⟨_, _, Tryz.underlying35, rfl, rfl, 0, by kernel_rfl⟩
theorem f172_0 : Fld Tryz.prog 172 0 0 := ⟨_, _, Tryz.underlying172, rfl, rfl, 0, by kernel_rfl⟩
theorem f172_1 : Fld Tryz.prog 172 1 1 := ⟨_, _, Tryz.underlying172, rfl, rfl, 2, by kernel_rfl⟩
theorem f172_2 : Fld Tryz.prog 172 2 4 := ⟨_, _, Tryz.underlying172, rfl, rfl, 0, by kernel_rfl⟩
theorem f172_3 : Fld Tryz.prog 172 3 5 := ⟨_, _, Tryz.underlying172, rfl, rfl, 0, by kernel_rfl⟩
theorem f174_1 : Fld Tryz.prog 174 1 1 := ⟨_, _, Tryz.underlying174, rfl, rfl, 0, by kernel_rfl⟩
theorem f174_2 : Fld Tryz.prog 174 2 2 := ⟨_, _, Tryz.underlying174, rfl, rfl, 0, by kernel_rfl⟩
theorem fn29 : Fnc Tryz.prog 29 := ⟨by kernel_rfl⟩
theorem fn74 : Fnc Tryz.prog 74 := ⟨by kernel_rfl⟩
theorem fn106 : Fnc Tryz.prog 106 := ⟨by kernel_rfl⟩
theorem fn107 : Fnc Tryz.prog 107 := ⟨by kernel_rfl⟩
theorem fn110 : Fnc Tryz.prog 110 := ⟨by kernel_rfl⟩
theorem fn111 : Fnc Tryz.prog 111 := ⟨by kernel_rfl⟩
theorem fn112 : Fnc Tryz.prog 112 := ⟨by kernel_rfl⟩
theorem fn158 : Fnc Tryz.prog 158 := ⟨by kernel_rfl⟩
theorem fn159 : Fnc Tryz.prog 159 := ⟨by kernel_rfl⟩
theorem fn160 : Fnc Tryz.prog 160 := ⟨by kernel_rfl⟩
theorem fn188 : Fnc Tryz.prog 188 := ⟨by kernel_rfl⟩
theorem fn189 : Fnc Tryz.prog 189 := ⟨by kernel_rfl⟩
theorem fn190 : Fnc Tryz.prog 190 := ⟨by kernel_rfl⟩
theorem mix : Tryz.prog.follows .mixedOrders = true := by kernel_rfl
theorem o3 : One Tryz.prog 3 := ⟨_, Tryz.underlying3, rfl, by kernel_rfl⟩
theorem s36 : Slc Tryz.prog 36 35 3 32 [.string ⟨#[]⟩, .int .i64 0, .int .i64 0] := ⟨Tryz.underlying36, by kernel_rfl, rfl⟩
theorem st174 : Str Tryz.prog 174 [.int .i64 0, .int .i64 0, .int .i64 0] #[(0, 1), (1, 1), (2, 1)] := ⟨⟨by kernel_rfl⟩, _, Tryz.underlying174, fun w => by kernel_rfl⟩
theorem z35 : Zr Tryz.prog 35 [.string ⟨#[]⟩, .int .i64 0, .int .i64 0] := ⟨by kernel_rfl⟩
theorem z174 : Zr Tryz.prog 174 [.int .i64 0, .int .i64 0, .int .i64 0] := ⟨by kernel_rfl⟩
theorem valid_calls (w : World) (v : Value) (l : List Tk) (h : Rd encT 3 w v l) : Calls Tryz.prog 29 #[v] w fun e w' => e = .returned (.bool (validT l)) ∧ Z w w [] [] w' := by
  obtain ⟨A, c, rfl, hlen, henc, hc⟩ := h
  refine enter (args := [_]) Tryz.func29 rfl rfl rfl (C := Z w w [] []) (Z.start (H.nil w)) ?_
  refine .seq (.reg (.q (.assign rfl) (.nil (.code ?_))))
  refine .seq (.seq (.reg (.q (.move rfl) (.q (.lenS s36.t rfl) (.q (.move rfl) (.nil (.code ?_)))))))
  refine .block (.lp (fun k : Nat => [(0, .slice A l.length c), (5, .slice A l.length c), (6, .int .i64 (l.length : Int)), (7, .int .i64 (k : Int))]) (fun _ => []) (fun k => k ≤ l.length ∧ (l.take k).all okT = true) (fun k => l.length - k) 0 ⟨rfl, rfl, rfl, rfl, trivial⟩ (fun _ h => h) ⟨Nat.zero_le _, by simp⟩ fun k hk => ?_)
  obtain ⟨hk1, hk2⟩ := hk
  refine .seq (.reg (.ltS rfl rfl (fun h8 => ?_) (fun h8 => ?_)))
  · refine .nil (.code ?_)
    refine .seq (.tt (.skip (.code ?_)))
    refine .seq (.block (.seq (.reg (?_))))
    rcases hc with rfl | ⟨b, off, rfl, hc⟩
    · simp at h8; omega
    have hlt : k < l.length := by omega
    refine .q (.ix s36 rfl rfl (by omega)) (.q (.ldWA a35 (cs := encT l[k]) rfl (henc _) fun j hj => hc k hlt j (by rw [henc] at hj; exact hj)) (.alloc z35 fun b4 => .stA a35 0 rfl rfl rfl rfl rfl rfl (.nil (.code ?_))))
    refine .seq (.reg (.q (.fld f35_1 rfl) (.q (.ldO o3 0 rfl rfl rfl) (.ltS rfl rfl (fun h13 => ?_) (fun h13 => ?_)))))
    · refine .q (.move rfl) (.skip (.skip (.skip (.skip (.skip (.q (.pickT rfl rfl) (.q (.move rfl) (.skip (.skip (.skip (.q (.pickT rfl rfl) (.nil (.code ?_)))))))))))))
      refine .tt (.seq (.reg (.q (.assign rfl) (.nil (.code ?_)))))
      refine .ret (.inbR (.thR (.thR (.inbR (.thR (.ret1 Tryz.results29 rfl fun w hz => ⟨by rw [validT_no k (by omega) (by simp [okT]; omega)], hz.sublist (List.nil_sublist _)⟩))))))
    · refine .q (.move rfl) (.q (.fld f35_2 rfl) (.q (.ldO o3 0 rfl rfl rfl) (.q (.fld f35_1 rfl) (.q (.ldO o3 0 rfl rfl rfl) (.ltS rfl rfl (fun h19 => ?_) (fun h19 => ?_))))))
      · refine .q (.pickF rfl rfl) (.q (.move rfl) (.skip (.skip (.skip (.q (.pickT rfl rfl) (.nil (.code ?_)))))))
        refine .tt (.seq (.reg (.q (.assign rfl) (.nil (.code ?_)))))
        refine .ret (.inbR (.thR (.thR (.inbR (.thR (.ret1 Tryz.results29 rfl fun w hz => ⟨by rw [validT_no k (by omega) (by simp [okT]; omega)], hz.sublist (List.nil_sublist _)⟩))))))
      · refine .q (.pickF rfl rfl) (.q (.move rfl) (.q (.fld f35_2 rfl) (.q (.ldO o3 0 rfl rfl rfl) (.gtS rfl rfl (fun h24 => ?_) (fun h24 => ?_)))))
        · refine .q (.pickF rfl rfl) (.nil (.code ?_))
          refine .tt (.seq (.reg (.q (.assign rfl) (.nil (.code ?_)))))
          refine .ret (.inbR (.thR (.thR (.inbR (.thR (.ret1 Tryz.results29 rfl fun w hz => ⟨by rw [validT_no k (by omega) (by simp [okT]; omega)], hz.sublist (List.nil_sublist _)⟩))))))
        · refine .q (.pickF rfl rfl) (.nil (.code ?_))
          refine .ff (.skip (.inbN (.code ?_)))
          refine .reg (.q (.add rfl rfl (IntWalk.i64_in _ (by omega))) (.q (.move rfl) (.nil (.rd (k + 1) ⟨rfl, rfl, rfl, rfl, trivial⟩ (fun _ h => drp (h)) ⟨by omega, take_all (by omega) hk2 (by simp [okT]; omega)⟩ (by omega)))))
  · refine .nil (.code ?_)
    refine .seq (.ff (.exit (.thE (.thE (.inbX (.code ?_))))))
    refine .seq (.reg (.q (.move rfl) (.q (.lenS s36.t rfl) (.q (.cmp rfl rfl rfl) (.q (.assign rfl) (.nil (.code ?_)))))))
    refine .ret (.ret1 Tryz.results29 rfl fun w hz => ⟨by rw [show validT l = decide (l.length ≤ 40) by rw [List.take_of_length_le (by omega)] at hk2; simp [validT, hk2]]; simp; omega, hz.sublist (List.nil_sublist _)⟩)

theorem pvalid_calls (w : World) (t : Tk) : Calls Tryz.prog 106 #[.agg (encT t).toArray] w fun e w' => e = .returned (.bool (okT t)) ∧ Z w w [] [] w' := by
  refine enter (args := [_]) Tryz.func106 rfl rfl rfl (C := Z w w [] []) (Z.start (H.nil w)) ?_
  refine .seq (.reg (.box rfl fun b1 => .q (.assign rfl) (.nil (.code ?_))))
  refine .seq (.reg (.q (.ldOA a35 0 rfl rfl rfl rfl) (.bslice s36 rfl rfl rfl fun b4 => .q (.call (v := .bool (okT t)) fn29 rfl (fun w hz => by rw [← validT_one]; exact valid_calls w _ [t] (Rd.own (xs := [t]) (T := 35) (c := encT t) (fr := (0, 0)) (hz.has (i := 0) rfl) encT_len rfl (by simp)))) (.q (.assign rfl) (.nil (.code ?_))))))
  refine .ret (.ret1 Tryz.results106 rfl fun w hz => ⟨rfl, hz.sublist (List.nil_sublist _)⟩)

theorem deadline_calls (w : World) (t : Tk) (i : Int) (ho : okT t = true) (h1 : 1 ≤ i) (h2 : i ≤ t.c) : Calls Tryz.prog 107 #[.agg (encT t).toArray, .int .i64 i] w fun e w' => e = .returned (.int .i64 (wDl t i)) ∧ Z w w [] [] w' := by
  obtain ⟨h3, h4, h5⟩ := okT_bd ho
  have hb := prod_bd (a := i) (b := t.p) (by omega) (by omega) (by omega) h5
  refine enter (args := [_, _]) Tryz.func107 rfl rfl rfl (C := Z w w [] []) (Z.start (H.nil w)) ?_
  refine .seq (.reg (.box rfl fun b2 => .q (.assign rfl) (.nil (.code ?_))))
  refine .seq (.reg (.q (.move rfl) (.q (.fld f35_2 rfl) (.q (.ldO o3 0 rfl rfl rfl) (.q (.mul rfl rfl (IntWalk.i64_in _ (by omega))) (.q (.fld f35_1 rfl) (.q (.ldO o3 0 rfl rfl rfl) (.q (.add rfl rfl (IntWalk.i64_in _ (by omega))) (.q (.sub rfl rfl (IntWalk.i64_in _ (by omega))) (.q (.fld f35_1 rfl) (.q (.ldO o3 0 rfl rfl rfl) (.q (.quo rfl rfl (by omega) (IntWalk.i64_quo _ _ (by omega))) (.q (.assign rfl) (.nil (.code ?_)))))))))))))))
  refine .ret (.ret1 Tryz.results107 rfl fun w hz => ⟨rfl, hz.sublist (List.nil_sublist _)⟩)

theorem window_calls (w : World) (t : Tk) (i : Int) : Calls Tryz.prog 74 #[.agg (encT t).toArray, .int .i64 i] w fun e w' => e = .returned (.tuple #[.agg (encW (window t i)).toArray, .int .i64 (winE t i)]) ∧ Z w w [] [] w' := by
  refine enter (args := [_, _]) Tryz.func74 rfl rfl rfl (C := Z w w [] []) (Z.start (H.nil w)) ?_
  refine .seq (.reg (.box rfl fun b2 => .alloc z174 fun b4 => .q (.assign rfl) (.nil (.code ?_))))
  refine .seq (.seq (.reg (.q (.ldOA a35 1 rfl rfl rfl rfl) (.q (.call fn106 rfl (fun w hz => pvalid_calls w t)) (.q (.notB rfl) (.nil (.code ?_)))))))
  refine .cond (fun h8 => ?_) (fun h8 => ?_)
  · refine .seq (.reg (.q (.build st174 rfl rfl) (.stA a174 0 rfl rfl rfl rfl rfl rfl (.q (.assign rfl) (.nil (.code ?_))))))
    refine .ret (.thR (.retCT a174 0 Tryz.results74 rfl rfl rfl rfl rfl fun w hz => ⟨by rw [show window t i = ⟨0, 0, 0⟩ by simp [window, winE, (show okT t = false by simpa using h8)], show winE t i = 1 by simp [winE, (show okT t = false by simpa using h8)]]; rfl, hz.sublist (List.nil_sublist _)⟩))
  · refine .skip (.code ?_)
    refine .seq (.seq (.reg (?_)))
    have ho : okT t = true := by simpa using h8
    obtain ⟨h3, h4, h5⟩ := okT_bd ho
    refine .q (.move rfl) (.ltS rfl rfl (fun h11 => ?_) (fun h11 => ?_))
    · refine .q (.move rfl) (.skip (.skip (.skip (.skip (.q (.pickT rfl rfl) (.nil (.code ?_)))))))
      refine .tt (.seq (.reg (.q (.build st174 rfl rfl) (.stA a174 0 rfl rfl rfl rfl rfl rfl (.q (.assign rfl) (.nil (.code ?_)))))))
      refine .ret (.thR (.retCT a174 0 Tryz.results74 rfl rfl rfl rfl rfl fun w hz => ⟨by rw [show winE t i = 2 by simp [winE, ho]; omega, show window t i = ⟨0, 0, 0⟩ by simp [window, winE, ho]; omega]; rfl, hz.sublist (List.nil_sublist _)⟩))
    · refine .q (.move rfl) (.q (.move rfl) (.q (.fld f35_1 rfl) (.q (.ldO o3 1 rfl rfl rfl) (.gtS rfl rfl (fun h16 => ?_) (fun h16 => ?_)))))
      · refine .q (.pickF rfl rfl) (.nil (.code ?_))
        refine .tt (.seq (.reg (.q (.build st174 rfl rfl) (.stA a174 0 rfl rfl rfl rfl rfl rfl (.q (.assign rfl) (.nil (.code ?_)))))))
        refine .ret (.thR (.retCT a174 0 Tryz.results74 rfl rfl rfl rfl rfl fun w hz => ⟨by rw [show winE t i = 2 by simp [winE, ho]; omega, show window t i = ⟨0, 0, 0⟩ by simp [window, winE, ho]; omega]; rfl, hz.sublist (List.nil_sublist _)⟩))
      · refine .q (.pickF rfl rfl) (.nil (.code ?_))
        refine .ff (.skip (.code ?_))
        refine .seq (.drawT mix 13 (by kernel_rfl) (fun _ h => h.drew) (?_))
        have hb := prod_bd (a := i - 1) (b := t.p) (by omega) (by omega) (by omega) h5
        refine .q (.move rfl) (.q (.move rfl) (.q (.sub rfl rfl (IntWalk.i64_in _ (by omega))) (.q (.fld f35_2 rfl) (.q (.ldO o3 1 rfl rfl rfl) (.q (.mul rfl rfl (IntWalk.i64_in _ (by omega))) (.q (.fld f35_1 rfl) (.q (.ldO o3 1 rfl rfl rfl) (.q (.quo rfl rfl (by omega) (IntWalk.i64_quo _ _ (by omega))) (.q (.ldOA a35 1 rfl rfl rfl rfl) (.q (.move rfl) (.q (.call fn107 rfl (fun w hz => deadline_calls w t i ho (by omega) (by omega))) (.q (.build st174 rfl rfl) (.tail (.stA a174 0 rfl rfl rfl rfl rfl rfl (.q (.assign rfl) (.nil (.code ?_)))))))))))))))))
        refine .ret (.retCT a174 0 Tryz.results74 rfl rfl rfl rfl rfl fun w hz => ⟨by rw [show winE t i = 0 from winE0.2 ⟨ho, by omega, by omega⟩, show window t i = ⟨i, wRel t i, wDl t i⟩ by simp [window, winE0.2 ⟨ho, (show 1 ≤ i by omega), (show i ≤ t.c by omega)⟩]]; rfl, hz.sublist (List.nil_sublist _)⟩)

theorem overl_calls (w : World) (t : Tk) (i : Int) : Calls Tryz.prog 111 #[.agg (encT t).toArray, .int .i64 i] w fun e w' => e = .returned (.bool (overl t i)) ∧ Z w w [] [] w' := by
  refine enter (args := [_, _]) Tryz.func111 rfl rfl rfl (C := Z w w [] []) (Z.start (H.nil w)) ?_
  refine .seq (.reg (.box rfl fun b2 => .q (.assign rfl) (.nil (.code ?_))))
  refine .seq (.reg (.q (.ldOA a35 0 rfl rfl rfl rfl) (.q (.move rfl) (.q (.call fn74 rfl (fun w hz => window_calls w t i)) (.q (.move rfl) (.q (.ext rfl rfl) (.q (.ext rfl rfl) (.alloc z174 fun b5 => .stA a174 0 rfl rfl rfl rfl rfl rfl (.q (.assign rfl) (.nil (.code ?_)))))))))))
  refine .seq (.reg (.q (.move rfl) (.eqS rfl rfl (fun h14 => ?_) (fun h14 => ?_))))
  · obtain ⟨ho, h1, h2⟩ := winE0.1 h14
    obtain ⟨h3, h4, h5⟩ := okT_bd ho
    have hb := prod_bd (a := i) (b := t.p) (by omega) (by omega) (by omega) h5
    refine .q (.move rfl) (.q (.move rfl) (.q (.fld f35_2 rfl) (.q (.ldO o3 1 rfl rfl rfl) (.q (.mul rfl rfl (IntWalk.i64_in _ (by omega))) (.q (.fld f35_1 rfl) (.q (.ldO o3 1 rfl rfl rfl) (.q (.rem rfl rfl (by omega) (Int.tmod_eq_emod_of_nonneg hb.1)) (.neS rfl rfl (fun h23 => ?_) (fun h23 => ?_)))))))))
    · refine .q (.pickT rfl rfl) (.q (.assign rfl) (.nil (.code ?_)))
      refine .ret (.ret1 Tryz.results111 rfl fun w hz => ⟨bv (by simp [overl, h14, h23]), hz.sublist (List.nil_sublist _)⟩)
    · refine .q (.pickT rfl rfl) (.q (.assign rfl) (.nil (.code ?_)))
      refine .ret (.ret1 Tryz.results111 rfl fun w hz => ⟨bv (by simp [overl, h14, h23]), hz.sublist (List.nil_sublist _)⟩)
  · refine .q (.move rfl) (.skip (.skip (.skip (.skip (.skip (.skip (.skip (.skip (.q (.pickF rfl rfl) (.q (.assign rfl) (.nil (.code ?_))))))))))))
    refine .ret (.ret1 Tryz.results111 rfl fun w hz => ⟨bv (by simp [overl, h14]), hz.sublist (List.nil_sublist _)⟩)

theorem heavy_calls (w : World) (t : Tk) : Calls Tryz.prog 159 #[.agg (encT t).toArray] w fun e w' => e = .returned (.bool (heavy t)) ∧ Z w w [] [] w' := by
  refine enter (args := [_]) Tryz.func159 rfl rfl rfl (C := Z w w [] []) (Z.start (H.nil w)) ?_
  refine .seq (.reg (.box rfl fun b1 => .q (.assign rfl) (.nil (.code ?_))))
  refine .seq (.reg (.q (.ldOA a35 0 rfl rfl rfl rfl) (.qB (.call fn106 rfl (fun w hz => pvalid_calls w t)) (fun h4 => ?_) (fun h4 => ?_))))
  · obtain ⟨h1, h2, h3⟩ := okT_bd h4
    refine .q (.move rfl) (.q (.fld f35_1 rfl) (.q (.ldO o3 0 rfl rfl rfl) (.q (.fld f35_2 rfl) (.q (.ldO o3 0 rfl rfl rfl) (.ltS rfl rfl (fun h10 => ?_) (fun h10 => ?_))))))
    · refine .q (.pickT rfl rfl) (.q (.move rfl) (.q (.fld f35_1 rfl) (.q (.ldO o3 0 rfl rfl rfl) (.q (.mul rfl rfl (IntWalk.i64_in _ (by omega))) (.q (.fld f35_2 rfl) (.q (.ldO o3 0 rfl rfl rfl) (.geS rfl rfl (fun h18 => ?_) (fun h18 => ?_))))))))
      · refine .q (.pickT rfl rfl) (.q (.assign rfl) (.nil (.code ?_)))
        refine .ret (.ret1 Tryz.results159 rfl fun w hz => ⟨bv (by simp [heavy, h4]; omega), hz.sublist (List.nil_sublist _)⟩)
      · refine .q (.pickT rfl rfl) (.q (.assign rfl) (.nil (.code ?_)))
        refine .ret (.ret1 Tryz.results159 rfl fun w hz => ⟨bv (by simp [heavy, h4]; omega), hz.sublist (List.nil_sublist _)⟩)
    · refine .q (.pickT rfl rfl) (.q (.move rfl) (.skip (.skip (.skip (.skip (.skip (.skip (.q (.pickF rfl rfl) (.q (.assign rfl) (.nil (.code ?_)))))))))))
      refine .ret (.ret1 Tryz.results159 rfl fun w hz => ⟨bv (by simp [heavy, h4]; omega), hz.sublist (List.nil_sublist _)⟩)
  · refine .q (.move rfl) (.skip (.skip (.skip (.skip (.skip (.q (.pickF rfl rfl) (.q (.move rfl) (.skip (.skip (.skip (.skip (.skip (.skip (.q (.pickF rfl rfl) (.q (.assign rfl) (.nil (.code ?_)))))))))))))))))
    refine .ret (.ret1 Tryz.results159 rfl fun w hz => ⟨bv (by simp [heavy, h4]), hz.sublist (List.nil_sublist _)⟩)

theorem ends_calls (w : World) (t : Tk) (i : Int) : Calls Tryz.prog 190 #[.agg (encT t).toArray, .int .i64 i] w fun e w' => e = .returned (.int .i64 (ends t i)) ∧ Z w w [] [] w' := by
  have hb := window_bd t i
  refine enter (args := [_, _]) Tryz.func190 rfl rfl rfl (C := Z w w [] []) (Z.start (H.nil w)) ?_
  refine .seq (.reg (.box rfl fun b2 => .q (.assign rfl) (.nil (.code ?_))))
  refine .seq (.reg (.q (.ldOA a35 0 rfl rfl rfl rfl) (.q (.move rfl) (.q (.call fn74 rfl (fun w hz => window_calls w t i)) (.q (.move rfl) (.q (.ext rfl rfl) (.q (.ext rfl rfl) (.alloc z174 fun b5 => .stA a174 0 rfl rfl rfl rfl rfl rfl (.q (.assign rfl) (.nil (.code ?_)))))))))))
  refine .seq (.block (.seq (.reg (.q (.ldOA a35 1 rfl rfl rfl rfl) (.q (.move rfl) (.qB (.call fn111 rfl (fun w hz => overl_calls w t i)) (fun h16 => ?_) (fun h16 => ?_)))))))
  · refine .q (.notB rfl) (.q (.assign rfl) (.nil (.code ?_)))
    refine .ff (.seq (.reg (.q (.fld f174_2 rfl) (.q (.ldO o3 0 rfl rfl rfl) (.q (.fld f174_1 rfl) (.q (.ldO o3 0 rfl rfl rfl) (.q (.sub rfl rfl (IntWalk.i64_in _ (by omega))) (.eqS rfl rfl (fun h26 => ?_) (fun h26 => ?_)))))))))
    · refine .q (.assign rfl) (.nil (.code ?_))
      refine .tt (.seq (.reg (.q (.fld f174_2 rfl) (.q (.ldO o3 0 rfl rfl rfl) (.q (.sub rfl rfl (IntWalk.i64_in _ (by omega))) (.q (.assign rfl) (.nil (.code ?_))))))))
      refine .ret (.inbR (.thR (.ret1 Tryz.results190 rfl fun w hz => ⟨iv (by simp [ends, h16, h26]), hz.sublist (List.nil_sublist _)⟩)))
    · refine .q (.assign rfl) (.nil (.code ?_))
      refine .ff (.skip (.inbN (.code ?_)))
      refine .seq (.reg (.q (.assign rfl) (.nil (.code ?_))))
      refine .ret (.ret1 Tryz.results190 rfl fun w hz => ⟨iv (by simp [ends, h16, h26]), hz.sublist (List.nil_sublist _)⟩)
  · refine .q (.notB rfl) (.q (.assign rfl) (.nil (.code ?_)))
    refine .tt (.seq (.reg (.q (.fld f174_2 rfl) (.q (.ldO o3 0 rfl rfl rfl) (.q (.assign rfl) (.nil (.code ?_)))))))
    refine .ret (.inbR (.thR (.ret1 Tryz.results190 rfl fun w hz => ⟨iv (by simp [ends, h16]), hz.sublist (List.nil_sublist _)⟩)))


/-- The first number below n at which p says yes; n where there is none. -/
def srch (p : Nat → Bool) (n : Nat) : Nat := ((List.range n).find? p).getD n
theorem mono_no {p : Nat → Bool} (hmono : ∀ a b, a ≤ b → p a = true → p b = true) {k : Nat} (h : (!p k) = true) (m : Nat) (hm : m < k + 1) : p m = false := by
  cases hp : p m
  · rfl
  · have := hmono m k (by omega) hp
    simp [this] at h
theorem srch_eq {p : Nat → Bool} {n k : Nat} (hk : k ≤ n) (h1 : ∀ m, m < k → p m = false) (h2 : k < n → p k = true) : srch p n = k := by
  unfold srch
  rcases Nat.lt_or_ge k n with h | h
  · have : (List.range n).find? p = some k := by
      rw [List.find?_range_eq_some]
      exact ⟨h2 h, by simpa using h, fun j hj => by simp [h1 j hj]⟩
    rw [this]; rfl
  · have hkn : k = n := by omega
    subst hkn
    have : (List.range k).find? p = none := by
      rw [List.find?_eq_none]
      intro m hm
      simp [h1 m (by simpa using hm)]
    rw [this]; rfl

theorem search_calls (w : World) (N : Nat) (hN : (N : Int) ≤ 4611686018427387904) (f : FuncId) (cap : List Value) (p : Nat → Bool) (hF : Fnc Tryz.prog f) (hmono : ∀ a b, a ≤ b → p a = true → p b = true) (hf : ∀ w', Z w w [] [] w' → ∀ m, m < N → Calls Tryz.prog f (([] : List Value) ++ [Value.int .i64 (m : Int)] ++ cap).toArray w' fun e w'' => e = .returned (.bool (p m)) ∧ Z w' w' [] [] w'') : Calls Tryz.prog 188 #[.int .i64 (N : Int), .func (.func f) #[] cap.toArray] w fun e w' => e = .returned (.int .i64 (srch p N : Int)) ∧ Z w w [] [] w' := by
  refine enter (args := [_, _]) Tryz.func188 rfl rfl rfl (C := Z w w [] []) (Z.start (H.nil w)) ?_
  refine .seq (.reg (.q (.assign rfl) (.nil (.code ?_))))
  refine .seq (.reg (.q (.move rfl) (.q (.assign rfl) (.q (.assign rfl) (.nil (.code ?_))))))
  refine .seq (.block (.lp (fun s : Nat × Nat => [(1, .func (.func f) #[] cap.toArray), (5, .int .i64 (s.1 : Int)), (6, .int .i64 (s.2 : Int))]) (fun _ => []) (fun s => s.1 ≤ s.2 ∧ s.2 ≤ N ∧ (∀ m, m < s.1 → p m = false) ∧ ∀ m, s.2 ≤ m → m < N → p m = true) (fun s => s.2 - s.1) (0, N) ⟨rfl, rfl, rfl, trivial⟩ (fun _ h => h) ⟨Nat.zero_le _, Nat.le_refl _, fun m hm => absurd hm (Nat.not_lt_zero m), fun m h1 h2 => absurd h2 (by omega)⟩ fun ⟨i, j⟩ hk => ?_))
  obtain ⟨hk1, hk2, hk3, hk4⟩ := hk
  simp only at hk1 hk2 hk3 hk4
  refine .seq (.seq (.reg (.q (.move rfl) (.q (.move rfl) (.ltS rfl rfl (fun h11 => ?_) (fun h11 => ?_))))))
  · have hlt : i < j := by omega
    have hsum : (↑i + ↑j : Int) = ((i + j : Nat) : Int) := by omega
    refine .nil (.code ?_)
    refine .tt (.skip (.code ?_))
    refine .block (.seq (.reg (.q (.move rfl) (.q (.move rfl) (.q (.add rfl rfl (IntWalk.i64_in _ (by omega))) (.q (.conv Tryz.underlying3 Tryz.underlying105 rfl (IntWalk.u64_in _ (by omega))) (.q (.shr rfl rfl (by omega) (show _ = (((i + j) / 2 : Nat) : Int) by rw [hsum]; simp [IntKind.bits, Int.fdiv_eq_ediv_of_nonneg])) (.q (.conv Tryz.underlying105 Tryz.underlying3 rfl (IntWalk.i64_in _ (by omega))) (.q (.assign rfl) (.nil (.code ?_)))))))))))
    refine .seq (.reg (.q (.move rfl) (.q (.move rfl) (.q (.callC (v := .bool (p ((i + j) / 2))) hF rfl rfl fun w1 hz => (hf w1 hz _ (by omega)).mono fun e w2 h => ⟨h.1, hz.callA h.2⟩) (.q (.notB rfl) (.nil (.code ?_)))))))
    refine .cond (fun h21 => ?_) (fun h21 => ?_)
    · refine .reg (.q (.move rfl) (.q (.add rfl rfl (IntWalk.i64_in _ (by omega))) (.q (.assign rfl) (.nil (.inbN (.rd ((i + j) / 2 + 1, j) ⟨rfl, rfl, rfl, trivial⟩ (fun _ h => h) ⟨show (i + j) / 2 + 1 ≤ j by omega, hk2, mono_no hmono h21, hk4⟩ (by show (_ : Nat) < j - i; simp only; omega)))))))
    · refine .reg (.q (.move rfl) (.q (.assign rfl) (.nil (.inbN (.rd (i, (i + j) / 2) ⟨rfl, rfl, rfl, trivial⟩ (fun _ h => h) ⟨show i ≤ (i + j) / 2 by omega, show (i + j) / 2 ≤ N by omega, hk3, fun m h1 h2 => hmono ((i + j) / 2) m h1 (by simpa using h21)⟩ (by show (_ : Nat) < j - i; simp only; omega))))))
  · refine .nil (.code ?_)
    refine .ff (.exit (.thE (.thE (.inbX (.code ?_)))))
    refine .seq (.reg (.q (.move rfl) (.q (.assign rfl) (.nil (.code ?_)))))
    refine .ret (.ret1 Tryz.results188 rfl fun w hz => ⟨iv (by rw [srch_eq (k := i) (by omega) hk3 (fun h => hk4 i (by omega) h)]), hz.sublist (List.nil_sublist _)⟩)


/-- Whether one of the subtasks i .. i + m ends a group not before d. -/
def pgr (t : Tk) (i d : Int) (m : Nat) : Bool := (List.range (m + 1)).any fun (j : Nat) => decide (d ≤ ends t (i + (j : Int)))
theorem pgr_mono (t : Tk) (i d : Int) (a b : Nat) (h : a ≤ b) (hp : pgr t i d a = true) : pgr t i d b = true := by
  simp only [pgr, List.any_eq_true, List.mem_range] at hp ⊢
  obtain ⟨j, h1, h2⟩ := hp
  exact ⟨j, by omega, h2⟩
theorem pgr_no {t : Tk} {i d : Int} {m : Nat} (h : ∀ j, j < m + 1 → ends t (i + (j : Int)) < d) : pgr t i d m = false := by
  simp only [pgr, List.any_eq_false, List.mem_range, decide_eq_true_eq]
  intro j hj
  have := h j hj
  omega
theorem pgr_yes {t : Tk} {i d : Int} {m j : Nat} (hj : j ≤ m) (h : d ≤ ends t (i + (j : Int))) : pgr t i d m = true := by
  simp only [pgr, List.any_eq_true, List.mem_range, decide_eq_true_eq]
  exact ⟨j, by omega, h⟩
theorem all_succ {q : Nat → Prop} {k : Nat} (h : ∀ j, j < k → q j) (hk : q k) (j : Nat) (hj : j < k + 1) : q j := by
  rcases Nat.lt_or_ge j k with h' | h'
  · exact h j h'
  · have e : j = k := by omega
    subst e; exact hk
theorem srch_le (p : Nat → Bool) (n : Nat) : srch p n ≤ n := by
  unfold srch
  rcases hf : (List.range n).find? p with _ | k
  · simp
  · rw [List.find?_range_eq_some] at hf
    have := hf.2.1
    simp at this ⊢
    omega
theorem srch_pgr (t : Tk) (i d : Int) (n : Nat) : srch (pgr t i d) n = gsteps t i d n := by
  unfold srch gsteps
  have : ∀ (l : List Nat), (∀ m ∈ l, ∀ j, j < m → j ∈ l.takeWhile (· < m)) → True := fun _ _ => trivial
  rcases hf : (List.range n).find? (fun (m : Nat) => decide (d ≤ ends t (i + (m : Int)))) with _ | k
  · have h2 : (List.range n).find? (pgr t i d) = none := by
      rw [List.find?_eq_none] at hf ⊢
      intro m hm
      rw [pgr_no]
      · simp
      · intro j hj
        have := hf j (by simp at hm ⊢; omega)
        simpa using this
    rw [h2]
  · rw [List.find?_range_eq_some] at hf
    have h2 : (List.range n).find? (pgr t i d) = some k := by
      rw [List.find?_range_eq_some]
      refine ⟨pgr_yes (Nat.le_refl k) (by simpa using hf.1), hf.2.1, fun j hj => ?_⟩
      rw [pgr_no]
      · rfl
      · intro q hq
        have := hf.2.2 q (by omega)
        simpa using this
    rw [h2]

theorem groupfn_calls (w : World) (t : Tk) (i : Int) (x : Wn) (b3 b2 b5 m : Nat) (hi : 1 ≤ i ∧ i ≤ 1000) (hm : (m : Int) ≤ 1000) (h3 : w.cell? ⟨b3, 0, none⟩ = some (.int .i64 i)) (h2 : ∀ j, j < (encT t).length → w.cell? ⟨b2, 0 + j, none⟩ = (encT t)[j]?) (h5 : ∀ j, j < (encW x).length → w.cell? ⟨b5, 0 + j, none⟩ = (encW x)[j]?) : Calls Tryz.prog 189 #[.int .i64 (m : Int), .pointer (some ⟨b3, 0, none⟩), .pointer (some ⟨b2, 0, none⟩), .pointer (some ⟨b5, 0, none⟩)] w fun e w' => e = .returned (.bool (pgr t i x.d m)) ∧ Z w w [] [] w' := by
  refine enter (args := [_, _, _, _]) Tryz.func189 rfl rfl rfl (C := Z w w [] []) (Z.start (H.nil w)) ?_
  refine .seq (.reg (.q (.assign rfl) (.nil (.code ?_))))
  refine .seq (.seq (.reg (.q (.ldW o3 rfl h3) (.q (.assign rfl) (.nil (.code ?_))))))
  refine .block (.lp (fun k : Nat => [(0, .int .i64 (m : Int)), (1, .pointer (some ⟨b3, 0, none⟩)), (2, .pointer (some ⟨b2, 0, none⟩)), (3, .pointer (some ⟨b5, 0, none⟩)), (6, .int .i64 (i + (k : Int)))]) (fun _ => []) (fun k => k ≤ m + 1 ∧ ∀ j, j < k → ends t (i + (j : Int)) < x.d) (fun k => m + 1 - k) 0 ⟨rfl, rfl, rfl, rfl, (show _ = some (Value.int .i64 (i + ((0 : Nat) : Int))) by simp; rfl), trivial⟩ (fun _ h => h) ⟨by omega, fun j hj => absurd hj (by omega)⟩ fun k hk => ?_)
  obtain ⟨hk1, hk2⟩ := hk
  refine .seq (.seq (.reg (.q (.move rfl) (.q (.ldW o3 rfl h3) (.q (.move rfl) (.q (.add rfl rfl (IntWalk.i64_in _ (by omega))) (.leS rfl rfl (fun h12 => ?_) (fun h12 => ?_))))))))
  · refine .nil (.code ?_)
    refine .tt (.skip (.code ?_))
    refine .seq (.block (.seq (.draw mix (by kernel_rfl) (fun _ h => h.drew) (.q (.ldWA a35 rfl rfl h2) (.q (.move rfl) (.q (.call fn190 rfl (fun w hz => ends_calls w t (i + (k : Int)))) (.q (.fld f174_2 rfl) (.q (.ldW o3 rfl (h5 2 (by simp [encW]))) (.geS rfl rfl (fun h20 => ?_) (fun h20 => ?_))))))))))
    · refine .nil (.code ?_)
      refine .tt (.seq (.reg (.q (.assign rfl) (.nil (.code ?_)))))
      refine .ret (.inbR (.thR (.thR (.inbR (.thR (.ret1 Tryz.results189 rfl fun w hz => ⟨bv (pgr_yes (j := k) (by omega) h20), hz.sublist (List.nil_sublist _)⟩))))))
    · refine .nil (.code ?_)
      refine .ff (.skip (.inbN (.code ?_)))
      refine .reg (.q (.move rfl) (.q (.add rfl rfl (IntWalk.i64_in _ (by omega))) (.q (.assign rfl) (.nil (.rd (k + 1) ⟨rfl, rfl, rfl, rfl, (show some (Value.int .i64 (i + (k : Int) + 1)) = some (Value.int .i64 (i + ((k + 1 : Nat) : Int))) by simp; omega), trivial⟩ (fun _ h => h) ⟨by omega, all_succ hk2 h20⟩ (by omega))))))
  · refine .nil (.code ?_)
    refine .ff (.exit (.thE (.thE (.inbX (.code ?_)))))
    refine .seq (.reg (.q (.assign rfl) (.nil (.code ?_))))
    refine .ret (.ret1 Tryz.results189 rfl fun w hz => ⟨bv (pgr_no fun j hj => hk2 j (by omega)), hz.sublist (List.nil_sublist _)⟩)

theorem group_calls (w : World) (t : Tk) (i : Int) : Calls Tryz.prog 160 #[.agg (encT t).toArray, .int .i64 i] w fun e w' => e = .returned (.int .i64 (group t i)) ∧ Z w w [] [] w' := by
  refine enter (args := [_, _]) Tryz.func160 rfl rfl rfl (C := Z w w [] []) (Z.start (H.nil w)) ?_
  refine .seq (.reg (.box rfl fun b2 => .box rfl fun b3 => .q (.assign rfl) (.nil (.code ?_))))
  refine .seq (.reg (.q (.ldOA a35 1 rfl rfl rfl rfl) (.q (.ldO o3 0 rfl rfl rfl) (.q (.call fn74 rfl (fun w hz => window_calls w t i)) (.q (.move rfl) (.q (.ext rfl rfl) (.q (.ext rfl rfl) (.alloc z174 fun b5 => .stA a174 0 rfl rfl rfl rfl rfl rfl (.q (.assign rfl) (.nil (.code ?_)))))))))))
  refine .seq (.seq (.reg (.q (.move rfl) (.neS rfl rfl (fun h15 => ?_) (fun h15 => ?_)))))
  · refine .q (.move rfl) (.skip (.skip (.skip (.q (.pickT rfl rfl) (.nil (.code ?_))))))
    refine .tt (.seq (.reg (.q (.assign rfl) (.nil (.code ?_)))))
    refine .ret (.thR (.ret1 Tryz.results160 rfl fun w hz => ⟨iv (by simp [group, h15]), hz.sublist (List.nil_sublist _)⟩))
  · obtain ⟨ho, h1, h2⟩ := winE0.1 h15
    obtain ⟨h3, h4, h5⟩ := okT_bd ho
    refine .q (.move rfl) (.q (.ldOA a35 2 rfl rfl rfl rfl) (.qB (.call fn159 rfl (fun w hz => heavy_calls w t)) (fun h18 => ?_) (fun h18 => ?_)))
    · refine .q (.notB rfl) (.q (.pickF rfl rfl) (.nil (.code ?_)))
      refine .ff (.skip (.code ?_))
      refine .seq (.draw mix (by kernel_rfl) (fun _ h => h.drew) (.q (.ldO o3 1 rfl rfl rfl) (.q (.fld f35_1 rfl) (.q (.ldO o3 2 rfl rfl rfl) (.q (.ldO o3 1 rfl rfl rfl) (.q (.sub rfl rfl (show _ = (((t.c - i).toNat : Nat) : Int) by rw [IntWalk.i64_in _ (by omega)]; omega)) (.q (.mkf rfl rfl) (.q (.call fn188 rfl (fun w hz => search_calls w (t.c - i).toNat (by omega) 189 [.pointer (some ⟨b3, 0, none⟩), .pointer (some ⟨b2, 0, none⟩), .pointer (some ⟨b5, 0, none⟩)] (pgr t i (window t i).d) fn189 (pgr_mono t i _) fun w1 hz1 m hm => groupfn_calls w1 t i (window t i) b3 b2 b5 m (by omega) (by omega) (hz1.old (hz.cell (i := 1) (off := 0) (c := [.int .i64 i]) (T := 3) (fr := (0, 0)) rfl)) (fun j hj => by rw [Nat.zero_add]; exact (hz1.below.cell (World.block_lt_of_cell? w _ ((hz.cell (i := 2) (off := j) (c := encT t) rfl).trans (List.getElem?_eq_getElem hj)))).trans (hz.cell (i := 2) rfl)) (fun j hj => by rw [Nat.zero_add]; exact (hz1.below.cell (World.block_lt_of_cell? w _ ((hz.cell (i := 0) (off := j) (c := encW (window t i)) rfl).trans (List.getElem?_eq_getElem hj)))).trans (hz.cell (i := 0) rfl)))) (.q (.add rfl rfl (IntWalk.i64_in _ (by have := srch_le (pgr t i (window t i).d) (t.c - i).toNat; omega))) (.q (.assign rfl) (.nil (.code ?_))))))))))))
      refine .seq (.reg (.q (.ldOA a35 2 rfl rfl rfl rfl) (.q (.move rfl) (.q (.call fn190 rfl (fun w hz => ends_calls w t _)) (.q (.assign rfl) (.nil (.code ?_)))))))
      refine .ret (.ret1 Tryz.results160 rfl fun w hz => ⟨iv (by rw [srch_pgr]; simp [group, h15, h18]), hz.sublist (List.nil_sublist _)⟩)
    · refine .q (.notB rfl) (.q (.pickF rfl rfl) (.nil (.code ?_)))
      refine .tt (.seq (.reg (.q (.assign rfl) (.nil (.code ?_)))))
      refine .ret (.thR (.ret1 Tryz.results160 rfl fun w hz => ⟨iv (by simp [group, h18]), hz.sublist (List.nil_sublist _)⟩))

theorem nan_calls (w : World) (a : Int) : Calls Tryz.prog 158 #[.int .i64 a] w fun e w' => e = .returned (.bool false) ∧ Z w w [] [] w' := by
  refine enter (args := [_]) Tryz.func158 rfl rfl rfl (C := Z w w [] []) (Z.start (H.nil w)) ?_
  refine .seq (.reg (.q (.assign rfl) (.nil (.code ?_))))
  refine .seq (.reg (.q (.move rfl) (.q (.move rfl) (.q (.cmp rfl rfl (neF (rfl))) (.q (.assign rfl) (.nil (.code ?_)))))))
  refine .ret (.ret1 Tryz.results158 rfl fun w hz => ⟨rfl, hz.sublist (List.nil_sublist _)⟩)

theorem compare_calls (w : World) (a b : Int) : Calls Tryz.prog 110 #[.int .i64 a, .int .i64 b] w fun e w' => e = .returned (.int .i64 (cmpInt a b)) ∧ Z w w [] [] w' := by
  refine enter (args := [_, _]) Tryz.func110 rfl rfl rfl (C := Z w w [] []) (Z.start (H.nil w)) ?_
  refine .seq (.reg (.q (.assign rfl) (.nil (.code ?_))))
  refine .seq (.reg (.q (.move rfl) (.q (.call fn158 rfl (fun w hz => nan_calls w _)) (.q (.assign rfl) (.nil (.code ?_))))))
  refine .seq (.reg (.q (.move rfl) (.q (.call fn158 rfl (fun w hz => nan_calls w _)) (.q (.assign rfl) (.nil (.code ?_))))))
  refine .seq (.seq (.reg (.q (.move rfl) (.nil (.code ?_)))))
  refine .ff (.skip (.code ?_))
  refine .seq (.seq (.reg (.q (.move rfl) (.nil (.code ?_)))))
  refine .ff (.skip (.code ?_))
  refine .seq (.seq (.reg (.q (.move rfl) (.q (.move rfl) (.ltS rfl rfl (fun h16 => ?_) (fun h16 => ?_))))))
  · refine .nil (.code ?_)
    refine .tt (.seq (.reg (.q (.assign rfl) (.nil (.code ?_)))))
    refine .ret (.thR (.ret1 Tryz.results110 rfl fun w hz => ⟨iv (by simp [cmpInt]; omega), hz.sublist (List.nil_sublist _)⟩))
  · refine .nil (.code ?_)
    refine .ff (.skip (.code ?_))
    refine .seq (.seq (.reg (.q (.move rfl) (.q (.move rfl) (.gtS rfl rfl (fun h19 => ?_) (fun h19 => ?_))))))
    · refine .nil (.code ?_)
      refine .tt (.seq (.reg (.q (.assign rfl) (.nil (.code ?_)))))
      refine .ret (.thR (.ret1 Tryz.results110 rfl fun w hz => ⟨iv (by simp [cmpInt]; omega), hz.sublist (List.nil_sublist _)⟩))
    · refine .nil (.code ?_)
      refine .ff (.skip (.code ?_))
      refine .seq (.reg (.q (.assign rfl) (.nil (.code ?_))))
      refine .ret (.ret1 Tryz.results110 rfl fun w hz => ⟨iv (by simp [cmpInt]; omega), hz.sublist (List.nil_sublist _)⟩)

theorem encC_t (x : Cd) : ((encC x).drop 1).take 3 = encT x.t := rfl
theorem cgroup_calls (w : World) (x : Cd) (hr : -1099511627776 ≤ x.r ∧ x.r ≤ 1099511627776) : Calls Tryz.prog 112 #[.agg (encC x).toArray] w fun e w' => e = .returned (.int .i64 (cgroup x)) ∧ Z w w [] [] w' := by
  have hb := group_bd x.t x.i
  refine enter (args := [_]) Tryz.func112 rfl rfl rfl (C := Z w w [] []) (Z.start (H.nil w)) ?_
  refine .seq (.reg (.box rfl fun b1 => .q (.assign rfl) (.nil (.code ?_))))
  refine .seq (.seq (.reg (.q (.fld f172_1 rfl) (.q (.ldOA a35 0 rfl rfl rfl rfl) (.qB (.call fn159 rfl (fun w hz => heavy_calls w x.t)) (fun h5 => ?_) (fun h5 => ?_))))))
  · refine .q (.notB rfl) (.nil (.code ?_))
    refine .ff (.skip (.code ?_))
    refine .seq (.draw mix (by kernel_rfl) (fun _ h => h.drew) (.q (.fld f172_2 rfl) (.q (.ldO o3 0 rfl rfl rfl) (.q (.fld f172_1 rfl) (.q (.ldOA a35 0 rfl rfl rfl rfl) (.q (.fld f172_3 rfl) (.q (.ldO o3 0 rfl rfl rfl) (.q (.call fn160 rfl (fun w hz => group_calls w x.t x.i)) (.q (.add rfl rfl (IntWalk.i64_in _ (by omega))) (.q (.assign rfl) (.nil (.code ?_))))))))))))
    refine .ret (.ret1 Tryz.results112 rfl fun w hz => ⟨iv (by simp [cgroup, h5]), hz.sublist (List.nil_sublist _)⟩)
  · refine .q (.notB rfl) (.nil (.code ?_))
    refine .tt (.seq (.reg (.q (.assign rfl) (.nil (.code ?_)))))
    refine .ret (.thR (.ret1 Tryz.results112 rfl fun w hz => ⟨iv (by simp [cgroup, h5]), hz.sublist (List.nil_sublist _)⟩))

theorem cgroup_bd (x : Cd) (hr : -1099511627776 ≤ x.r ∧ x.r ≤ 1099511627776) : -2199023255552 ≤ cgroup x ∧ cgroup x ≤ 2199023255552 := by
  have hb := group_bd x.t x.i
  unfold cgroup
  split <;> omega
theorem cmpInt_ne {a b : Int} (h : cmpInt a b ≠ 0) : a ≠ b := by
  intro e; subst e; simp [cmpInt] at h
theorem cmpInt_eq {a b : Int} (h : cmpInt a b = 0) : a = b := by
  unfold cmpInt at h
  split at h
  · omega
  · split at h <;> omega
theorem cmpInt_lt {a b : Int} : cmpInt a b < 0 ↔ a < b := by
  unfold cmpInt
  split
  · simp; omega
  · split
    · simp; omega
    · simp; omega
theorem cmpInt_gt {a b : Int} : 0 < cmpInt a b ↔ b < a := by
  unfold cmpInt
  split
  · simp; omega
  · split
    · simp; omega
    · simp; omega
theorem before_calls (w : World) (a b : Cd) (ha : -1099511627776 ≤ a.r ∧ a.r ≤ 1099511627776) (hb : -1099511627776 ≤ b.r ∧ b.r ≤ 1099511627776) : Calls Tryz.prog 77 #[.agg (encC a).toArray, .agg (encC b).toArray] w fun e w' => e = .returned (.bool (before a b)) ∧ Z w w [] [] w' := by
  have wa := window_bd a.t a.i
  have wb := window_bd b.t b.i
  refine enter (args := [_, _]) Tryz.func77 rfl rfl rfl (C := Z w w [] []) (Z.start (H.nil w)) ?_
  refine .seq (.reg (.box rfl fun b2 => .box rfl fun b3 => .q (.assign rfl) (.nil (.code ?_))))
  refine .seq (.reg (.q (.fld f172_1 rfl) (.q (.ldOA a35 1 rfl rfl rfl rfl) (.q (.fld f172_3 rfl) (.q (.ldO o3 1 rfl rfl rfl) (.q (.call fn74 rfl (fun w hz => window_calls w a.t a.i)) (.q (.move rfl) (.q (.ext rfl rfl) (.q (.ext rfl rfl) (.alloc z174 fun b5 => .stA a174 0 rfl rfl rfl rfl rfl rfl (.q (.assign rfl) (.nil (.code ?_)))))))))))))
  refine .seq (.reg (.q (.fld f172_1 rfl) (.q (.ldOA a35 1 rfl rfl rfl rfl) (.q (.fld f172_3 rfl) (.q (.ldO o3 1 rfl rfl rfl) (.q (.call fn74 rfl (fun w hz => window_calls w b.t b.i)) (.q (.move rfl) (.q (.ext rfl rfl) (.q (.ext rfl rfl) (.alloc z174 fun b7 => .stA a174 0 rfl rfl rfl rfl rfl rfl (.q (.assign rfl) (.nil (.code ?_)))))))))))))
  refine .seq (.seq (.reg (.q (.move rfl) (.neS rfl rfl (fun h30 => ?_) (fun h30 => ?_)))))
  · refine .q (.move rfl) (.skip (.skip (.q (.pickT rfl rfl) (.nil (.code ?_)))))
    refine .tt (.seq (.reg (.q (.assign rfl) (.nil (.code ?_)))))
    refine .ret (.thR (.ret1 Tryz.results77 rfl fun w hz => ⟨bv (by simp [before, h30]), hz.sublist (List.nil_sublist _)⟩))
  · refine .q (.move rfl) (.q (.move rfl) (.neS rfl rfl (fun h33 => ?_) (fun h33 => ?_)))
    · refine .q (.pickF rfl rfl) (.nil (.code ?_))
      refine .tt (.seq (.reg (.q (.assign rfl) (.nil (.code ?_)))))
      refine .ret (.thR (.ret1 Tryz.results77 rfl fun w hz => ⟨bv (by simp [before, h30, h33]), hz.sublist (List.nil_sublist _)⟩))
    · refine .q (.pickF rfl rfl) (.nil (.code ?_))
      refine .ff (.skip (.code ?_))
      refine .seq (.seq (.reg (.q (.fld f172_2 rfl) (.q (.ldO o3 3 rfl rfl rfl) (.q (.fld f174_2 rfl) (.q (.ldO o3 1 rfl rfl rfl) (.q (.add rfl rfl (IntWalk.i64_in _ (by omega))) (.q (.fld f172_2 rfl) (.q (.ldO o3 2 rfl rfl rfl) (.q (.fld f174_2 rfl) (.q (.ldO o3 0 rfl rfl rfl) (.q (.add rfl rfl (IntWalk.i64_in _ (by omega))) (.q (.call fn110 rfl (fun w hz => compare_calls w _ _)) (.q (.assign rfl) (.nil (.code ?_))))))))))))))))
      refine .seq (.reg (.q (.move rfl) (.neS rfl rfl (fun h47 => ?_) (fun h47 => ?_))))
      · refine .nil (.code ?_)
        refine .tt (.seq (.reg (.q (.move rfl) (.q (.cmp rfl rfl rfl) (.q (.assign rfl) (.nil (.code ?_)))))))
        refine .ret (.thR (.ret1 Tryz.results77 rfl fun w hz => ⟨bv (by have := cmpInt_ne h47; simp [before, h30, h33, this, cmpInt_lt]), hz.sublist (List.nil_sublist _)⟩))
      · refine .nil (.code ?_)
        refine .ff (.skip (.code ?_))
        refine .seq (.draw mix (by kernel_rfl) (fun _ h => h.drew) (.q (.fld f172_1 rfl) (.q (.ldOA a35 3 rfl rfl rfl rfl) (.q (.fld f172_3 rfl) (.q (.ldO o3 3 rfl rfl rfl) (.qB (.call fn111 rfl (fun w hz => overl_calls w a.t a.i)) (fun h54 => ?_) (fun h54 => ?_)))))))
        · refine .q (.fld f172_1 rfl) (.q (.ldOA a35 2 rfl rfl rfl rfl) (.q (.fld f172_3 rfl) (.q (.ldO o3 2 rfl rfl rfl) (.qB (.call fn111 rfl (fun w hz => overl_calls w b.t b.i)) (fun h59 => ?_) (fun h59 => ?_)))))
          · refine .q (.assign rfl) (.q (.assign rfl) (.nil (.code ?_)))
            refine .seq (.seq (.reg (.q (.move rfl) (.q (.move rfl) (.q (.neB Tryz.underlying4 rfl rfl) (.nil (.code ?_)))))))
            refine .ff (.skip (.code ?_))
            refine .seq (.seq (.reg (.q (.move rfl) (.nil (.code ?_)))))
            refine .tt (.seq (.draw mix (by kernel_rfl) (fun _ h => h.drew) (.q (.ldOA a172 3 rfl rfl rfl rfl) (.q (.call fn112 rfl (fun w hz => cgroup_calls w a ha)) (.q (.ldOA a172 2 rfl rfl rfl rfl) (.q (.call fn112 rfl (fun w hz => cgroup_calls w b hb)) (.q (.call fn110 rfl (fun w hz => compare_calls w _ _)) (.q (.assign rfl) (.nil (.code ?_))))))))))
            refine .seq (.reg (.q (.move rfl) (.neS rfl rfl (fun h71 => ?_) (fun h71 => ?_))))
            · refine .nil (.code ?_)
              refine .tt (.seq (.reg (.q (.move rfl) (.q (.cmp rfl rfl rfl) (.q (.assign rfl) (.nil (.code ?_)))))))
              refine .ret (.thR (.ret1 Tryz.results77 rfl fun w hz => ⟨bv (by have := cmpInt_eq h47; have h9 := cmpInt_ne h71; simp [before, h30, h33, this, h54, h59, h9, cmpInt_gt]), hz.sublist (List.nil_sublist _)⟩))
            · refine .nil (.code ?_)
              refine .ff (.skip (.code ?_))
              refine .seq (.reg (.q (.fld f172_0 rfl) (.q (.ldO o3 3 rfl rfl rfl) (.q (.fld f172_0 rfl) (.q (.ldO o3 2 rfl rfl rfl) (.q (.cmp rfl rfl rfl) (.q (.assign rfl) (.nil (.code ?_)))))))))
              refine .ret (.ret1 Tryz.results77 rfl fun w hz => ⟨bv (by have := cmpInt_eq h47; have h9 := cmpInt_eq h71; simp [before, h30, h33, this, h54, h59, h9]), hz.sublist (List.nil_sublist _)⟩)
          · refine .q (.assign rfl) (.q (.assign rfl) (.nil (.code ?_)))
            refine .seq (.seq (.reg (.q (.move rfl) (.q (.move rfl) (.q (.neB Tryz.underlying4 rfl rfl) (.nil (.code ?_)))))))
            refine .tt (.seq (.reg (.q (.move rfl) (.q (.assign rfl) (.nil (.code ?_))))))
            refine .ret (.thR (.ret1 Tryz.results77 rfl fun w hz => ⟨bv (by have := cmpInt_eq h47; simp [before, h30, h33, this, h54, h59]), hz.sublist (List.nil_sublist _)⟩))
        · refine .q (.fld f172_1 rfl) (.q (.ldOA a35 2 rfl rfl rfl rfl) (.q (.fld f172_3 rfl) (.q (.ldO o3 2 rfl rfl rfl) (.qB (.call fn111 rfl (fun w hz => overl_calls w b.t b.i)) (fun h59 => ?_) (fun h59 => ?_)))))
          · refine .q (.assign rfl) (.q (.assign rfl) (.nil (.code ?_)))
            refine .seq (.seq (.reg (.q (.move rfl) (.q (.move rfl) (.q (.neB Tryz.underlying4 rfl rfl) (.nil (.code ?_)))))))
            refine .tt (.seq (.reg (.q (.move rfl) (.q (.assign rfl) (.nil (.code ?_))))))
            refine .ret (.thR (.ret1 Tryz.results77 rfl fun w hz => ⟨bv (by have := cmpInt_eq h47; simp [before, h30, h33, this, h54, h59]), hz.sublist (List.nil_sublist _)⟩))
          · refine .q (.assign rfl) (.q (.assign rfl) (.nil (.code ?_)))
            refine .seq (.seq (.reg (.q (.move rfl) (.q (.move rfl) (.q (.neB Tryz.underlying4 rfl rfl) (.nil (.code ?_)))))))
            refine .ff (.skip (.code ?_))
            refine .seq (.seq (.reg (.q (.move rfl) (.nil (.code ?_)))))
            refine .ff (.skip (.code ?_))
            refine .seq (.reg (.q (.fld f172_0 rfl) (.q (.ldO o3 3 rfl rfl rfl) (.q (.fld f172_0 rfl) (.q (.ldO o3 2 rfl rfl rfl) (.q (.cmp rfl rfl rfl) (.q (.assign rfl) (.nil (.code ?_)))))))))
            refine .ret (.ret1 Tryz.results77 rfl fun w hz => ⟨bv (by have := cmpInt_eq h47; simp [before, h30, h33, this, h54, h59]), hz.sublist (List.nil_sublist _)⟩)

end Go.Proofs.YtjccenbacjhglaaGreatDoor.PF
