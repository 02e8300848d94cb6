import Derived.Test.YtjccenbacjhglaaGreatDoorProg
import Derived.Test.YtjccenbacjhglaaGreatDoorK
import Derived.Test.YtjccenbacjhglaaGreatDoorM
import Derived.Test.YtjccenbacjhglaaGreatDoorIS
import Derived.Test.YtjccenbacjhglaaGreatDoorM2
import Derived.Test.YtjccenbacjhglaaGreatDoorPF
import Derived.Test.YtjccenbacjhglaaGreatDoorSO
import Derived.Test.YtjccenbacjhglaaGreatDoorAU
import Derived.Test.YtjccenbacjhglaaGreatDoorAU2
import Derived.Test.YtjccenbacjhglaaGreatDoorAU3
set_option linter.unusedVariables false
set_option linter.unusedSimpArgs false
set_option maxRecDepth 100000
set_option maxHeartbeats 1000000
namespace Go.Proofs.YtjccenbacjhglaaGreatDoor.AU4
open Go Go.Proofs Go.RowKit Go.Proofs.YtjccenbacjhglaaGreatDoor.K Go.Proofs.YtjccenbacjhglaaGreatDoor.M Go.Proofs.YtjccenbacjhglaaGreatDoor.PF Go.Proofs.YtjccenbacjhglaaGreatDoor.SO Go.Proofs.YtjccenbacjhglaaGreatDoor.AU Go.Proofs.YtjccenbacjhglaaGreatDoor.AU2 Go.Proofs.YtjccenbacjhglaaGreatDoor.AU3
theorem a26 : Ag Tryz.prog 26 8 := ⟨_, Tryz.underlying26, rfl, by kernel_rfl⟩
theorem eq26 : EqS Tryz.prog 26 [.i64, .i64, .i64, .i64, .u8, .i64, .i64, .i64] := ⟨by kernel_rfl⟩
theorem f26_1 : Fld Tryz.prog 26 1 1 := ⟨_, _, Tryz.underlying26, rfl, rfl, 0, by kernel_rfl⟩
theorem f26_2 : Fld Tryz.prog 26 2 2 := ⟨_, _, Tryz.underlying26, rfl, rfl, 0, by kernel_rfl⟩
theorem f26_3 : Fld Tryz.prog 26 3 3 := ⟨_, _, Tryz.underlying26, rfl, rfl, 0, by kernel_rfl⟩
theorem f26_4 : Fld Tryz.prog 26 4 4 := ⟨_, _, Tryz.underlying26, rfl, rfl, 0, by kernel_rfl⟩
theorem f26_5 : Fld Tryz.prog 26 5 5 := ⟨_, _, Tryz.underlying26, rfl, rfl, 0, by kernel_rfl⟩
theorem f26_6 : Fld Tryz.prog 26 6 6 := ⟨_, _, Tryz.underlying26, rfl, rfl, 0, by kernel_rfl⟩
theorem f26_7 : Fld Tryz.prog 26 7 7 := ⟨_, _, Tryz.underlying26, rfl, rfl, 0, by kernel_rfl⟩
theorem f35_2 : Fld Tryz.prog 35 2 2 := ⟨_, _, Tryz.underlying35, rfl, rfl, 0, by kernel_rfl⟩
theorem f89_0 : Fld Tryz.prog 89 0 0 := ⟨_, _, Tryz.underlying89, rfl, rfl, 0, by kernel_rfl⟩
theorem f89_2 : Fld Tryz.prog 89 2 2 := ⟨_, _, Tryz.underlying89, rfl, rfl, 0, by kernel_rfl⟩
theorem f89_3 : Fld Tryz.prog 89 3 3 := ⟨_, _, Tryz.underlying89, rfl, rfl, 0, by kernel_rfl⟩
theorem f89_4 : Fld Tryz.prog 89 4 4 := ⟨_, _, Tryz.underlying89, rfl, rfl, 0, by kernel_rfl⟩
theorem f89_5 : Fld Tryz.prog 89 5 5 := ⟨_, _, Tryz.underlying89, rfl, rfl, 0, by kernel_rfl⟩
theorem f89_7 : Fld Tryz.prog 89 7 7 := ⟨_, _, Tryz.underlying89, rfl, rfl, 0, by kernel_rfl⟩
theorem f89_8 : Fld Tryz.prog 89 8 8 := ⟨_, _, Tryz.underlying89, rfl, rfl, 0, by kernel_rfl⟩
theorem f228_0 : Fld Tryz.prog 228 0 0 := ⟨_, _, Tryz.underlying228, rfl, rfl, 0, by kernel_rfl⟩
theorem f228_2 : Fld Tryz.prog 228 2 2 := ⟨_, _, Tryz.underlying228, rfl, rfl, 0, by kernel_rfl⟩
theorem f228_3 : Fld Tryz.prog 228 3 3 := ⟨_, _, Tryz.underlying228, rfl, rfl, 0, by kernel_rfl⟩
theorem f228_4 : Fld Tryz.prog 228 4 4 := ⟨_, _, Tryz.underlying228, rfl, rfl, 0, by kernel_rfl⟩
theorem mix : Tryz.prog.follows .mixedOrders = true := by kernel_rfl
theorem o3 : One Tryz.prog 3 := ⟨_, Tryz.underlying3, rfl, by kernel_rfl⟩
theorem o5 : One Tryz.prog 5 := ⟨_, Tryz.underlying5, rfl, by kernel_rfl⟩
theorem o22 : One Tryz.prog 22 := ⟨_, Tryz.underlying22, rfl, by kernel_rfl⟩
theorem o36 : One Tryz.prog 36 := ⟨_, Tryz.underlying36, rfl, by kernel_rfl⟩
theorem o41 : One Tryz.prog 41 := ⟨_, Tryz.underlying41, rfl, by kernel_rfl⟩
theorem o87 : One Tryz.prog 87 := ⟨_, Tryz.underlying87, rfl, by kernel_rfl⟩
theorem o226 : One Tryz.prog 226 := ⟨_, Tryz.underlying226, rfl, by kernel_rfl⟩
theorem pt226 : Pnt Tryz.prog 226 := ⟨Tryz.underlying226⟩
theorem s22 : Slc Tryz.prog 22 26 8 64 [.int .i64 0, .int .i64 0, .int .i64 0, .int .i64 0, .int .u8 0, .int .i64 0, .int .i64 0, .int .i64 0] := ⟨Tryz.underlying22, by kernel_rfl, rfl⟩
theorem s36 : Slc Tryz.prog 36 35 3 32 [.string ⟨#[]⟩, .int .i64 0, .int .i64 0] := ⟨Tryz.underlying36, by kernel_rfl, rfl⟩
theorem s41 : Slc Tryz.prog 41 3 1 8 [.int .i64 0] := ⟨Tryz.underlying41, by kernel_rfl, rfl⟩
theorem s87 : Slc Tryz.prog 87 226 1 8 [.pointer none] := ⟨Tryz.underlying87, by kernel_rfl, rfl⟩
theorem st228 : Str Tryz.prog 228 [.int .i64 0, .int .i64 0, .int .i64 0, .int .i64 0, .int .i64 0] #[(0, 1), (1, 1), (2, 1), (3, 1), (4, 1)] := ⟨⟨by kernel_rfl⟩, _, Tryz.underlying228, fun w => by kernel_rfl⟩
theorem z26 : Zr Tryz.prog 26 [.int .i64 0, .int .i64 0, .int .i64 0, .int .i64 0, .int .u8 0, .int .i64 0, .int .i64 0, .int .i64 0] := ⟨by kernel_rfl⟩

theorem cellA {w : World} {b k : Nat} {c : Array Value} {T : TypeId} {fr : Nat × Nat} (h : w.heap[b]? = some (.cells c T fr)) : w.cell? ⟨b, k, none⟩ = c[k]? := by simp [World.cell?, h]
theorem pk_cons {α : Type} {X X' : List α} {x y : α} (h : X.Perm (y :: X')) : (x :: X).Perm (y :: x :: X') := (h.cons x).trans (.swap _ _ _)
theorem pk_app {α : Type} {A B R : List α} {y : α} (h : B.Perm (y :: R)) : (A ++ B).Perm (y :: (A ++ R)) := (h.append_left A).trans List.perm_middle
theorem ptr_set (ps : List (Option (Nat × Jb))) (i : Nat) (o : Option (Nat × Jb)) : (ps.map ptrV).set (0 + i * 1) (ptrV o) = (ps.set i o).map ptrV := by rw [Nat.zero_add, Nat.mul_one, List.map_set]
theorem ptr_same {ps : List (Option (Nat × Jb))} {i b : Nat} {j j' : Jb} (h : ps[i]? = some (some (b, j))) : (ps.set i (some (b, j'))).map ptrV = ps.map ptrV := by
  apply List.ext_getElem?
  intro k
  rw [List.getElem?_map, List.getElem?_map, List.getElem?_set]
  split
  · rename_i e; subst e
    split
    · rw [h]; rfl
    · rename_i hk; rw [List.getElem?_eq_none (by omega)] at h; cases h
  · rfl
theorem DU.tl {db doff dc : Nat} {d : Ev} {ds : List Ev} {cells : Array Value} (hc : (d :: ds).length ≤ dc) (h : ∀ i (hi : i < (d :: ds).length) k, k < 8 → cells[doff + i * 8 + k]? = (encE (d :: ds)[i])[k]?) : DU (.slice (some ⟨db, doff + (if dc = 1 then 0 else 1 * 8), none⟩) ((d :: ds).length - 1) (dc - 1)) ds [(db, .cells cells 26 (0, 0))] := by
  simp only [List.length_cons] at hc
  refine ⟨_, _, rfl, by omega, ?_⟩
  by_cases hds : ds = []
  · exact .inl hds
  · refine .inr ⟨db, _, cells, rfl, rfl, fun i hi k hk => ?_⟩
    have hpos : 0 < ds.length := List.length_pos_iff.2 hds
    rw [if_neg (by omega)]
    have := h (i + 1) (by simp; omega) k hk
    rw [show doff + 1 * 8 + i * 8 + k = doff + (i + 1) * 8 + k by omega]
    simpa using this
theorem fin_del {w0 we w : World} {Le Ld : List Blk} {A J N T i : Nat} {lv dv : Value} {ps : List (Option (Nat × Jb))} {b : Au} {c1 c2 : List Value} {x y : Blk} (hz : Z w0 we Le ((A, .cells c1.toArray 89 (0, 0)) :: (J, .cells c2.toArray 226 (0, 0)) :: x :: y :: (Ld ++ jbs ps)) w) (h1 : c1 = auC lv J N T ps.length b dv) (h2 : c2 = (ps.set i none).map ptrV) (hx : x = (N, .cells (b.cnt.map intV).toArray 3 (0, 0))) (hy : y = (T, .cells (b.last.map intV).toArray 3 (0, 0))) : Z w0 we Le (BL A J N T lv dv (ps.set i none) Ld b) w := by
  subst h1 h2 hx hy
  rw [BL, List.length_set]
  exact hz.sublist (((((List.Sublist.refl Ld).append (jbs_none ps i)).cons_cons _).cons_cons _).cons_cons _ |>.cons_cons _)
theorem fin_chg {w0 we w : World} {Le Ld R : List Blk} {A J N T i bj : Nat} {lv dv : Value} {ps : List (Option (Nat × Jb))} {b : Au} {j j' : Jb} {c0 c1 : List Value} {x y : Blk} (hz : Z w0 we Le ((bj, .cells c0.toArray 228 (0, 0)) :: (A, .cells c1.toArray 89 (0, 0)) :: (J, .cells (ps.map ptrV).toArray 226 (0, 0)) :: x :: y :: (Ld ++ R)) w) (hp : ps[i]? = some (some (bj, j))) (hR : ∀ j', (jbs (ps.set i (some (bj, j')))).Perm ((bj, .cells (encJ j').toArray 228 (0, 0)) :: R)) (h0 : c0 = encJ j') (h1 : c1 = auC lv J N T ps.length b dv) (hx : x = (N, .cells (b.cnt.map intV).toArray 3 (0, 0))) (hy : y = (T, .cells (b.last.map intV).toArray 3 (0, 0))) : Z w0 we Le (BL A J N T lv dv (ps.set i (some (bj, j'))) Ld b) w := by
  subst h0 h1 hx hy
  rw [BL, List.length_set, ptr_same hp]
  exact hz.perm (pk_cons (pk_cons (pk_cons (pk_cons (pk_app (hR j')))))).symm
theorem fin_new {w0 we w : World} {Le Ld : List Blk} {A J N T i bj : Nat} {lv dv : Value} {ps : List (Option (Nat × Jb))} {b : Au} {j' : Jb} {c0 c1 c2 c3 c4 : List Value} (hz : Z w0 we Le ((bj, .cells c0.toArray 228 (0, 0)) :: (A, .cells c1.toArray 89 (0, 0)) :: (J, .cells c2.toArray 226 (0, 0)) :: (N, .cells c3.toArray 3 (0, 0)) :: (T, .cells c4.toArray 3 (0, 0)) :: (Ld ++ jbs ps)) w) (hp : ps[i]? = some none) (h0 : c0 = encJ j') (h1 : c1 = auC lv J N T ps.length b dv) (h2 : c2 = (ps.set i (some (bj, j'))).map ptrV) (h3 : c3 = b.cnt.map intV) (h4 : c4 = b.last.map intV) : Z w0 we Le (BL A J N T lv dv (ps.set i (some (bj, j'))) Ld b) w := by
  subst h0 h1 h2 h3 h4
  rw [BL, List.length_set]
  exact hz.perm (pk_cons (pk_cons (pk_cons (pk_cons (pk_app (jbs_new ps i bj j' hp)))))).symm

theorem next_calls (w0 w : World) (A J N T : Nat) (lv dv : Value) (ps : List (Option (Nat × Jb))) (Ld : List Blk) (a : Au) (K : Int) (e : Ev) (hH : H w0 w (BL A J N T lv dv ps Ld a)) (hl : Rd encT 3 w0 lv a.l) (hjs : a.js = ps.map (Option.map (·.2))) (hD : DU dv a.due Ld) (hI : AuI a K) (ht0 : 0 ≤ e.t) (ht1 : e.t < a.l.length) : Calls Tryz.prog 84 #[.pointer (some ⟨A, 0, none⟩), .agg (encE e).toArray] w fun r w' => ∃ v L', r = .returned v ∧ Z w0 w (BL A J N T lv dv ps Ld a) L' w' ∧ AccP A J N T lv (next a e) v L' := by
  have hlen2 : ps.length = a.js.length := by rw [hjs, List.length_map]
  have hlen : ps.length = a.l.length := hlen2.trans hI.nj
  have hnc := hI.nc
  have hnt := hI.nt
  have h40 := hI.n12
  obtain ⟨q1, q2, q3, q4, q5, q6⟩ := And.intro hI.s0 (And.intro hI.s1 (And.intro hI.c0 (And.intro hI.c1 (And.intro hI.k0 hI.k1))))
  have hit : e.t.toNat < ps.length := by omega
  refine enter (args := [_, _]) Tryz.func84 rfl rfl rfl (C := Z w0 w (BL A J N T lv dv ps Ld a) (BL A J N T lv dv ps Ld a)) (Z.start hH) ?_
  refine .seq (.reg (.box rfl fun b3 => .q (.assign rfl) (.nil (.code ?_))))
  refine .seq (.seq (.reg (.q (.move rfl) (.q (.nilP rfl) (.q (.fld f89_7 rfl) (?_))))))
  rcases hd : a.due with _ | ⟨d, ds⟩
  · rw [hd] at hD
    obtain ⟨dA, dc, rfl, _, _⟩ := hD
    refine .q (.ldO o22 1 rfl rfl rfl) (.q (.lenS s22.t rfl) (.q (.cmp rfl rfl (eqT (by simp))) (.nil (.code ?_))))
    refine .tt (.seq (.reg (.q (.assign rfl) (.nil (.code ?_)))))
    refine .ret (.thR (.ret1 Tryz.results84 rfl fun w1 hz => ⟨_, _, rfl, hz, by simp [next, hd, AccP]⟩))
  · rw [hd] at hD
    obtain ⟨dA, dc, rfl, hdc, hD2⟩ := hD
    obtain ⟨db, doff, cells, rfl, rfl, hdr⟩ := hD2.resolve_left (by simp)
    refine .q (.ldO o22 1 rfl rfl rfl) (.q (.lenS s22.t rfl) (.q (.cmp rfl rfl (eqF (by simp; omega))) (.nil (.code ?_))))
    refine .ff (.skip (.code ?_))
    refine .seq (.reg (.q (.move rfl) (.q (.nilP rfl) (.q (.fld f89_7 rfl) (.q (.ldO o22 1 rfl rfl rfl) (.q (.ix (j := 0) s22 rfl rfl (by simp)) (.q (.ldA a26 (cs := encE d) rfl rfl (fun w1 hz q hq => by rw [cellA (hz.h.has (db, .cells cells 26 (0, 0)) (by simp [BL]))]; exact hdr 0 (by simp) q hq)) (.alloc z26 fun b5 => .stA a26 0 rfl rfl rfl rfl rfl rfl (.nil (.code ?_))))))))))
    refine .seq (.drawS (F := Z w0 w _ [(b3, .cells (encE e).toArray 26 (0, 0))]) mix [] [] [0, 1, 2, 3] (.one 4 (.one 5 (.one 6 (.one 7 .nil)))) (by kernel_rfl) (fun _ h => h.drew) (fun _ h => h.sublist (.cons _ (.cons_cons _ (List.nil_sublist _)))) (.toS (.q (.fld f26_6 rfl) (.q (.ldO o3 0 rfl rfl rfl) (.q (.fld f26_7 rfl) (.q (.ldO o3 0 rfl rfl rfl) (.toT (.step rfl (.q (.fld f26_6 rfl) (.nil (.tk (fun _ h => h.sublist (.cons _ (.cons_cons _ (List.nil_sublist _)))) (.step rfl (.st o3 0 rfl rfl rfl rfl rfl (.nil (.tk (fun _ h => h.sublist (.cons _ (.cons_cons _ (List.nil_sublist _)))) (.step rfl (.q (.fld f26_7 rfl) (.nil (.tk (fun _ h => h.sublist (.cons _ (.cons_cons _ (List.nil_sublist _)))) (.step rfl (.st o3 0 rfl rfl rfl rfl rfl (.nil (.tk (fun _ h => h.sublist (.cons _ (.cons_cons _ (List.nil_sublist _)))) (.nil (.code ?_)))))))))))))))))))))))))
    refine .seq (.seq (.reg (.q (.ldOA a26 1 rfl rfl rfl rfl) (.q (.ldOA a26 0 rfl rfl rfl rfl) (.qB (.neS eq26 (us := [e.s, e.c, e.t, e.j, e.k, e.v, e.cy, e.po]) (vs := [d.s, d.c, d.t, d.j, d.k, d.v, e.cy, e.po]) rfl rfl rfl rfl (evNe e d)) (fun h27 => ?_) (fun h27 => ?_))))))
    · refine .nil (.code ?_)
      refine .tt (.seq (.reg (.q (.assign rfl) (.nil (.code ?_)))))
      refine .ret (.thR (.ret1 Tryz.results84 rfl fun w1 hz => ⟨_, _, rfl, hz, by rw [next, hd]; simp only; rw [if_pos (of_decide_eq_true h27)]; rfl⟩))
    · refine .nil (.code ?_)
      refine .ff (.skip (.code ?_))
      refine .seq (.reg (.q (.move rfl) (.q (.move rfl) (.q (.nilP rfl) (.q (.fld f89_7 rfl) (.q (.ldO o22 2 rfl rfl rfl) (.q (.slLo (j := 1) s22 rfl rfl (by simp) hdc) (.q (.nilP rfl) (.q (.fld f89_7 rfl) (.st o22 2 rfl rfl rfl rfl rfl (.nil (.code ?_))))))))))))
      refine .seq (.seq (.reg (.q (.fld f26_4 rfl) (.q (.ldO o5 1 rfl rfl rfl) (.neS rfl rfl (fun h38 => ?_) (fun h38 => ?_))))))
      · refine .nil (.code ?_)
        refine .tt (.seq (.drawT mix 7 (by kernel_rfl) (fun _ h => h.drew) (.q (.move rfl) (.q (.nilP rfl) (.q (.fld f89_2 rfl) (.q (.ldO o87 2 rfl rfl rfl) (.q (.fld f26_2 rfl) (.q (.ldO (v := .int .i64 ((e.t.toNat : Nat) : Int)) o3 1 rfl rfl (by rw [Int.toNat_of_nonneg ht0]; rfl)) (.q (.ix s87 rfl rfl (by omega)) (.tail (.st o226 3 rfl rfl rfl rfl (by simp [Nat.blt_eq]; omega) (.nil (.code ?_)))))))))))))
        refine .seq (.reg (.q (.assign rfl) (.nil (.code ?_))))
        refine .ret (.thR (.ret1 Tryz.results84 rfl fun w1 hz => ⟨_, _, rfl, fin_del (b := { a with due := ds, js := a.js.set e.t.toNat none }) (drp (drp hz)) rfl (ptr_set ps e.t.toNat none) rfl rfl, by
      rw [next, hd]; simp only; rw [if_neg (of_decide_eq_false h27), if_pos h38]
      exact ⟨rfl, _, _, _, rfl, DU.tl hdc hdr, by simp only [hjs, List.map_set]; rfl⟩⟩))
      · have he : e = { d with cy := e.cy, po := e.po } := Decidable.not_not.1 (of_decide_eq_false h27)
        have hdk : d.k = 2 := by rw [he] at h38; exact h38
        have hdm : d ∈ a.due := by rw [hd]; exact List.mem_cons_self ..
        have hph : a.phase = 3 := Decidable.byContradiction fun hne => hI.dueN hne d hdm hdk
        obtain ⟨_, _, _, hjs1, hc1, hc2⟩ := hI.due3 hph d hdm
        have hdt : d.t = e.t := by rw [he]
        have hdc2 : d.c = e.c := by rw [he]
        rw [hdt] at hjs1
        obtain ⟨b, j, hp⟩ : ∃ b j, ps[e.t.toNat] = some (b, j) := by
          rcases hp : ps[e.t.toNat] with _ | ⟨b, j⟩
          · rw [M.job, hjs, List.getElem?_map, List.getElem?_eq_getElem hit, hp] at hjs1; cases hjs1
          · exact ⟨b, j, rfl⟩
        have hp2 : ps[e.t.toNat]? = some (some (b, j)) := by rw [List.getElem?_eq_getElem hit, hp]
        have hj2 : a.js[e.t.toNat]? = some (some j) := by rw [hjs, List.getElem?_map, hp2]; rfl
        have hj : M.job a e.t.toNat = some j := by rw [M.job, hj2]; rfl
        obtain ⟨b1, b2, b3', b4, _⟩ := hI.job _ j hj2
        obtain ⟨R, hR1, hR2, hR3⟩ := jbs_pick ps e.t.toNat b j hp2
        refine .nil (.code ?_)
        refine .ff (.skip (.code ?_))
        refine .seq (.draw mix (by kernel_rfl) (fun _ h => h.drew) (.q (.move rfl) (.q (.nilP rfl) (.q (.fld f89_2 rfl) (.q (.ldO o87 2 rfl rfl rfl) (.q (.fld f26_2 rfl) (.q (.ldO (v := .int .i64 ((e.t.toNat : Nat) : Int)) o3 1 rfl rfl (by rw [Int.toNat_of_nonneg ht0]; rfl)) (.q (.ix s87 rfl rfl (by omega)) (.q (.ldO (v := .pointer (some ⟨b, 0, none⟩)) o226 3 rfl rfl (by rw [Nat.zero_add, Nat.mul_one, List.getElem?_map, hp2]; rfl)) (.q (.assign rfl) (.nil (.code ?_))))))))))))
        refine .seq (.reg (?_))
        refine .world ?_ (fun _ h => zperm (pk_cons (pk_cons (pk_cons (pk_cons (pk_cons (pk_cons (pk_app hR1))))))) h)
        refine .q (.move rfl) (.q (.nilP rfl) (.q (.fld f228_2 rfl) (.q (.ldO o3 0 rfl rfl rfl) (.q (.add rfl rfl (IntWalk.i64_in _ (by omega))) (.q (.nilP rfl) (.q (.fld f228_2 rfl) (.st o3 0 rfl rfl rfl rfl rfl (.nil (.code ?_)))))))))
        refine .seq (.drawS (F := Z w0 w _ _) mix [] [] [0, 1, 2, 3, 4, 5, 6, 7] (.one 8 (.one 9 (.one 10 (.one 11 (.one 12 (.one 13 .nil)))))) (by kernel_rfl) (fun _ h => h.drew) (fun _ h => drp h) (.toS (.q (.move rfl) (.q (.move rfl) (.q (.move rfl) (.q (.nilP rfl) (.q (.fld f89_5 rfl) (.q (.ldO o3 2 rfl rfl rfl) (.q (.fld f26_1 rfl) (.q (.ldO o3 1 rfl rfl rfl) (.toT (.step rfl (.q (.nilP rfl) (.nil (.tk (fun _ h => drp h) (.step rfl (.q (.fld f228_3 rfl) (.nil (.tk (fun _ h => drp h) (.step rfl (.st o3 0 rfl rfl rfl rfl rfl (.nil (.tk (fun _ h => drp h) (.step rfl (.q (.nilP rfl) (.nil (.tk (fun _ h => drp h) (.step rfl (.q (.fld f228_4 rfl) (.nil (.tk (fun _ h => drp h) (.step rfl (.st o3 0 rfl rfl rfl rfl rfl (.nil (.tk (fun _ h => drp h) (.nil (.code ?_)))))))))))))))))))))))))))))))))))))
        refine .seq (.reg (.q (.assign rfl) (.nil (.code ?_))))
        refine .ret (.ret1 Tryz.results84 rfl fun w1 hz => ⟨_, _, rfl, fin_chg (j' := { j with done := j.done + 1, ran := a.slot, core := e.c }) (b := { a with due := ds, js := a.js.set e.t.toNat (some { j with done := j.done + 1, ran := a.slot, core := e.c }) }) (hz.sublist (((List.sublist_cons_self _ _).trans (List.sublist_cons_self _ _)).cons_cons _)) hp2 hR3 rfl rfl rfl rfl, by
      rw [next, hd]; simp only; rw [if_neg (of_decide_eq_false h27), if_neg (by omega), hj]
      exact ⟨rfl, _, _, _, rfl, DU.tl hdc hdr, by simp only [hjs, List.map_set]; rfl⟩⟩)

theorem run_calls (w0 w : World) (A J N T : Nat) (lv dv : Value) (ps : List (Option (Nat × Jb))) (Ld : List Blk) (a : Au) (K : Int) (e : Ev) (hH : H w0 w (BL A J N T lv dv ps Ld a)) (hl : Rd encT 3 w0 lv a.l) (hjs : a.js = ps.map (Option.map (·.2))) (hD : DU dv a.due Ld) (hI : AuI a K) (ht0 : 0 ≤ e.t) (ht1 : e.t < a.l.length) : Calls Tryz.prog 87 #[.pointer (some ⟨A, 0, none⟩), .agg (encE e).toArray] w fun r w' => ∃ v L', r = .returned v ∧ Z w0 w (BL A J N T lv dv ps Ld a) L' w' ∧ AccP A J N T lv (run a e) v L' := by
  have hlen2 : ps.length = a.js.length := by rw [hjs, List.length_map]
  have hlen : ps.length = a.l.length := hlen2.trans hI.nj
  have hnc := hI.nc
  have hnt := hI.nt
  have h40 := hI.n12
  obtain ⟨q1, q2, q3, q4, q5, q6⟩ := And.intro hI.s0 (And.intro hI.s1 (And.intro hI.c0 (And.intro hI.c1 (And.intro hI.k0 hI.k1))))
  have hit : e.t.toNat < ps.length := by omega
  refine enter (args := [_, _]) Tryz.func87 rfl rfl rfl (C := Z w0 w (BL A J N T lv dv ps Ld a) (BL A J N T lv dv ps Ld a)) (Z.start hH) ?_
  refine .seq (.reg (.box rfl fun b3 => .q (.assign rfl) (.nil (.code ?_))))
  refine .seq (.draw mix (by kernel_rfl) (fun _ h => h.drew) (.q (.move rfl) (.q (.nilP rfl) (.q (.fld f89_2 rfl) (.q (.ldO o87 1 rfl rfl rfl) (.q (.fld f26_2 rfl) (.q (.ldO (v := .int .i64 ((e.t.toNat : Nat) : Int)) o3 0 rfl rfl (by rw [Int.toNat_of_nonneg ht0]; rfl)) (.q (.ix s87 rfl rfl (by omega)) (?_)))))))))
  rcases hp : ps[e.t.toNat] with _ | ⟨b, j⟩
  · have hjn : M.job a e.t.toNat = none := by rw [M.job, hjs, List.getElem?_map, List.getElem?_eq_getElem hit, hp]; rfl
    have hp2 : ps[e.t.toNat]? = some none := by rw [List.getElem?_eq_getElem hit, hp]
    refine .q (.ldO (v := .pointer none) o226 2 rfl rfl (by rw [Nat.zero_add, Nat.mul_one, List.getElem?_map, List.getElem?_eq_getElem hit, hp]; rfl)) (.q (.assign rfl) (.nil (.code ?_)))
    refine .seq (.seq (.draw mix (by kernel_rfl) (fun _ h => h.drew) (.q (.move rfl) (.q (.eqP pt226 rfl rfl) (.q (.move rfl) (.skip (.skip (.skip (.skip (.skip (.skip (.skip (.q (.pickT rfl rfl) (.q (.move rfl) (.skip (.skip (.skip (.skip (.skip (.skip (.skip (.skip (.skip (.q (.pickT rfl rfl) (.q (.move rfl) (.skip (.skip (.skip (.skip (.skip (.skip (.skip (.q (.pickT rfl rfl) (.q (.move rfl) (.skip (.skip (.skip (.skip (.skip (.skip (.skip (.skip (.q (.pickT rfl rfl) (.nil (.code ?_)))))))))))))))))))))))))))))))))))))))))))))
    refine .tt (.seq (.reg (.q (.assign rfl) (.nil (.code ?_)))))
    refine .ret (.thR (.ret1 Tryz.results87 rfl fun w1 hz => ⟨_, _, rfl, hz, by simp [run, hjn, AccP]⟩))
  · have hp2 : ps[e.t.toNat]? = some (some (b, j)) := by rw [List.getElem?_eq_getElem hit, hp]
    have hj2 : a.js[e.t.toNat]? = some (some j) := by rw [hjs, List.getElem?_map, hp2]; rfl
    have hj : M.job a e.t.toNat = some j := by rw [M.job, hj2]; rfl
    obtain ⟨b1, b2, b3', b4, _⟩ := hI.job _ j hj2
    have hbm : (b, Obj.cells (encJ j).toArray 228 (0, 0)) ∈ BL A J N T lv dv ps Ld a := List.mem_cons_of_mem _ (List.mem_cons_of_mem _ (List.mem_cons_of_mem _ (List.mem_cons_of_mem _ (List.mem_append_right _ (jbs_mem hp2)))))
    refine .q (.ldO (v := .pointer (some ⟨b, 0, none⟩)) o226 2 rfl rfl (by rw [Nat.zero_add, Nat.mul_one, List.getElem?_map, List.getElem?_eq_getElem hit, hp]; rfl)) (.q (.assign rfl) (.nil (.code ?_)))
    refine .seq (.seq (.draw mix (by kernel_rfl) (fun _ h => h.drew) (.q (.move rfl) (.q (.eqP pt226 rfl rfl) (.q (.move rfl) (.q (.move rfl) (.q (.nilP rfl) (.q (.fld f228_0 rfl) (.q (.ld o3 rfl (fun w1 hz => cellOf (hz.h.has (b, .cells (encJ j).toArray 228 (0, 0)) (List.mem_cons_of_mem _ hbm)) rfl)) (.q (.fld f26_3 rfl) (.q (.ldO o3 0 rfl rfl rfl) (.neS rfl rfl (fun h23 => ?_) (fun h23 => ?_)))))))))))))
    · refine .q (.pickF rfl rfl) (.q (.move rfl) (.skip (.skip (.skip (.skip (.skip (.skip (.skip (.skip (.skip (.q (.pickT rfl rfl) (.q (.move rfl) (.skip (.skip (.skip (.skip (.skip (.skip (.skip (.q (.pickT rfl rfl) (.q (.move rfl) (.skip (.skip (.skip (.skip (.skip (.skip (.skip (.skip (.q (.pickT rfl rfl) (.nil (.code ?_))))))))))))))))))))))))))))))))
      refine .tt (.seq (.reg (.q (.assign rfl) (.nil (.code ?_)))))
      refine .ret (.thR (.ret1 Tryz.results87 rfl fun w1 hz => ⟨_, _, rfl, hz, by rw [run, hj]; simp only; rw [if_pos (by omega)]; rfl⟩))
    · refine .q (.pickF rfl rfl) (.q (.move rfl) (.q (.move rfl) (.q (.nilP rfl) (.q (.fld f228_3 rfl) (.q (.ld o3 rfl (fun w1 hz => cellOf (hz.h.has (b, .cells (encJ j).toArray 228 (0, 0)) (List.mem_cons_of_mem _ hbm)) rfl)) (.q (.move rfl) (.q (.nilP rfl) (.q (.fld f89_5 rfl) (.q (.ldO o3 1 rfl rfl rfl) (.neS rfl rfl (fun h34 => ?_) (fun h34 => ?_)))))))))))
      · refine .q (.pickF rfl rfl) (.q (.move rfl) (.skip (.skip (.skip (.skip (.skip (.skip (.skip (.q (.pickT rfl rfl) (.q (.move rfl) (.skip (.skip (.skip (.skip (.skip (.skip (.skip (.skip (.q (.pickT rfl rfl) (.nil (.code ?_)))))))))))))))))))))
        refine .tt (.seq (.reg (.q (.assign rfl) (.nil (.code ?_)))))
        refine .ret (.thR (.ret1 Tryz.results87 rfl fun w1 hz => ⟨_, _, rfl, hz, by rw [run, hj]; simp only; rw [if_pos (by omega)]; rfl⟩))
      · refine .q (.pickF rfl rfl) (.q (.move rfl) (.q (.move rfl) (.q (.nilP rfl) (.q (.fld f228_4 rfl) (.q (.ld o3 rfl (fun w1 hz => cellOf (hz.h.has (b, .cells (encJ j).toArray 228 (0, 0)) (List.mem_cons_of_mem _ hbm)) rfl)) (.q (.fld f26_1 rfl) (.q (.ldO o3 0 rfl rfl rfl) (.neS rfl rfl (fun h43 => ?_) (fun h43 => ?_)))))))))
        · refine .q (.pickF rfl rfl) (.q (.move rfl) (.skip (.skip (.skip (.skip (.skip (.skip (.skip (.skip (.q (.pickT rfl rfl) (.nil (.code ?_))))))))))))
          refine .tt (.seq (.reg (.q (.assign rfl) (.nil (.code ?_)))))
          refine .ret (.thR (.ret1 Tryz.results87 rfl fun w1 hz => ⟨_, _, rfl, hz, by rw [run, hj]; simp only; rw [if_pos (by omega)]; rfl⟩))
        · refine .q (.pickF rfl rfl) (.q (.move rfl) (.q (.fld f26_4 rfl) (.q (.ldO o5 0 rfl rfl rfl) (.eqS rfl rfl (fun h48 => ?_) (fun h48 => ?_)))))
          · refine .q (.move rfl) (.q (.fld f26_5 rfl) (.q (.ldO o3 0 rfl rfl rfl) (.neS rfl rfl (fun h52 => ?_) (fun h52 => ?_))))
            · refine .q (.pickT rfl rfl) (.q (.pickF rfl rfl) (.nil (.code ?_)))
              refine .tt (.seq (.reg (.q (.assign rfl) (.nil (.code ?_)))))
              refine .ret (.thR (.ret1 Tryz.results87 rfl fun w1 hz => ⟨_, _, rfl, hz, by rw [run, hj]; simp only; rw [if_pos (by omega)]; rfl⟩))
            · refine .q (.pickT rfl rfl) (.q (.pickF rfl rfl) (.nil (.code ?_)))
              refine .ff (.skip (.code ?_))
              refine .seq (.seq (.reg (.q (.fld f26_4 rfl) (.q (.ldO o5 0 rfl rfl rfl) (.neS rfl rfl (fun h57 => ?_) (fun h57 => ?_))))))
              · refine .nil (.code ?_)
                refine .tt (.drawT mix 7 (by kernel_rfl) (fun _ h => h.drew) (.q (.move rfl) (.q (.nilP rfl) (.q (.fld f89_2 rfl) (.q (.ldO o87 1 rfl rfl rfl) (.q (.fld f26_2 rfl) (.q (.ldO (v := .int .i64 ((e.t.toNat : Nat) : Int)) o3 0 rfl rfl (by rw [Int.toNat_of_nonneg ht0]; rfl)) (.q (.ix s87 rfl rfl (by omega)) (.tail (.st o226 2 rfl rfl rfl rfl (by simp [Nat.blt_eq]; omega) (.nil (.code ?_))))))))))))
                refine .seq (.reg (.q (.assign rfl) (.nil (.code ?_))))
                refine .ret (.ret1 Tryz.results87 rfl fun w1 hz => ⟨_, _, rfl, fin_del (b := { a with js := a.js.set e.t.toNat none }) (drp hz) rfl (ptr_set ps e.t.toNat none) rfl rfl, by
      rw [run, hj]; simp only; rw [if_neg (by omega), if_pos h57]
      exact ⟨rfl, _, _, _, rfl, hD, by simp only [hjs, List.map_set]; rfl⟩⟩)
              · refine .nil (.code ?_)
                refine .ff (.skip (.code ?_))
                refine .seq (.reg (.q (.assign rfl) (.nil (.code ?_))))
                refine .ret (.ret1 Tryz.results87 rfl fun w1 hz => ⟨_, _, rfl, drp hz, by
      rw [run, hj]; simp only; rw [if_neg (by omega), if_neg (by omega)]
      exact ⟨rfl, _, _, _, rfl, hD, hjs⟩⟩)
          · refine .q (.move rfl) (.skip (.skip (.skip (.q (.pickF rfl rfl) (.q (.pickF rfl rfl) (.nil (.code ?_)))))))
            refine .ff (.skip (.code ?_))
            refine .seq (.seq (.reg (.q (.fld f26_4 rfl) (.q (.ldO o5 0 rfl rfl rfl) (.neS rfl rfl (fun h57 => ?_) (fun h57 => ?_))))))
            · refine .nil (.code ?_)
              refine .tt (.drawT mix 7 (by kernel_rfl) (fun _ h => h.drew) (.q (.move rfl) (.q (.nilP rfl) (.q (.fld f89_2 rfl) (.q (.ldO o87 1 rfl rfl rfl) (.q (.fld f26_2 rfl) (.q (.ldO (v := .int .i64 ((e.t.toNat : Nat) : Int)) o3 0 rfl rfl (by rw [Int.toNat_of_nonneg ht0]; rfl)) (.q (.ix s87 rfl rfl (by omega)) (.tail (.st o226 2 rfl rfl rfl rfl (by simp [Nat.blt_eq]; omega) (.nil (.code ?_))))))))))))
              refine .seq (.reg (.q (.assign rfl) (.nil (.code ?_))))
              refine .ret (.ret1 Tryz.results87 rfl fun w1 hz => ⟨_, _, rfl, fin_del (b := { a with js := a.js.set e.t.toNat none }) (drp hz) rfl (ptr_set ps e.t.toNat none) rfl rfl, by
      rw [run, hj]; simp only; rw [if_neg (by omega), if_pos h57]
      exact ⟨rfl, _, _, _, rfl, hD, by simp only [hjs, List.map_set]; rfl⟩⟩)
            · refine .nil (.code ?_)
              refine .ff (.skip (.code ?_))
              refine .seq (.reg (.q (.assign rfl) (.nil (.code ?_))))
              refine .ret (.ret1 Tryz.results87 rfl fun w1 hz => ⟨_, _, rfl, drp hz, by
      rw [run, hj]; simp only; rw [if_neg (by omega), if_neg (by omega)]
      exact ⟨rfl, _, _, _, rfl, hD, hjs⟩⟩)


theorem rel_no {a : Au} {e : Ev} (h : e.t ≤ a.newest ∨ (M.job a e.t.toNat).isSome = true ∨ (0 < cntAt a e.t.toNat ∧ a.slot - lastAt a e.t.toNat < perAt a e.t.toNat) ∨ e.j ≠ cntAt a e.t.toNat ∨ e.c ≠ -1 ∨ e.v ≠ 0) : release a e = none := if_pos h
theorem rel_yes {a : Au} {e : Ev} (h1 : (M.job a e.t.toNat).isSome = false) (h : ¬ (e.t ≤ a.newest ∨ (0 < cntAt a e.t.toNat ∧ a.slot - lastAt a e.t.toNat < perAt a e.t.toNat) ∨ e.j ≠ cntAt a e.t.toNat ∨ e.c ≠ -1 ∨ e.v ≠ 0)) : release a e = some { a with js := a.js.set e.t.toNat (some ⟨e.j, a.slot, 0, -1, 0⟩), cnt := a.cnt.set e.t.toNat (cntAt a e.t.toNat + 1), last := a.last.set e.t.toNat a.slot, newest := e.t } := if_neg (by
  rintro (h2 | h2 | h2)
  · exact h (.inl h2)
  · rw [h1] at h2; cases h2
  · exact h (.inr h2))
theorem int_set (xs : List Int) (i : Nat) (v : Int) : (xs.map intV).set (0 + i * 1) (.int .i64 v) = (xs.set i v).map intV := by rw [Nat.zero_add, Nat.mul_one, List.map_set]; rfl

theorem release_calls (w0 w : World) (A J N T : Nat) (lv dv : Value) (ps : List (Option (Nat × Jb))) (Ld : List Blk) (a : Au) (K : Int) (e : Ev) (hH : H w0 w (BL A J N T lv dv ps Ld a)) (hl : Rd encT 3 w0 lv a.l) (hjs : a.js = ps.map (Option.map (·.2))) (hD : DU dv a.due Ld) (hI : AuI a K) (ht0 : 0 ≤ e.t) (ht1 : e.t < a.l.length) : Calls Tryz.prog 85 #[.pointer (some ⟨A, 0, none⟩), .agg (encE e).toArray] w fun r w' => ∃ v L', r = .returned v ∧ Z w0 w (BL A J N T lv dv ps Ld a) L' w' ∧ AccP A J N T lv (release a e) v L' := by
  have hlen2 : ps.length = a.js.length := by rw [hjs, List.length_map]
  have hlen : ps.length = a.l.length := hlen2.trans hI.nj
  have hnc := hI.nc
  have hnt := hI.nt
  have h40 := hI.n12
  obtain ⟨q1, q2, q3, q4, q5, q6⟩ := And.intro hI.s0 (And.intro hI.s1 (And.intro hI.c0 (And.intro hI.c1 (And.intro hI.k0 hI.k1))))
  have hit : e.t.toNat < ps.length := by omega
  refine enter (args := [_, _]) Tryz.func85 rfl rfl rfl (C := Z w0 w (BL A J N T lv dv ps Ld a) (BL A J N T lv dv ps Ld a)) (Z.start hH) ?_
  refine .seq (.reg (.box rfl fun b3 => .q (.assign rfl) (.nil (.code ?_))))
  refine .seq (.reg (.q (.fld f26_2 rfl) (.q (.ldO (v := .int .i64 ((e.t.toNat : Nat) : Int)) o3 0 rfl rfl (by rw [Int.toNat_of_nonneg ht0]; rfl)) (.q (.assign rfl) (.nil (.code ?_))))))
  refine .seq (.seq (.draw mix (by kernel_rfl) (fun _ h => h.drew) (?_)))
  have hic : e.t.toNat < a.cnt.length := by omega
  have hil : e.t.toNat < a.last.length := by omega
  have hik : e.t.toNat < a.l.length := by omega
  have hcnt : cntAt a e.t.toNat = a.cnt[e.t.toNat] := by rw [cntAt, List.getElem?_eq_getElem hic]; rfl
  have hlast : lastAt a e.t.toNat = a.last[e.t.toNat] := by rw [lastAt, List.getElem?_eq_getElem hil]; rfl
  have hper : perAt a e.t.toNat = a.l[e.t.toNat].p := by rw [perAt, List.getElem?_eq_getElem hik]; rfl
  obtain ⟨c1, c2⟩ := hI.cnt _ _ (List.getElem?_eq_getElem hic)
  obtain ⟨c3, c4⟩ := hI.last _ _ (List.getElem?_eq_getElem hil)
  obtain ⟨c5, c6, c7⟩ := hI.tk hik
  obtain ⟨lb, loff, lc, rfl, hlc⟩ := Rd.at hl hik
  refine .q (.move rfl) (.q (.move rfl) (.q (.nilP rfl) (.q (.fld f89_8 rfl) (.q (.ldO o3 1 rfl rfl rfl) (.leS rfl rfl (fun h13 => ?_) (fun h13 => ?_))))))
  · refine .q (.move rfl) (.skip (.skip (.skip (.skip (.skip (.skip (.skip (.skip (.q (.pickT rfl rfl) (.q (.move rfl) (.skip (.skip (.skip (.skip (.skip (.skip (.skip (.skip (.skip (.skip (.skip (.skip (.skip (.skip (.skip (.skip (.skip (.skip (.skip (.skip (.skip (.skip (.skip (.skip (.skip (.skip (.skip (.skip (.skip (.skip (.skip (.q (.pickT rfl rfl) (.q (.move rfl) (.skip (.skip (.skip (.skip (.skip (.skip (.skip (.skip (.skip (.skip (.q (.pickT rfl rfl) (.q (.move rfl) (.skip (.skip (.skip (.q (.pickT rfl rfl) (.q (.move rfl) (.skip (.skip (.skip (.q (.pickT rfl rfl) (.nil (.code ?_))))))))))))))))))))))))))))))))))))))))))))))))))))))))))))))))))
    refine .tt (.seq (.reg (.q (.assign rfl) (.nil (.code ?_)))))
    refine .ret (.thR (.ret1 Tryz.results85 rfl fun w1 hz => ⟨_, _, rfl, hz, by rw [rel_no (by rw [hcnt, hlast, hper]; omega)]; rfl⟩))
  · refine .q (.move rfl) (.q (.move rfl) (.q (.nilP rfl) (.q (.fld f89_2 rfl) (.q (.ldO o87 1 rfl rfl rfl) (.q (.move rfl) (.q (.ix s87 rfl rfl (by omega)) (?_)))))))
    rcases hp : ps[e.t.toNat] with _ | ⟨b, j⟩
    · have hjn : M.job a e.t.toNat = none := by rw [M.job, hjs, List.getElem?_map, List.getElem?_eq_getElem hit, hp]; rfl
      have hp2 : ps[e.t.toNat]? = some none := by rw [List.getElem?_eq_getElem hit, hp]
      refine .q (.ldO (v := .pointer none) o226 2 rfl rfl (by rw [Nat.zero_add, Nat.mul_one, List.getElem?_map, List.getElem?_eq_getElem hit, hp]; rfl)) (.q (.neP pt226 rfl rfl) (.q (.pickF rfl rfl) (.q (.move rfl) (.q (.move rfl) (.q (.nilP rfl) (.q (.fld f89_3 rfl) (.q (.ldO o41 1 rfl rfl rfl) (.q (.move rfl) (.q (.ix s41 rfl rfl (by omega)) (.q (.ldO (v := .int .i64 (a.cnt)[e.t.toNat]) o3 3 rfl rfl (by rw [Nat.zero_add, Nat.mul_one, List.getElem?_map, List.getElem?_eq_getElem hic]; rfl)) (.gtS rfl rfl (fun h32 => ?_) (fun h32 => ?_))))))))))))
      · refine .q (.move rfl) (.q (.move rfl) (.q (.nilP rfl) (.q (.fld f89_5 rfl) (.q (.ldO o3 1 rfl rfl rfl) (.q (.move rfl) (.q (.nilP rfl) (.q (.fld f89_4 rfl) (.q (.ldO o41 1 rfl rfl rfl) (.q (.move rfl) (.q (.ix s41 rfl rfl (by omega)) (.q (.ldO (v := .int .i64 (a.last)[e.t.toNat]) o3 4 rfl rfl (by rw [Nat.zero_add, Nat.mul_one, List.getElem?_map, List.getElem?_eq_getElem hil]; rfl)) (.q (.sub rfl rfl (IntWalk.i64_in _ (by omega))) (.q (.move rfl) (.q (.nilP rfl) (.q (.fld f89_0 rfl) (.q (.ldO o36 1 rfl rfl rfl) (.q (.move rfl) (.q (.ix s36 rfl rfl (by omega)) (.q (.fld f35_2 rfl) (.q (.ldW o3 rfl (hlc 2 (by omega))) (.ltS rfl rfl (fun h54 => ?_) (fun h54 => ?_))))))))))))))))))))))
        · refine .q (.pickT rfl rfl) (.q (.pickF rfl rfl) (.q (.move rfl) (.skip (.skip (.skip (.skip (.skip (.skip (.skip (.skip (.skip (.skip (.q (.pickT rfl rfl) (.q (.move rfl) (.skip (.skip (.skip (.q (.pickT rfl rfl) (.q (.move rfl) (.skip (.skip (.skip (.q (.pickT rfl rfl) (.nil (.code ?_)))))))))))))))))))))))))
          refine .tt (.seq (.reg (.q (.assign rfl) (.nil (.code ?_)))))
          refine .ret (.thR (.ret1 Tryz.results85 rfl fun w1 hz => ⟨_, _, rfl, hz, by rw [rel_no (by rw [hcnt, hlast, hper]; omega)]; rfl⟩))
        · refine .q (.pickT rfl rfl) (.q (.pickF rfl rfl) (.q (.move rfl) (.q (.fld f26_3 rfl) (.q (.ldO o3 0 rfl rfl rfl) (.q (.move rfl) (.q (.nilP rfl) (.q (.fld f89_3 rfl) (.q (.ldO o41 1 rfl rfl rfl) (.q (.move rfl) (.q (.ix s41 rfl rfl (by omega)) (.q (.ldO (v := .int .i64 (a.cnt)[e.t.toNat]) o3 3 rfl rfl (by rw [Nat.zero_add, Nat.mul_one, List.getElem?_map, List.getElem?_eq_getElem hic]; rfl)) (.neS rfl rfl (fun h67 => ?_) (fun h67 => ?_)))))))))))))
          · refine .q (.pickF rfl rfl) (.q (.move rfl) (.skip (.skip (.skip (.q (.pickT rfl rfl) (.q (.move rfl) (.skip (.skip (.skip (.q (.pickT rfl rfl) (.nil (.code ?_))))))))))))
            refine .tt (.seq (.reg (.q (.assign rfl) (.nil (.code ?_)))))
            refine .ret (.thR (.ret1 Tryz.results85 rfl fun w1 hz => ⟨_, _, rfl, hz, by rw [rel_no (by rw [hcnt, hlast, hper]; omega)]; rfl⟩))
          · refine .q (.pickF rfl rfl) (.q (.move rfl) (.q (.fld f26_1 rfl) (.q (.ldO o3 0 rfl rfl rfl) (.neS rfl rfl (fun h72 => ?_) (fun h72 => ?_)))))
            · refine .q (.pickF rfl rfl) (.q (.move rfl) (.skip (.skip (.skip (.q (.pickT rfl rfl) (.nil (.code ?_)))))))
              refine .tt (.seq (.reg (.q (.assign rfl) (.nil (.code ?_)))))
              refine .ret (.thR (.ret1 Tryz.results85 rfl fun w1 hz => ⟨_, _, rfl, hz, by rw [rel_no (by rw [hcnt, hlast, hper]; omega)]; rfl⟩))
            · refine .q (.pickF rfl rfl) (.q (.move rfl) (.q (.fld f26_5 rfl) (.q (.ldO o3 0 rfl rfl rfl) (.neS rfl rfl (fun h77 => ?_) (fun h77 => ?_)))))
              · refine .q (.pickF rfl rfl) (.nil (.code ?_))
                refine .tt (.seq (.reg (.q (.assign rfl) (.nil (.code ?_)))))
                refine .ret (.thR (.ret1 Tryz.results85 rfl fun w1 hz => ⟨_, _, rfl, hz, by rw [rel_no (by rw [hcnt, hlast, hper]; omega)]; rfl⟩))
              · refine .q (.pickF rfl rfl) (.nil (.code ?_))
                refine .ff (.skip (.code ?_))
                refine .seq (.drawS mix [14] [] [0, 1, 2, 3, 4, 5, 6, 7, 8, 9, 10, 11] (.one 12 (.one 13 (.one 14 .nil))) (by kernel_rfl) (fun _ h => h.drew) (fun _ h => h) (.toS (.q (.move rfl) (.q (.nilP rfl) (.q (.fld f89_2 rfl) (.q (.ldO o87 1 rfl rfl rfl) (.q (.move rfl) (.q (.fld f26_3 rfl) (.q (.ldO o3 0 rfl rfl rfl) (.q (.move rfl) (.q (.nilP rfl) (.q (.fld f89_5 rfl) (.q (.ldO o3 1 rfl rfl rfl) (.q (.build st228 rfl rfl) (.toT (.step rfl (.box rfl fun b91 => .nil (.tk (fun _ h => drp (h)) (.step rfl (.q (.ix s87 rfl rfl (by omega)) (.nil (.tk (fun _ h => drp (h)) (.step rfl (.st o226 3 rfl rfl rfl rfl (by simp [Nat.blt_eq]; omega) (.nil (.tkB (.nil (.code ?_))))))))))))))))))))))))))))
                refine .seq (.reg (.q (.move rfl) (.q (.nilP rfl) (.q (.fld f89_3 rfl) (.q (.ldO o41 2 rfl rfl rfl) (.q (.move rfl) (.q (.ix s41 rfl rfl (by omega)) (.q (.ldO (v := .int .i64 (a.cnt)[e.t.toNat]) o3 4 rfl rfl (by rw [Nat.zero_add, Nat.mul_one, List.getElem?_map, List.getElem?_eq_getElem hic]; rfl)) (.q (.add rfl rfl (IntWalk.i64_in _ (by omega))) (.q (.ix s41 rfl rfl (by omega)) (.st o3 4 rfl rfl rfl rfl (by simp [Nat.blt_eq]; omega) (.nil (.code ?_)))))))))))))
                refine .seq (.drawS mix [5, 10, 12, 13, 14, 15] [5, 10] [0, 1, 2, 3, 4, 6, 7, 8, 9] (.one 11 (.one 12 (.one 13 (.one 14 (.one 15 .nil))))) (by kernel_rfl) (fun _ h => h.drew) (fun _ h => h) (.q (.move rfl) (.q (.move rfl) (.toS (.q (.move rfl) (.q (.nilP rfl) (.q (.fld f89_4 rfl) (.q (.ldO o41 2 rfl rfl rfl) (.q (.move rfl) (.q (.move rfl) (.q (.nilP rfl) (.q (.fld f89_5 rfl) (.q (.ldO o3 2 rfl rfl rfl) (.toT (.step rfl (.q (.ix s41 rfl rfl (by omega)) (.nil (.tk (fun _ h => h) (.step rfl (.st o3 5 rfl rfl rfl rfl (by simp [Nat.blt_eq]; omega) (.nil (.tkB (.step rfl (.q (.nilP rfl) (.nil (.tkB (.step rfl (.q (.fld f89_8 rfl) (.nil (.tkB (.step rfl (.st o3 2 rfl rfl rfl rfl rfl (.nil (.tkB (.nil (.code ?_))))))))))))))))))))))))))))))))))))
                refine .seq (.reg (.q (.assign rfl) (.nil (.code ?_))))
                refine .ret (.ret1 Tryz.results85 rfl fun w1 hz => ⟨_, _, rfl, fin_new (j' := ⟨e.j, a.slot, 0, -1, 0⟩) (b := { a with js := a.js.set e.t.toNat (some ⟨e.j, a.slot, 0, -1, 0⟩), cnt := a.cnt.set e.t.toNat (cntAt a e.t.toNat + 1), last := a.last.set e.t.toNat a.slot, newest := e.t }) (hz.sublist ((List.sublist_cons_self _ _).cons_cons _)) hp2 rfl (by rw [Int.toNat_of_nonneg ht0]; rfl) (ptr_set ps e.t.toNat (some (b91, _))) (by rw [hcnt]; exact int_set _ _ _) (int_set _ _ _), by
      rw [rel_yes (by rw [hjn]; rfl) (by rw [hcnt, hlast, hper]; omega)]
      exact ⟨rfl, _, _, _, rfl, hD, by simp only [hjs, List.map_set]; rfl⟩⟩)
      · refine .q (.move rfl) (.skip (.skip (.skip (.skip (.skip (.skip (.skip (.skip (.skip (.skip (.skip (.skip (.skip (.skip (.skip (.skip (.skip (.skip (.skip (.skip (.skip (.q (.pickF rfl rfl) (.q (.pickF rfl rfl) (.q (.move rfl) (.q (.fld f26_3 rfl) (.q (.ldO o3 0 rfl rfl rfl) (.q (.move rfl) (.q (.nilP rfl) (.q (.fld f89_3 rfl) (.q (.ldO o41 1 rfl rfl rfl) (.q (.move rfl) (.q (.ix s41 rfl rfl (by omega)) (.q (.ldO (v := .int .i64 (a.cnt)[e.t.toNat]) o3 3 rfl rfl (by rw [Nat.zero_add, Nat.mul_one, List.getElem?_map, List.getElem?_eq_getElem hic]; rfl)) (.neS rfl rfl (fun h67 => ?_) (fun h67 => ?_)))))))))))))))))))))))))))))))))))
        · refine .q (.pickF rfl rfl) (.q (.move rfl) (.skip (.skip (.skip (.q (.pickT rfl rfl) (.q (.move rfl) (.skip (.skip (.skip (.q (.pickT rfl rfl) (.nil (.code ?_))))))))))))
          refine .tt (.seq (.reg (.q (.assign rfl) (.nil (.code ?_)))))
          refine .ret (.thR (.ret1 Tryz.results85 rfl fun w1 hz => ⟨_, _, rfl, hz, by rw [rel_no (by rw [hcnt, hlast, hper]; omega)]; rfl⟩))
        · refine .q (.pickF rfl rfl) (.q (.move rfl) (.q (.fld f26_1 rfl) (.q (.ldO o3 0 rfl rfl rfl) (.neS rfl rfl (fun h72 => ?_) (fun h72 => ?_)))))
          · refine .q (.pickF rfl rfl) (.q (.move rfl) (.skip (.skip (.skip (.q (.pickT rfl rfl) (.nil (.code ?_)))))))
            refine .tt (.seq (.reg (.q (.assign rfl) (.nil (.code ?_)))))
            refine .ret (.thR (.ret1 Tryz.results85 rfl fun w1 hz => ⟨_, _, rfl, hz, by rw [rel_no (by rw [hcnt, hlast, hper]; omega)]; rfl⟩))
          · refine .q (.pickF rfl rfl) (.q (.move rfl) (.q (.fld f26_5 rfl) (.q (.ldO o3 0 rfl rfl rfl) (.neS rfl rfl (fun h77 => ?_) (fun h77 => ?_)))))
            · refine .q (.pickF rfl rfl) (.nil (.code ?_))
              refine .tt (.seq (.reg (.q (.assign rfl) (.nil (.code ?_)))))
              refine .ret (.thR (.ret1 Tryz.results85 rfl fun w1 hz => ⟨_, _, rfl, hz, by rw [rel_no (by rw [hcnt, hlast, hper]; omega)]; rfl⟩))
            · refine .q (.pickF rfl rfl) (.nil (.code ?_))
              refine .ff (.skip (.code ?_))
              refine .seq (.drawS mix [14] [] [0, 1, 2, 3, 4, 5, 6, 7, 8, 9, 10, 11] (.one 12 (.one 13 (.one 14 .nil))) (by kernel_rfl) (fun _ h => h.drew) (fun _ h => h) (.toS (.q (.move rfl) (.q (.nilP rfl) (.q (.fld f89_2 rfl) (.q (.ldO o87 1 rfl rfl rfl) (.q (.move rfl) (.q (.fld f26_3 rfl) (.q (.ldO o3 0 rfl rfl rfl) (.q (.move rfl) (.q (.nilP rfl) (.q (.fld f89_5 rfl) (.q (.ldO o3 1 rfl rfl rfl) (.q (.build st228 rfl rfl) (.toT (.step rfl (.box rfl fun b91 => .nil (.tk (fun _ h => drp (h)) (.step rfl (.q (.ix s87 rfl rfl (by omega)) (.nil (.tk (fun _ h => drp (h)) (.step rfl (.st o226 3 rfl rfl rfl rfl (by simp [Nat.blt_eq]; omega) (.nil (.tkB (.nil (.code ?_))))))))))))))))))))))))))))
              refine .seq (.reg (.q (.move rfl) (.q (.nilP rfl) (.q (.fld f89_3 rfl) (.q (.ldO o41 2 rfl rfl rfl) (.q (.move rfl) (.q (.ix s41 rfl rfl (by omega)) (.q (.ldO (v := .int .i64 (a.cnt)[e.t.toNat]) o3 4 rfl rfl (by rw [Nat.zero_add, Nat.mul_one, List.getElem?_map, List.getElem?_eq_getElem hic]; rfl)) (.q (.add rfl rfl (IntWalk.i64_in _ (by omega))) (.q (.ix s41 rfl rfl (by omega)) (.st o3 4 rfl rfl rfl rfl (by simp [Nat.blt_eq]; omega) (.nil (.code ?_)))))))))))))
              refine .seq (.drawS mix [5, 10, 12, 13, 14, 15] [5, 10] [0, 1, 2, 3, 4, 6, 7, 8, 9] (.one 11 (.one 12 (.one 13 (.one 14 (.one 15 .nil))))) (by kernel_rfl) (fun _ h => h.drew) (fun _ h => h) (.q (.move rfl) (.q (.move rfl) (.toS (.q (.move rfl) (.q (.nilP rfl) (.q (.fld f89_4 rfl) (.q (.ldO o41 2 rfl rfl rfl) (.q (.move rfl) (.q (.move rfl) (.q (.nilP rfl) (.q (.fld f89_5 rfl) (.q (.ldO o3 2 rfl rfl rfl) (.toT (.step rfl (.q (.ix s41 rfl rfl (by omega)) (.nil (.tk (fun _ h => h) (.step rfl (.st o3 5 rfl rfl rfl rfl (by simp [Nat.blt_eq]; omega) (.nil (.tkB (.step rfl (.q (.nilP rfl) (.nil (.tkB (.step rfl (.q (.fld f89_8 rfl) (.nil (.tkB (.step rfl (.st o3 2 rfl rfl rfl rfl rfl (.nil (.tkB (.nil (.code ?_))))))))))))))))))))))))))))))))))))
              refine .seq (.reg (.q (.assign rfl) (.nil (.code ?_))))
              refine .ret (.ret1 Tryz.results85 rfl fun w1 hz => ⟨_, _, rfl, fin_new (j' := ⟨e.j, a.slot, 0, -1, 0⟩) (b := { a with js := a.js.set e.t.toNat (some ⟨e.j, a.slot, 0, -1, 0⟩), cnt := a.cnt.set e.t.toNat (cntAt a e.t.toNat + 1), last := a.last.set e.t.toNat a.slot, newest := e.t }) (hz.sublist ((List.sublist_cons_self _ _).cons_cons _)) hp2 rfl (by rw [Int.toNat_of_nonneg ht0]; rfl) (ptr_set ps e.t.toNat (some (b91, _))) (by rw [hcnt]; exact int_set _ _ _) (int_set _ _ _), by
      rw [rel_yes (by rw [hjn]; rfl) (by rw [hcnt, hlast, hper]; omega)]
      exact ⟨rfl, _, _, _, rfl, hD, by simp only [hjs, List.map_set]; rfl⟩⟩)
    · have hp2 : ps[e.t.toNat]? = some (some (b, j)) := by rw [List.getElem?_eq_getElem hit, hp]
      have hj2 : a.js[e.t.toNat]? = some (some j) := by rw [hjs, List.getElem?_map, hp2]; rfl
      have hj : M.job a e.t.toNat = some j := by rw [M.job, hj2]; rfl
      obtain ⟨b1, b2, b3', b4, _⟩ := hI.job _ j hj2
      refine .q (.ldO (v := .pointer (some ⟨b, 0, none⟩)) o226 2 rfl rfl (by rw [Nat.zero_add, Nat.mul_one, List.getElem?_map, List.getElem?_eq_getElem hit, hp]; rfl)) (.q (.neP pt226 rfl rfl) (.q (.pickF rfl rfl) (.q (.move rfl) (.skip (.skip (.skip (.skip (.skip (.skip (.skip (.skip (.skip (.skip (.skip (.skip (.skip (.skip (.skip (.skip (.skip (.skip (.skip (.skip (.skip (.skip (.skip (.skip (.skip (.skip (.skip (.skip (.skip (.skip (.skip (.q (.pickT rfl rfl) (.q (.move rfl) (.skip (.skip (.skip (.skip (.skip (.skip (.skip (.skip (.skip (.skip (.q (.pickT rfl rfl) (.q (.move rfl) (.skip (.skip (.skip (.q (.pickT rfl rfl) (.q (.move rfl) (.skip (.skip (.skip (.q (.pickT rfl rfl) (.nil (.code ?_)))))))))))))))))))))))))))))))))))))))))))))))))))))))))))
      refine .tt (.seq (.reg (.q (.assign rfl) (.nil (.code ?_)))))
      refine .ret (.thR (.ret1 Tryz.results85 rfl fun w1 hz => ⟨_, _, rfl, hz, by rw [rel_no (.inr (.inl (by rw [hj]; rfl)))]; rfl⟩))

end Go.Proofs.YtjccenbacjhglaaGreatDoor.AU4
