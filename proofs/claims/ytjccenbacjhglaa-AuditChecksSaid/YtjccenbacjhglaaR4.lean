import Derived.Test.YtjccenbacjhglaaProg
import Derived.Test.YtjccenbacjhglaaK
import Derived.Test.YtjccenbacjhglaaM
import Derived.Test.YtjccenbacjhglaaM4
import Derived.Test.YtjccenbacjhglaaIS
import Derived.Test.YtjccenbacjhglaaM2
import Derived.Test.YtjccenbacjhglaaM5
import Derived.Test.YtjccenbacjhglaaPF
import Derived.Test.YtjccenbacjhglaaSO
import Derived.Test.YtjccenbacjhglaaAU
import Derived.Test.YtjccenbacjhglaaR1
import Derived.Test.YtjccenbacjhglaaR2
import Derived.Test.YtjccenbacjhglaaR3
import Derived.Test.YtjccenbacjhglaaRI
set_option linter.unusedVariables false
set_option linter.unusedSimpArgs false
set_option maxRecDepth 100000
set_option maxHeartbeats 4000000
namespace Go.Proofs.Ytjccenbacjhglaa.R4
open Go Go.Proofs Go.RowKit Go.Proofs.Ytjccenbacjhglaa.K Go.Proofs.Ytjccenbacjhglaa.M Go.Proofs.Ytjccenbacjhglaa.PF Go.Proofs.Ytjccenbacjhglaa.SO Go.Proofs.Ytjccenbacjhglaa.AU Go.Proofs.Ytjccenbacjhglaa.R1 Go.Proofs.Ytjccenbacjhglaa.R2 Go.Proofs.Ytjccenbacjhglaa.R3 Go.Proofs.Ytjccenbacjhglaa.EQ
theorem f85_3 : Fld Try.prog 85 3 3 := ⟨_, _, Try.underlying85, rfl, rfl, 0, by kernel_rfl⟩
theorem f85_4 : Fld Try.prog 85 4 4 := ⟨_, _, Try.underlying85, rfl, rfl, 0, by kernel_rfl⟩
theorem f85_5 : Fld Try.prog 85 5 5 := ⟨_, _, Try.underlying85, rfl, rfl, 0, by kernel_rfl⟩
theorem f85_6 : Fld Try.prog 85 6 6 := ⟨_, _, Try.underlying85, rfl, rfl, 0, by kernel_rfl⟩
theorem fn53 : Fnc Try.prog 53 := ⟨by kernel_rfl⟩
theorem mix : Try.prog.follows .mixedOrders = true := by kernel_rfl
theorem o3 : One Try.prog 3 := ⟨_, Try.underlying3, rfl, by kernel_rfl⟩
theorem o32 : One Try.prog 32 := ⟨_, Try.underlying32, rfl, by kernel_rfl⟩

/-- The model in blocks of the call's own. -/
def BR (M J : Nat) (lv nv : Value) (Ln : List Blk) (m : Rm) : List Blk := (M, .cells (rmC lv J nv m).toArray 85 (0, 0)) :: (J, .cells (m.js.flatMap encRJ ++ []).toArray 119 (0, 0)) :: Ln
/-- What is needed, in memory. -/
def DR (nv : Value) (ds : List Re) (Ln : List Blk) : Prop := ∃ A c, nv = .slice A ds.length c ∧ ds.length ≤ c ∧ (ds = [] ∨ ∃ b off cells, A = some ⟨b, off, none⟩ ∧ Ln = [(b, .cells cells 82 (0, 0))] ∧ ∀ i (hi : i < ds.length) k, k < 6 → cells[off + i * 6 + k]? = (encRE ds[i])[k]?)
theorem DR.nil : DR (.slice none 0 0) [] [] := ⟨none, 0, rfl, Nat.le_refl _, .inl rfl⟩
theorem DR.of {v : Value} {ds : List Re} {L : List Blk} (h : OS 82 6 v (ds.flatMap encRE) ds.length L) : DR v ds L := by
  obtain ⟨h0, h | h⟩ := h
  · obtain ⟨rfl, hx, rfl⟩ := h
    obtain rfl := List.eq_nil_of_length_eq_zero hx
    exact .nil
  · obtain ⟨b, cap, cur, rfl, rfl, h1, h2, h3, h4⟩ := h
    refine ⟨_, cap, rfl, h1, .inr ⟨b, 0, cur, rfl, rfl, fun i hi k hk => ?_⟩⟩
    have e := flat_getG (enc := encRE) encRE_len hi hk
    rw [← e, ← h4, Nat.zero_add, List.getElem?_take, if_pos (by omega), Array.getElem?_toList]
theorem DR.tl {db doff dc : Nat} {d : Re} {ds : List Re} {cells : Array Value} (hc : (d :: ds).length ≤ dc) (h : ∀ i (hi : i < (d :: ds).length) k, k < 6 → cells[doff + i * 6 + k]? = (encRE (d :: ds)[i])[k]?) : DR (.slice (some ⟨db, doff + (if dc = 1 then 0 else 1 * 6), none⟩) ((d :: ds).length - 1) (dc - 1)) ds [(db, .cells cells 82 (0, 0))] := by
  simp only [List.length_cons] at hc
  refine ⟨_, _, rfl, by omega, ?_⟩
  by_cases hds : ds = []
  · exact .inl hds
  · refine .inr ⟨db, _, cells, rfl, rfl, fun i hi k hk => ?_⟩
    have hpos : 0 < ds.length := List.length_pos_iff.2 hds
    rw [if_neg (by omega)]
    have := h (i + 1) (by simp; omega) k hk
    rw [show doff + 1 * 6 + i * 6 + k = doff + (i + 1) * 6 + k by omega]
    simpa using this
theorem cellA {w : World} {b k : Nat} {c : Array Value} {T : TypeId} {fr : Nat × Nat} (h : w.heap[b]? = some (.cells c T fr)) : w.cell? ⟨b, k, none⟩ = c[k]? := by simp [World.cell?, h]
theorem jget {js : List Rj} {i q : Nat} (hi : i < js.length) (hq : q < 6) : (js.flatMap encRJ ++ [])[0 + i * 6 + q]? = (encRJ js[i])[q]? := by
  rw [List.append_nil, Nat.zero_add]; exact flat_getG encRJ_len hi hq
theorem jlt {js : List Rj} {i q : Nat} (hi : i < js.length) (hq : q < 6) : Nat.blt (0 + i * 6 + q) (js.flatMap encRJ ++ []).length = true := by
  rw [List.append_nil, flat_len encRJ_len, Nat.blt_eq]; omega
theorem jset {js : List Rj} {i q : Nat} {v : Value} {r : Rj} (hi : i < js.length) (hq : q < 6) (h : (encRJ js[i]).set q v = encRJ r) : (js.flatMap encRJ ++ []).set (0 + i * 6 + q) v = (js.set i r).flatMap encRJ ++ [] := by
  have e := flat_set (enc := encRJ) encRJ_len js [] i r hi
  rw [← e, ← h, Nat.zero_add]
  have hl : i * 6 + 6 ≤ (js.flatMap encRJ ++ []).length := by rw [List.append_nil, flat_len encRJ_len]; omega
  have hx := flat_at (enc := encRJ) encRJ_len js [] i hi
  generalize js.flatMap encRJ ++ [] = c at *
  have h6 : ((encRJ js[i]).set q v).length = 6 := by simp [encRJ_len]
  have h66 : (encRJ r).length = 6 := rfl
  apply List.ext_getElem?
  intro n
  rw [List.getElem?_set]
  rcases Nat.lt_or_ge n (i * 6) with h1 | h1
  · rw [if_neg (by omega), List.append_assoc, List.getElem?_append_left (by rw [List.length_take]; omega), List.getElem?_take, if_pos h1]
  · rw [List.append_assoc, List.getElem?_append_right (by rw [List.length_take]; omega)]
    have e1 : (c.take (i * 6)).length = i * 6 := by rw [List.length_take]; omega
    rw [e1]
    rcases Nat.lt_or_ge n (i * 6 + 6) with h2 | h2
    · rw [List.getElem?_append_left (by omega), List.getElem?_set, ← hx]
      by_cases h3 : i * 6 + q = n
      · rw [if_pos h3, if_pos (by omega), if_pos (by omega)]
        rw [if_pos (by rw [List.length_take, List.length_drop]; omega)]
      · rw [if_neg h3, if_neg (by omega), List.getElem?_take, if_pos (by omega), List.getElem?_drop]
        congr 1; omega
    · rw [if_neg (by omega), List.getElem?_append_right (by omega), h6, List.getElem?_drop]
      congr 1; omega
theorem RmW.of {w : World} {M J : Nat} {lv nv : Value} {m : Rm} (h1 : w.heap[M]? = some (.cells (rmC lv J nv m).toArray 85 (0, 0))) (h2 : w.heap[J]? = some (.cells (m.js.flatMap encRJ ++ []).toArray 119 (0, 0))) (h3 : Rd encT 3 w lv m.l) : RmW w M J lv nv m := ⟨h1, by rw [List.append_nil] at h2; exact h2, h3⟩
theorem finR {w0 we w : World} {Le Ln : List Blk} {M J : Nat} {lv nv : Value} {b : Rm} {c1 c2 : List Value} (hz : Z w0 we Le ((M, .cells c1.toArray 85 (0, 0)) :: (J, .cells c2.toArray 119 (0, 0)) :: Ln) w) (h1 : c1 = rmC lv J nv b) (h2 : c2 = b.js.flatMap encRJ ++ []) : Z w0 we Le (BR M J lv nv Ln b) w := by
  subst h1 h2; exact hz
theorem reNe (d e : Re) : decide ([d.s, d.c, d.t, d.j, d.k, d.v] ≠ [e.s, e.c, e.t, e.j, e.k, e.v]) = decide (d ≠ e) := by
  obtain ⟨d1, d2, d3, d4, d5, d6⟩ := d
  obtain ⟨e1, e2, e3, e4, e5, e6⟩ := e
  simp
theorem rApply_2n {m : Rm} {e : Re} {j : Rj} (g : m.js[e.t.toNat]? = some j) (hk : phaseOf e.k = 2) (h : e.t ≤ m.last ∨ j.act = true ∨ (0 < j.cnt ∧ e.s - j.rel < rPer m e.t.toNat) ∨ e.j ≠ j.cnt ∨ e.c ≠ -1 ∨ e.v ≠ 0) : rApply m e = none := (rApply_2 g hk).trans (if_pos h)
theorem rApply_2y {m : Rm} {e : Re} {j : Rj} (g : m.js[e.t.toNat]? = some j) (hk : phaseOf e.k = 2) (ha : j.act = false) (h : ¬ (e.t ≤ m.last ∨ (0 < j.cnt ∧ e.s - j.rel < rPer m e.t.toNat) ∨ e.j ≠ j.cnt ∨ e.c ≠ -1 ∨ e.v ≠ 0)) : rApply m e = some { m with last := e.t, js := m.js.set e.t.toNat ⟨j.cnt + 1, e.s, 0, 0, 0, true⟩ } := (rApply_2 g hk).trans (if_neg (by
  rintro (h1 | h1 | h1)
  · exact h (.inl h1)
  · rw [ha] at h1; cases h1
  · exact h (.inr h1)))
theorem rApply_4n {m : Rm} {e : Re} {j : Rj} (g : m.js[e.t.toNat]? = some j) (hk : phaseOf e.k = 4) (h : j.act = false ∨ e.j ≠ j.cnt - 1 ∨ j.runs = 0 ∨ j.slot ≠ e.s ∨ j.core ≠ e.c ∨ (e.k = 3 ∧ e.v ≠ 0)) : rApply m e = none := (rApply_4 g hk).trans (if_pos h)
theorem rApply_4y {m : Rm} {e : Re} {j : Rj} (g : m.js[e.t.toNat]? = some j) (hk : phaseOf e.k = 4) (ha : j.act = true) (h : ¬ (e.j ≠ j.cnt - 1 ∨ j.runs = 0 ∨ j.slot ≠ e.s ∨ j.core ≠ e.c ∨ (e.k = 3 ∧ e.v ≠ 0))) : rApply m e = some { m with js := m.js.set e.t.toNat { j with act := decide (e.k = 7) } } := (rApply_4 g hk).trans (if_neg (by
  rintro (h1 | h1)
  · rw [ha] at h1; cases h1
  · exact h h1))

theorem rphase_calls (w : World) (k : Int) : Calls Try.prog 52 #[.int .u8 k] w fun e w' => e = .returned (.int .i64 (phaseOf k)) ∧ Z w w [] [] w' := by
  refine enter (args := [_]) Try.func52 rfl rfl rfl (C := Z w w [] []) (Z.start (H.nil w)) ?_
  refine .seq (.reg (.q (.assign rfl) (.nil (.code ?_))))
  refine .seq (.seq (.reg (.q (.move rfl) (.nil (.code ?_)))))
  refine .block (.seq (.reg (.eqS rfl rfl (fun h5 => ?_) (fun h5 => ?_))))
  · refine .q (.assign rfl) (.nil (.code ?_))
    refine .tt (.seq (.reg (.q (.assign rfl) (.nil (.code ?_)))))
    refine .ret (.inbR (.thR (.ret1 Try.results52 rfl fun w1 hz => ⟨iv (by simp [phaseOf, *]), hz⟩)))
  · refine .q (.assign rfl) (.nil (.code ?_))
    refine .ff (.seq (.reg (.eqS rfl rfl (fun h7 => ?_) (fun h7 => ?_))))
    · refine .q (.assign rfl) (.nil (.code ?_))
      refine .tt (.seq (.reg (.q (.assign rfl) (.nil (.code ?_)))))
      refine .ret (.inbR (.thR (.ret1 Try.results52 rfl fun w1 hz => ⟨iv (by simp [phaseOf, *]), hz⟩)))
    · refine .q (.assign rfl) (.nil (.code ?_))
      refine .ff (.seq (.reg (.eqS rfl rfl (fun h9 => ?_) (fun h9 => ?_))))
      · refine .q (.assign rfl) (.nil (.code ?_))
        refine .tt (.seq (.reg (.q (.assign rfl) (.nil (.code ?_)))))
        refine .ret (.inbR (.thR (.ret1 Try.results52 rfl fun w1 hz => ⟨iv (by simp [phaseOf, *]), hz⟩)))
      · refine .q (.assign rfl) (.nil (.code ?_))
        refine .ff (.seq (.seq (.reg (.eqS rfl rfl (fun h11 => ?_) (fun h11 => ?_)))))
        · refine .q (.assign rfl) (.nil (.code ?_))
          refine .tt (.skip (.code ?_))
          refine .tt (.seq (.reg (.q (.assign rfl) (.nil (.code ?_)))))
          refine .ret (.inbR (.thR (.ret1 Try.results52 rfl fun w1 hz => ⟨iv (by simp [phaseOf, *]), hz⟩)))
        · refine .q (.assign rfl) (.nil (.code ?_))
          refine .ff (.seq (.reg (.eqS rfl rfl (fun h12 => ?_) (fun h12 => ?_))))
          · refine .q (.assign rfl) (.nil (.code ?_))
            refine .tt (.skip (.code ?_))
            refine .tt (.seq (.reg (.q (.assign rfl) (.nil (.code ?_)))))
            refine .ret (.inbR (.thR (.ret1 Try.results52 rfl fun w1 hz => ⟨iv (by simp [phaseOf, *]), hz⟩)))
          · refine .q (.assign rfl) (.nil (.code ?_))
            refine .ff (.reg (.eqS rfl rfl (fun h13 => ?_) (fun h13 => ?_)))
            · refine .q (.assign rfl) (.nil (.code ?_))
              refine .tt (.seq (.reg (.q (.assign rfl) (.nil (.code ?_)))))
              refine .ret (.inbR (.thR (.ret1 Try.results52 rfl fun w1 hz => ⟨iv (by simp [phaseOf, *]), hz⟩)))
            · refine .q (.assign rfl) (.nil (.code ?_))
              refine .ff (.seq (.reg (.eqS rfl rfl (fun h15 => ?_) (fun h15 => ?_))))
              · refine .q (.assign rfl) (.nil (.code ?_))
                refine .tt (.seq (.reg (.q (.assign rfl) (.nil (.code ?_)))))
                refine .ret (.inbR (.thR (.ret1 Try.results52 rfl fun w1 hz => ⟨iv (by simp [phaseOf, *]), hz⟩)))
              · refine .q (.assign rfl) (.nil (.code ?_))
                refine .ff (.skip (.inbN (.code ?_)))
                refine .seq (.reg (.q (.assign rfl) (.nil (.code ?_))))
                refine .ret (.ret1 Try.results52 rfl fun w1 hz => ⟨iv (by simp [phaseOf, *]), hz⟩)

theorem rrule_calls (w : World) (p : Int) (h0 : 0 ≤ p) (h5 : p ≤ 5) : Calls Try.prog 35 #[.int .i64 p] w fun e w' => e = .returned (.int .i64 (p + 2)) ∧ Z w w [] [] w' := by
  refine enter (args := [_]) Try.func35 rfl rfl rfl (C := Z w w [] []) (Z.start (H.nil w)) ?_
  refine .seq (.reg (.q (.assign rfl) (.nil (.code ?_))))
  refine .seq (.reg (.q (.move rfl) (.q (.add rfl rfl (IntWalk.i64_in _ (by omega))) (.q (.assign rfl) (.nil (.code ?_))))))
  refine .ret (.ret1 Try.results35 rfl fun w1 hz => ⟨rfl, hz⟩)


theorem dr9 {m m9 : Rm} {v : Value} {L : List Blk} (e : rReq m9 = rReq (rNext0 m)) (p : OS 82 6 v ((rReq m9).flatMap encRE) (rReq m9).length L) : DR v (rNext m).need L := DR.of (by rw [e] at p; exact p)

theorem rnext_calls (w0 w : World) (M J : Nat) (lv nv : Value) (Ln : List Blk) (m : Rm) (K : Int) (hH : H w0 w (BR M J lv nv Ln m)) (hl : Rd encT 3 w0 lv m.l) (hI : RmI m K) (hs : m.slot + 1 ≤ 100001 ∨ m.phase < 5) : Calls Try.prog 36 #[.pointer (some ⟨M, 0, none⟩)] w fun e w' => ∃ v L', e = .returned v ∧ Z w0 w (BR M J lv nv Ln m) L' w' ∧ ∃ nv' Ln', L' = BR M J lv nv' Ln' (rNext m) ∧ DR nv' (rNext m).need Ln' := by
  obtain ⟨q1, q2, q3, q4, q5, q6⟩ := And.intro hI.s0 (And.intro hI.s1 (And.intro hI.p0 (And.intro hI.p1 (And.intro hI.k0 hI.k1))))
  have hI0 := rNext0_I hI hs
  refine enter (args := [_]) Try.func36 rfl rfl rfl (C := Z w0 w (BR M J lv nv Ln m) (BR M J lv nv Ln m)) (Z.start hH) ?_
  refine .seq (.reg (.q (.move rfl) (.q (.move rfl) (.q (.nilP rfl) (.q (.fld f85_4 rfl) (.q (.ldO o3 0 rfl rfl rfl) (.q (.add rfl rfl (IntWalk.i64_in _ (by omega))) (.q (.nilP rfl) (.q (.fld f85_4 rfl) (.st o3 0 rfl rfl rfl rfl rfl (.nil (.code ?_))))))))))))
  refine .seq (.seq (.reg (.q (.move rfl) (.q (.nilP rfl) (.q (.fld f85_4 rfl) (.q (.ldO o3 0 rfl rfl rfl) (.gtS rfl rfl (fun h14 => ?_) (fun h14 => ?_))))))))
  · have en := rNext_high (m := m) (by omega)
    obtain ⟨m9, hm9⟩ : ∃ x : Rm, x = ⟨m.l, m.cores, m.js, m.slot + 1, 1, [], -1⟩ := ⟨_, rfl⟩
    have hI9 : RmI m9 K := by rw [hm9]; rw [en] at hI0; exact hI0
    have e9 : rReq m9 = rReq (rNext0 m) := by rw [hm9, en]; rfl
    refine .nil (.code ?_)
    refine .tt (.reg (.q (.move rfl) (.q (.move rfl) (.q (.move rfl) (.q (.move rfl) (.q (.nilP rfl) (.q (.fld f85_3 rfl) (.q (.ldO o3 0 rfl rfl rfl) (.q (.add rfl rfl (IntWalk.i64_in _ (by omega))) (.q (.nilP rfl) (.q (.fld f85_3 rfl) (.st o3 0 rfl rfl rfl rfl rfl (.q (.nilP rfl) (.q (.fld f85_4 rfl) (.st o3 0 rfl rfl rfl rfl rfl (.q (.nilP rfl) (.q (.fld f85_6 rfl) (.st o3 0 rfl rfl rfl rfl rfl (.nil (.code ?_))))))))))))))))))))
    refine .reg (.q (.move rfl) (.q (.move rfl) (.callA fn53 rfl (fun w hz => required_calls w M J lv nv m9 K (RmW.of (by rw [hm9]; exact hz.has (i := 0) rfl) (by rw [hm9]; exact hz.has (i := 1) rfl) (by rw [hm9]; exact hl.below hz.h.below)) hI9) fun v31 L31 p31 => ?_)))
    obtain ⟨rA, rc, hrv⟩ := OS.form p31
    subst hrv
    refine .world ?_ (fun _ h => zperm List.perm_append_comm h)
    refine .q (.nilP rfl) (.q (.fld f85_5 rfl) (.st o32 0 rfl rfl rfl rfl rfl (.nil (.ret0 Try.results36 fun w1 hz => ⟨_, BR M J lv (.slice rA (rReq m9).length rc) L31 (rNext m), rfl, finR (hz.sublist (.cons_cons _ (.cons_cons _ (List.sublist_append_right _ _)))) (by unfold rNext; rw [en]; rfl) (by unfold rNext; rw [en]), _, L31, rfl, dr9 e9 p31⟩))))
  · have en := rNext_low (m := m) (by omega)
    obtain ⟨m9, hm9⟩ : ∃ x : Rm, x = ⟨m.l, m.cores, m.js, m.slot, m.phase + 1, [], m.last⟩ := ⟨_, rfl⟩
    have hI9 : RmI m9 K := by rw [hm9]; rw [en] at hI0; exact hI0
    have e9 : rReq m9 = rReq (rNext0 m) := by rw [hm9, en]; rfl
    refine .nil (.code ?_)
    refine .ff (.skip (.code ?_))
    refine .reg (.q (.move rfl) (.q (.move rfl) (.callA fn53 rfl (fun w hz => required_calls w M J lv nv m9 K (RmW.of (by rw [hm9]; exact hz.has (i := 0) rfl) (by rw [hm9]; exact hz.has (i := 1) rfl) (by rw [hm9]; exact hl.below hz.h.below)) hI9) fun v31 L31 p31 => ?_)))
    obtain ⟨rA, rc, hrv⟩ := OS.form p31
    subst hrv
    refine .world ?_ (fun _ h => zperm List.perm_append_comm h)
    refine .q (.nilP rfl) (.q (.fld f85_5 rfl) (.st o32 0 rfl rfl rfl rfl rfl (.nil (.ret0 Try.results36 fun w1 hz => ⟨_, BR M J lv (.slice rA (rReq m9).length rc) L31 (rNext m), rfl, finR (hz.sublist (.cons_cons _ (.cons_cons _ (List.sublist_append_right _ _)))) (by unfold rNext; rw [en]; rfl) (by unfold rNext; rw [en]), _, L31, rfl, dr9 e9 p31⟩))))

end Go.Proofs.Ytjccenbacjhglaa.R4
