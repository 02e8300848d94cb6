/- The reference model's bounds are kept; its steps. No program in sight. -/
import Derived.Test.YtjccenbacjhglaaEQ3
import Derived.Test.YtjccenbacjhglaaR3
set_option linter.unusedVariables false
namespace Go.Proofs.Ytjccenbacjhglaa.R3
open Go Go.Proofs Go.RowKit Go.Proofs.Ytjccenbacjhglaa.K Go.Proofs.Ytjccenbacjhglaa.M Go.Proofs.Ytjccenbacjhglaa.R1 Go.Proofs.Ytjccenbacjhglaa.R2 Go.Proofs.Ytjccenbacjhglaa.EQ
theorem RmI.up {m : Rm} {K K' : Int} (h : RmI m K) (hk : K ≤ K') (hk1 : K' ≤ 1000000000000000) : RmI m K' := by
  refine ⟨h.val, h.n12, h.nj, h.s0, h.s1, h.p0, h.p1, h.c0, h.c1, fun i r hr => ?_, h.need3, ?_, hk1⟩
  · obtain ⟨b1, b2, b3, b4, b5, b6, b7, b8, b9, b10⟩ := h.job i r hr
    exact ⟨b1, b2, b3, by omega, b5, by omega, b7, b8, b9, b10⟩
  · have := h.k0; omega
theorem rSel_c {m : Rm} {d : Re} (h : d ∈ rSel m) : 0 ≤ d.c ∧ d.c < m.cores.toNat := by
  obtain ⟨c, i, hc, hi, hf⟩ := mem_grid.1 h
  unfold rDispF at hf
  split at hf
  · split at hf
    · split at hf
      · obtain rfl := Option.some.inj hf
        exact ⟨by simp only; omega, by simp only; omega⟩
      · cases hf
    · cases hf
  · cases hf
theorem rNext_low {m : Rm} (h : m.phase < 5) : rNext0 m = { m with phase := m.phase + 1 } := by unfold rNext0; rw [if_neg (by omega)]
theorem rNext_high {m : Rm} (h : 5 ≤ m.phase) : rNext0 m = { m with slot := m.slot + 1, phase := 1, last := -1 } := by unfold rNext0; rw [if_pos (by omega)]
theorem rNext0_I {m : Rm} {K : Int} (h : RmI m K) (hs : m.slot + 1 ≤ 100001 ∨ m.phase < 5) : RmI { rNext0 m with need := [] } K := by
  have hp := h.p1
  have hp0 := h.p0
  have hs0 := h.s0
  by_cases h5 : m.phase < 5
  · rw [rNext_low h5]
    exact ⟨h.val, h.n12, h.nj, h.s0, h.s1, by show 1 ≤ m.phase + 1; omega, by show m.phase + 1 ≤ 5; omega, h.c0, h.c1, h.job, fun _ d hd => absurd hd (List.not_mem_nil), h.k0, h.k1⟩
  · rw [rNext_high (by omega)]
    refine ⟨h.val, h.n12, h.nj, by show 0 ≤ m.slot + 1; omega, by show m.slot + 1 ≤ 100001; omega, Int.le_refl _, by show (1 : Int) ≤ 5; omega, h.c0, h.c1, fun i r hr => ?_, fun _ d hd => absurd hd (List.not_mem_nil), h.k0, h.k1⟩
    obtain ⟨b1, b2, b3, b4, b5, b6, b7, b8, b9, b10⟩ := h.job i r hr
    exact ⟨b1, by show r.rel ≤ m.slot + 1; omega, b3, b4, b5, b6, b7, by show r.slot ≤ m.slot + 1; omega, b9, b10⟩
theorem rNext0_need {m : Rm} : rReq { rNext0 m with need := [] } = rReq (rNext0 m) := rfl
theorem rNext_I {m : Rm} {K : Int} (h : RmI m K) (hs : m.slot + 1 ≤ 100001 ∨ m.phase < 5) : RmI (rNext m) K := by
  have h0 := rNext0_I h hs
  refine ⟨h0.val, h0.n12, h0.nj, h0.s0, h0.s1, h0.p0, h0.p1, h0.c0, h0.c1, h0.job, fun hp d hd => ?_, h0.k0, h0.k1⟩
  have hp' : (rNext0 m).phase = 3 := hp
  have hd' : d ∈ rReq (rNext0 m) := hd
  unfold rReq at hd'
  rw [if_neg (by omega), if_pos hp'] at hd'
  have hc := rSel_c hd'
  have := h0.c0
  have e : (rNext0 m).cores = (rNext m).cores := rfl
  have e2 : 1 ≤ (rNext0 m).cores := this
  rw [e] at hc
  exact ⟨hc.1, by omega⟩
theorem rNext_l (m : Rm) : (rNext m).l = m.l := by unfold rNext rNext0; simp only; split <;> rfl
theorem rNext_at {m : Rm} {K : Int} (h : RmI m K) : (m.phase < 5 → (rNext m).slot = m.slot ∧ (rNext m).phase = m.phase + 1) ∧ (m.phase = 5 → (rNext m).slot = m.slot + 1 ∧ (rNext m).phase = 1) := by
  refine ⟨fun h5 => ?_, fun h5 => ?_⟩
  · show (rNext0 m).slot = m.slot ∧ (rNext0 m).phase = m.phase + 1
    rw [rNext_low h5]; exact ⟨rfl, rfl⟩
  · show (rNext0 m).slot = m.slot + 1 ∧ (rNext0 m).phase = 1
    rw [rNext_high (by omega)]; exact ⟨rfl, rfl⟩
theorem rAdvM_next {m : Rm} {K s p : Int} (h : RmI m K) (hp5 : p ≤ 5) (hs : m.slot ≤ s) (hc : m.slot < s ∨ m.phase < p) : rAdvM m s = rAdvM (rNext m) s + 1 := by
  have h5 := h.p1
  have h0 := h.p0
  obtain ⟨n1, n2⟩ := rNext_at h
  unfold rAdvM
  by_cases h5' : m.phase < 5
  · obtain ⟨e1, e2⟩ := n1 h5'
    rw [e1, e2]; omega
  · obtain ⟨e1, e2⟩ := n2 (by omega)
    rw [e1, e2]; omega
theorem rAdvance_step {m : Rm} {K s p : Int} (h : RmI m K) (hp5 : p ≤ 5) (hs : m.slot ≤ s) (hc : m.slot < s ∨ m.phase < p) (hn : m.need = []) : rAdvance m s p = rAdvance (rNext m) s p := by
  unfold rAdvance
  rw [rAdvM_next h hp5 hs hc, rAdv, if_pos hc, if_neg (by rw [hn]; simp)]
theorem rAdvance_due {m : Rm} {K s p : Int} (h : RmI m K) (hp5 : p ≤ 5) (hs : m.slot ≤ s) (hc : m.slot < s ∨ m.phase < p) (hn : m.need ≠ []) : rAdvance m s p = (m, m.phase + 2) := by
  unfold rAdvance
  rw [rAdvM_next h hp5 hs hc, rAdv, if_pos hc, if_pos hn]
theorem rAdvance_done {m : Rm} {s p : Int} (hc : ¬ (m.slot < s ∨ m.phase < p)) : rAdvance m s p = (m, 0) := by
  unfold rAdvance
  cases rAdvM m s with
  | zero => rfl
  | succ n => rw [rAdv, if_neg hc]
theorem rAdv_I {s p : Int} (hp0 : 1 ≤ p) (hp1 : p ≤ 5) (hs1 : s ≤ 100001) : ∀ (n : Nat) (m : Rm) (K : Int), RmI m K → m.slot ≤ s → (m.slot = s → m.phase ≤ p) → n = rAdvM m s → RmI (rAdv n m s p).1 K ∧ (rAdv n m s p).1.l = m.l ∧ ((rAdv n m s p).2 = 0 → (rAdv n m s p).1.slot = s ∧ (rAdv n m s p).1.phase = p) ∧ 0 ≤ (rAdv n m s p).2
  | 0, m, K, h, hs, hsp, hn => by
    have h5 := h.p1
    unfold rAdvM at hn
    refine ⟨h, rfl, fun _ => ?_, Int.le_refl _⟩
    show m.slot = s ∧ m.phase = p
    omega
  | n + 1, m, K, h, hs, hsp, hn => by
    have h5 := h.p1
    have h0 := h.p0
    rw [rAdv]
    by_cases hc : m.slot < s ∨ m.phase < p
    · rw [if_pos hc]
      by_cases hne : m.need ≠ []
      · rw [if_pos hne]
        exact ⟨h, rfl, fun e => by simp only at e; omega, by simp only; omega⟩
      · rw [if_neg hne]
        have hM := rAdvM_next h hp1 hs hc
        obtain ⟨n1, n2⟩ := rNext_at h
        have hst : (rNext m).slot ≤ s ∧ ((rNext m).slot = s → (rNext m).phase ≤ p) := by
          by_cases h5' : m.phase < 5
          · obtain ⟨e1, e2⟩ := n1 h5'
            omega
          · obtain ⟨e1, e2⟩ := n2 (by omega)
            omega
        have := rAdv_I hp0 hp1 hs1 n (rNext m) K (rNext_I h (by omega)) hst.1 hst.2 (by omega)
        rw [rNext_l] at this
        exact this
    · rw [if_neg hc]
      refine ⟨h, rfl, fun _ => ?_, Int.le_refl _⟩
      show m.slot = s ∧ m.phase = p
      omega
theorem js_setR {js : List Rj} {i k : Nat} {r q : Rj} (h : (js.set i r)[k]? = some q) : q = r ∨ js[k]? = some q := by
  rw [List.getElem?_set] at h
  split at h
  · split at h
    · exact .inl (Option.some.inj h).symm
    · cases h
  · exact .inr h
theorem rApply_I {m b : Rm} {K : Int} {e : Re} (h : RmI m K) (hk : K + 1 ≤ 1000000000000000) (hp : m.phase = phaseOf e.k) (hs : e.s = m.slot) (hn : rApply m e = some b) : RmI b (K + 1) ∧ b.l = m.l := by
  have h' := h.up (show K ≤ K + 1 by omega) hk
  have hs0 := h.s0
  have hc0 := h.c0
  have hk0 := h.k0
  cases hj : m.js[e.t.toNat]? with
  | none => unfold rApply at hn; rw [hj] at hn; cases hn
  | some j =>
    obtain ⟨b1, b2, b3, b4, b5, b6, b7, b8, b9, b10⟩ := h.job _ j hj
    by_cases h2 : phaseOf e.k = 2
    · rw [rApply_2 hj h2] at hn
      split at hn
      · cases hn
      · obtain rfl := Option.some.inj hn
        refine ⟨⟨h'.val, h'.n12, by simp only [List.length_set]; exact h'.nj, h'.s0, h'.s1, h'.p0, h'.p1, h'.c0, h'.c1, fun i r hr => ?_, h'.need3, h'.k0, h'.k1⟩, rfl⟩
        rcases js_setR hr with rfl | hr
        · simp only; omega
        · exact h'.job i r hr
    · by_cases h4 : phaseOf e.k = 4
      · rw [rApply_4 hj h4] at hn
        split at hn
        · cases hn
        · obtain rfl := Option.some.inj hn
          refine ⟨⟨h'.val, h'.n12, by simp only [List.length_set]; exact h'.nj, h'.s0, h'.s1, h'.p0, h'.p1, h'.c0, h'.c1, fun i r hr => ?_, h'.need3, h'.k0, h'.k1⟩, rfl⟩
          rcases js_setR hr with rfl | hr
          · simp only; omega
          · exact h'.job i r hr
      · cases hd : m.need with
        | nil => rw [rApply_n hj h2 h4 hd] at hn; cases hn
        | cons d ds =>
          rw [rApply_d hj h2 h4 hd] at hn
          have hmem : ∀ x, x ∈ ds → x ∈ m.need := fun x hx => by rw [hd]; exact List.mem_cons_of_mem _ hx
          split at hn
          · cases hn
          · rename_i he
            have he := Decidable.not_not.1 he
            split at hn
            · rename_i h3
              obtain rfl := Option.some.inj hn
              have hc := h.need3 (by omega) d (by rw [hd]; exact List.mem_cons_self ..)
              rw [he] at hc
              refine ⟨⟨h'.val, h'.n12, by simp only [List.length_set]; exact h'.nj, h'.s0, h'.s1, h'.p0, h'.p1, h'.c0, h'.c1, fun i r hr => ?_, fun hp x hx => h'.need3 hp x (hmem x hx), h'.k0, h'.k1⟩, rfl⟩
              rcases js_setR hr with rfl | hr
              · simp only; omega
              · exact h'.job i r hr
            · obtain rfl := Option.some.inj hn
              refine ⟨⟨h'.val, h'.n12, by simp only [List.length_set]; exact h'.nj, h'.s0, h'.s1, h'.p0, h'.p1, h'.c0, h'.c1, fun i r hr => ?_, fun hp x hx => h'.need3 hp x (hmem x hx), h'.k0, h'.k1⟩, rfl⟩
              rcases js_setR hr with rfl | hr
              · simp only; omega
              · exact h'.job i r hr
/-- The tail of an examination, by what the advance finds. -/
theorem rxT_due {m m1 : Rm} {e : Re} {c : Int} (h : rAdvance m e.s (phaseOf e.k) = (m1, c)) (hc : 0 < c) : rxT m e = (m1, c) := by
  unfold rxT; rw [h]; exact if_pos hc
theorem rxT_no {m m1 : Rm} {e : Re} (h : rAdvance m e.s (phaseOf e.k) = (m1, 0)) (ha : rApply m1 e = none) : rxT m e = (m1, phaseOf e.k + 2) := by
  unfold rxT; rw [h]; simp only; rw [if_neg (by omega), ha]
theorem rxT_yes {m m1 b : Rm} {e : Re} (h : rAdvance m e.s (phaseOf e.k) = (m1, 0)) (ha : rApply m1 e = some b) : rxT m e = (b, 0) := by
  unfold rxT; rw [h]; simp only; rw [if_neg (by omega), ha]
theorem rExamine_I {m : Rm} {K : Int} {e : Re} (h : RmI m K) (hk : K + 1 ≤ 1000000000000000) (h0 : (rExamine m e).2 = 0) : RmI (rExamine m e).1 (K + 1) ∧ (rExamine m e).1.l = m.l := by
  obtain ⟨f0, f5⟩ := phaseOf_bd e.k
  by_cases c1 : (e.s < m.slot ∨ 100000 < e.s) ∨ (phaseOf e.k ≠ 0 ∧ e.s = m.slot ∧ phaseOf e.k < m.phase)
  · rw [rExamine_1 c1] at h0; simp only at h0; omega
  · by_cases c2 : phaseOf e.k = 0 ∨ e.t < 0 ∨ (m.l.length : Int) ≤ e.t
    · rw [rExamine_2 (by omega) (by omega) c2] at h0; simp only at h0; omega
    · have e3 := rExamine_3 (m := m) (e := e) (by omega) (by omega) c2
      obtain ⟨g1, g2, g3, g4⟩ := rAdv_I (show 1 ≤ phaseOf e.k by omega) f5 (show e.s ≤ 100001 by omega) (rAdvM m e.s) m K h (by omega) (by omega) rfl
      change RmI (rAdvance m e.s (phaseOf e.k)).1 K at g1
      change (rAdvance m e.s (phaseOf e.k)).1.l = m.l at g2
      change (rAdvance m e.s (phaseOf e.k)).2 = 0 → (rAdvance m e.s (phaseOf e.k)).1.slot = e.s ∧ (rAdvance m e.s (phaseOf e.k)).1.phase = phaseOf e.k at g3
      change 0 ≤ (rAdvance m e.s (phaseOf e.k)).2 at g4
      rw [e3] at h0 ⊢
      cases hA : rAdvance m e.s (phaseOf e.k) with
      | mk m1 c =>
        rw [hA] at g1 g2 g3 g4
        simp only at g1 g2 g3 g4
        by_cases hc : 0 < c
        · rw [rxT_due hA hc] at h0; simp only at h0; omega
        · obtain rfl : c = 0 := by omega
          obtain ⟨d1, d2⟩ := g3 rfl
          cases ha : rApply m1 e with
          | none => rw [rxT_no hA ha] at h0; simp only at h0; omega
          | some b =>
            rw [rxT_yes hA ha]
            obtain ⟨i1, i2⟩ := rApply_I g1 hk d2 d1.symm ha
            exact ⟨i1, i2.trans g2⟩
theorem rExamine_nn {m : Rm} {K : Int} {e : Re} (h : RmI m K) : 0 ≤ (rExamine m e).2 := by
  obtain ⟨f0, f5⟩ := phaseOf_bd e.k
  by_cases c1 : (e.s < m.slot ∨ 100000 < e.s) ∨ (phaseOf e.k ≠ 0 ∧ e.s = m.slot ∧ phaseOf e.k < m.phase)
  · rw [rExamine_1 c1]; simp only; omega
  · by_cases c2 : phaseOf e.k = 0 ∨ e.t < 0 ∨ (m.l.length : Int) ≤ e.t
    · rw [rExamine_2 (by omega) (by omega) c2]; simp only; omega
    · have e3 := rExamine_3 (m := m) (e := e) (by omega) (by omega) c2
      obtain ⟨g1, g2, g3, g4⟩ := rAdv_I (show 1 ≤ phaseOf e.k by omega) f5 (show e.s ≤ 100001 by omega) (rAdvM m e.s) m K h (by omega) (by omega) rfl
      change 0 ≤ (rAdvance m e.s (phaseOf e.k)).2 at g4
      rw [e3]
      cases hA : rAdvance m e.s (phaseOf e.k) with
      | mk m1 c =>
        rw [hA] at g4
        simp only at g4
        by_cases hc : 0 < c
        · rw [rxT_due hA hc]; exact g4
        · obtain rfl : c = 0 := by omega
          cases ha : rApply m1 e with
          | none => rw [rxT_no hA ha]; simp only; omega
          | some b => rw [rxT_yes hA ha]; exact Int.le_refl _
theorem rNew_I {l : List Tk} {cores : Int} (hv : validT l = true) (hn : l.length ≤ 12) (h1 : 1 ≤ cores) (h4 : cores ≤ 4) : RmI (rNew l cores) 0 := by
  refine ⟨hv, hn, by simp [rNew], Int.le_refl _, by show (0 : Int) ≤ 100001; omega, Int.le_refl _, by show (1 : Int) ≤ 5; omega, h1, h4, fun i r hr => ?_, fun h => ?_, Int.le_refl _, by omega⟩
  · have h2 := List.eq_of_mem_replicate (List.mem_of_getElem? hr)
    subst h2
    exact ⟨Int.le_refl _, Int.le_refl _, Int.le_refl _, Int.le_refl _, Int.le_refl _, Int.le_refl _, Int.le_refl _, Int.le_refl _, Int.le_refl _, by show (0 : Int) < cores; omega⟩
  · have h2 : (1 : Int) = 3 := h
    omega
end Go.Proofs.Ytjccenbacjhglaa.R3
