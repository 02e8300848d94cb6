/- The audit and its reference, step by step. No program in sight. -/
import Derived.Test.YtjccenbacjhglaaEQ2
set_option linter.unusedVariables false
namespace Go.Proofs.Ytjccenbacjhglaa.EQ
open Go Go.Proofs Go.RowKit Go.Proofs.Ytjccenbacjhglaa.K Go.Proofs.Ytjccenbacjhglaa.M Go.Proofs.Ytjccenbacjhglaa.AU Go.Proofs.Ytjccenbacjhglaa.AU2
theorem begin_low {a : Au} {m : Rm} {K : Int} (h : Sim0 a m) (hI : AuI a K) (hv : Iv a) (h1 : 1 ≤ a.phase) (h5 : a.phase < 5) : Sim (beginA a a.slot (a.phase + 1)) (rNext m) ∧ Iv (beginA a a.slot (a.phase + 1)) := by
  have hI0 := begin0_I hI (Int.le_refl a.slot) hI.s1 (show 1 ≤ a.phase + 1 by omega) (by omega)
  have hp := h.phase
  have hl := h.last
  have en : rNext0 m = { m with phase := m.phase + 1 } := by unfold rNext0; rw [if_neg (by omega)]
  have h0 : Sim0 (begin0 a a.slot (a.phase + 1)) (rNext0 m) := by
    rw [en]
    refine ⟨h.l, h.cores, h.slot, by show m.phase + 1 = a.phase + 1; omega, ?_, h.len, fun i r hr => ?_⟩
    · show m.last = if a.phase + 1 = 1 then -1 else a.newest
      rw [if_neg (by omega)]; exact hl
    · obtain ⟨q1, q2, q3, q4⟩ := h.js i r hr
      exact ⟨q1, q2, q3, q4⟩
  have hv0 : Iv (begin0 a a.slot (a.phase + 1)) := ⟨hv.one, hv.dist, fun hp => hv.early (by have : a.phase + 1 < 3 := hp; omega), fun _ => List.Pairwise.nil, fun _ d hd => absurd hd (List.not_mem_nil)⟩
  have hq := req_eq h0 hI0 hv0
  refine ⟨⟨⟨h0.l, h0.cores, h0.slot, h0.phase, h0.last, h0.len, fun i r hr => ?_⟩, hq.symm⟩, hv0.one, hv0.dist, hv0.early, fun hp3 => ?_, fun hp3 d hd i j hj hr => ?_⟩
  · obtain ⟨q1, q2, q3, q4⟩ := h0.js i r hr
    exact ⟨q1, q2, q3, q4⟩
  · have hp3' : a.phase + 1 = 3 := hp3
    show (required (begin0 a a.slot (a.phase + 1))).Pairwise _
    unfold required
    rw [if_neg (show ¬ (begin0 a a.slot (a.phase + 1)).phase = 1 by show ¬ a.phase + 1 = 1; omega), if_pos (show (begin0 a a.slot (a.phase + 1)).phase = 3 from hp3)]
    unfold selection
    refine upTo_pw fun i k x y hik hk hx hy => ?_
    have core : ∀ {b : Au} {on : List Int} {i : Nat} {x : Ev}, onF b on i = some x → x.c = (i : Int) := fun {b on i x} hx => by
      unfold onF at hx
      split at hx
      · split at hx
        · split at hx
          · obtain rfl := Option.some.inj hx; rfl
          · cases hx
        · cases hx
      · cases hx
    rw [core hx, core hy]
    omega
  · have hp3' : a.phase + 1 = 3 := hp3
    have hj' : M.job a i = some j := hj
    have := hv.early (by omega) i j hj'
    have hr' : j.ran = a.slot := hr
    omega
theorem begin_high {a : Au} {m : Rm} {K : Int} (h : Sim0 a m) (hI : AuI a K) (hv : Iv a) (h5 : a.phase = 5) (hs : a.slot + 1 ≤ 100001) : Sim (beginA a (a.slot + 1) 1) (rNext m) ∧ Iv (beginA a (a.slot + 1) 1) := by
  have hI0 := begin0_I hI (show a.slot ≤ a.slot + 1 by omega) hs (Int.le_refl 1) (by omega)
  have hp := h.phase
  have hsl := h.slot
  have en : rNext0 m = { m with slot := m.slot + 1, phase := 1, last := -1 } := by unfold rNext0; rw [if_pos (by omega)]
  have h0 : Sim0 (begin0 a (a.slot + 1) 1) (rNext0 m) := by
    rw [en]
    refine ⟨h.l, h.cores, by show m.slot + 1 = a.slot + 1; omega, rfl, rfl, h.len, fun i r hr => ?_⟩
    obtain ⟨q1, q2, q3, q4⟩ := h.js i r hr
    exact ⟨q1, q2, q3, q4⟩
  have hv0 : Iv (begin0 a (a.slot + 1) 1) := ⟨hv.one, hv.dist, fun _ i j hj => by
    obtain ⟨_, _, _, _, _, _, b6, _⟩ := job_bd hI (show M.job a i = some j from hj)
    show j.ran < a.slot + 1
    omega, fun _ => List.Pairwise.nil, fun _ d hd => absurd hd (List.not_mem_nil)⟩
  have hq := req_eq h0 hI0 hv0
  refine ⟨⟨⟨h0.l, h0.cores, h0.slot, h0.phase, h0.last, h0.len, fun i r hr => ?_⟩, hq.symm⟩, hv0.one, hv0.dist, hv0.early, fun hp3 => ?_, fun hp3 => ?_⟩
  · obtain ⟨q1, q2, q3, q4⟩ := h0.js i r hr
    exact ⟨q1, q2, q3, q4⟩
  · have : (1 : Int) = 3 := hp3
    omega
  · have : (1 : Int) = 3 := hp3
    omega
theorem adv_sim {s p : Int} (hp0 : 1 ≤ p) (hp1 : p ≤ 5) (hs1 : s ≤ 100001) : ∀ (n : Nat) (a : Au) (m : Rm) (K : Int), AuI a K → Sim a m → Iv a → 1 ≤ a.phase → a.slot ≤ s → (a.slot = s → a.phase ≤ p) → n = advM a s → (rAdv n m s p).2 = (adv n a s p).2 ∧ Sim (adv n a s p).1 (rAdv n m s p).1 ∧ Iv (adv n a s p).1
  | 0, a, m, K, h, hS, hv, hph, hs, hsp, hn => ⟨rfl, hS, hv⟩
  | n + 1, a, m, K, h, hS, hv, hph, hs, hsp, hn => by
    have hp5 := h.p1
    unfold advM at hn
    rw [adv, rAdv, hS.z.slot, hS.z.phase]
    by_cases hc : a.slot < s ∨ a.phase < p
    · rw [if_pos hc, if_pos hc]
      have e : m.need ≠ [] ↔ a.due ≠ [] := by rw [hS.need]; simp
      by_cases hd : a.due ≠ []
      · rw [if_pos hd, if_pos (e.2 hd)]
        exact ⟨rfl, hS, hv⟩
      · rw [if_neg hd, if_neg (fun x => hd (e.1 x))]
        by_cases h5 : a.phase < 5
        · rw [if_pos h5]
          obtain ⟨g1, g2⟩ := begin_low hS.z h hv hph h5
          have hI := beginA_I h (Int.le_refl _) h.s1 (show 1 ≤ a.phase + 1 by omega) (by omega)
          exact adv_sim hp0 hp1 hs1 n (beginA a a.slot (a.phase + 1)) (rNext m) K hI g1 g2 (show 1 ≤ a.phase + 1 by omega) hs (fun e => by show a.phase + 1 ≤ p; have e' : a.slot = s := e; omega) (by unfold advM; show n = (5 * (s - a.slot) + (5 - (a.phase + 1))).toNat; omega)
        · rw [if_neg h5]
          have hlt : a.slot < s := by omega
          obtain ⟨g1, g2⟩ := begin_high hS.z h hv (by omega) (by omega)
          have hI := beginA_I h (show a.slot ≤ a.slot + 1 by omega) (by omega) (Int.le_refl 1) (by omega)
          exact adv_sim hp0 hp1 hs1 n (beginA a (a.slot + 1) 1) (rNext m) K hI g1 g2 (Int.le_refl 1) (show a.slot + 1 ≤ s by omega) (fun e => hp0) (by unfold advM; show n = (5 * (s - (a.slot + 1)) + (5 - 1)).toNat; omega)
    · rw [if_neg hc, if_neg hc]
      exact ⟨rfl, hS, hv⟩
theorem advance_sim {a : Au} {m : Rm} {K s p : Int} (hp0 : 1 ≤ p) (hp1 : p ≤ 5) (hs1 : s ≤ 100001) (h : AuI a K) (hS : Sim a m) (hv : Iv a) (hph : 1 ≤ a.phase) (hs : a.slot ≤ s) (hsp : a.slot = s → a.phase ≤ p) : (rAdvance m s p).2 = (advance a s p).2 ∧ Sim (advance a s p).1 (rAdvance m s p).1 ∧ Iv (advance a s p).1 := by
  have e : rAdvM m s = advM a s := by unfold rAdvM advM; rw [hS.z.slot, hS.z.phase]
  unfold rAdvance advance
  rw [e]
  exact adv_sim hp0 hp1 hs1 _ a m K h hS hv hph hs hsp rfl
/-! ### events -/
theorem rApply_2 {m : Rm} {e : Re} {j : Rj} (g : m.js[e.t.toNat]? = some j) (hk : phaseOf e.k = 2) : rApply m e = if e.t ≤ m.last ∨ j.act = true ∨ (0 < j.cnt ∧ e.s - j.rel < rPer m e.t.toNat) ∨ e.j ≠ j.cnt ∨ e.c ≠ -1 ∨ e.v ≠ 0 then none
      else some { m with last := e.t, js := m.js.set e.t.toNat ⟨j.cnt + 1, e.s, 0, 0, 0, true⟩ } := by
  unfold rApply; rw [g]; simp only; rw [if_pos hk]
theorem rApply_4 {m : Rm} {e : Re} {j : Rj} (g : m.js[e.t.toNat]? = some j) (hk : phaseOf e.k = 4) : rApply m e = if j.act = false ∨ e.j ≠ j.cnt - 1 ∨ j.runs = 0 ∨ j.slot ≠ e.s ∨ j.core ≠ e.c ∨ (e.k = 3 ∧ e.v ≠ 0) then none
      else some { m with js := m.js.set e.t.toNat { j with act := decide (e.k = 7) } } := by
  unfold rApply; rw [g]; simp only; rw [if_neg (by omega), if_pos hk]
theorem rApply_n {m : Rm} {e : Re} {j : Rj} (g : m.js[e.t.toNat]? = some j) (h2 : phaseOf e.k ≠ 2) (h4 : phaseOf e.k ≠ 4) (hn : m.need = []) : rApply m e = none := by
  unfold rApply; rw [g]; simp only; rw [if_neg h2, if_neg h4, hn]
theorem rApply_d {m : Rm} {e : Re} {j : Rj} (g : m.js[e.t.toNat]? = some j) (h2 : phaseOf e.k ≠ 2) (h4 : phaseOf e.k ≠ 4) {d : Re} {ds : List Re} (hn : m.need = d :: ds) : rApply m e = if d ≠ e then none
        else if phaseOf e.k = 3 then some { m with need := ds, js := m.js.set e.t.toNat { j with runs := j.runs + 1, slot := e.s, core := e.c } }
        else some { m with need := ds, js := m.js.set e.t.toNat { j with act := false } } := by
  unfold rApply; rw [g]; simp only; rw [if_neg h2, if_neg h4, hn]
theorem sim_set {a b : Au} {m m' : Rm} (h : Sim0 a m) (i : Nat) (r : Rj) (hm : m'.js = m.js.set i r) (h1 : m'.l = b.l) (h2 : m'.cores = b.cores) (h3 : m'.slot = b.slot) (h4 : m'.phase = b.phase) (h5 : m'.last = b.newest) (hl : b.js.length = a.js.length) (hself : JR b i r) (hoth : ∀ k, k ≠ i → M.job b k = M.job a k ∧ cntAt b k = cntAt a k ∧ lastAt b k = lastAt a k) : Sim0 b m' := by
  refine ⟨h1, h2, h3, h4, h5, by rw [hm, List.length_set, h.len, hl], fun k q hq => ?_⟩
  rw [hm, List.getElem?_set] at hq
  split at hq
  · rename_i e
    subst e
    split at hq
    · obtain rfl := Option.some.inj hq; exact hself
    · cases hq
  · rename_i e
    obtain ⟨e1, e2, e3⟩ := hoth k (Ne.symm e)
    obtain ⟨q1, q2, q3, q4⟩ := h.js k q hq
    exact ⟨by rw [e2]; exact q1, by rw [e3]; exact q2, by rw [e1]; exact q3, by rw [e1]; exact q4⟩
theorem job_ne {a b : Au} {i k : Nat} {o : Option Jb} (hb : b.js = a.js.set i o) (h : k ≠ i) : M.job b k = M.job a k := by
  unfold M.job
  rw [hb, List.getElem?_set_ne (Ne.symm h)]
theorem job_eq {a b : Au} {i : Nat} {o : Option Jb} (hb : b.js = a.js.set i o) (h : i < a.js.length) : M.job b i = o := by
  unfold M.job
  rw [hb, List.getElem?_set_self h]; rfl
/-- A job goes: what holds stays. -/
theorem Iv.del {a b : Au} (hv : Iv a) {i : Nat} (hb : b.js = a.js.set i none) (hi : i < a.js.length) (hs : b.slot = a.slot) (hp : b.phase = a.phase) (hd : ∀ d ∈ b.due, d ∈ a.due) (hasc : a.phase = 3 → b.due.Pairwise (fun x y => x.c < y.c)) : Iv b := by
  have up : ∀ k j, M.job b k = some j → M.job a k = some j := fun k j h => by
    by_cases e : k = i
    · subst e; rw [job_eq hb hi] at h; cases h
    · rwa [job_ne hb e] at h
  refine ⟨fun k j h => hv.one k j (up k j h), fun k l j j' hne h1 h2 => hv.dist k l j j' hne (up k j h1) (up l j' h2), fun h k j hj => ?_, fun h => hasc (by omega), fun h d hd' k j hj hr => ?_⟩
  · rw [hs]; exact hv.early (by omega) k j (up k j hj)
  · exact hv.seat (by omega) d (hd d hd') k j (up k j hj) (by omega)
theorem phaseOf_3 {k : Int} : phaseOf k = 3 ↔ k = 2 := by
  unfold phaseOf
  repeat' split
  all_goals omega
theorem phaseOf_bd (k : Int) : 0 ≤ phaseOf k ∧ phaseOf k ≤ 5 := by
  unfold phaseOf
  repeat' split
  all_goals omega
theorem ev_eq (e d : Ev) : e ≠ { d with cy := e.cy, po := e.po } ↔ bareE d ≠ bareE e := by
  obtain ⟨e1, e2, e3, e4, e5, e6, e7, e8⟩ := e
  obtain ⟨d1, d2, d3, d4, d5, d6, d7, d8⟩ := d
  simp only [bareE, ne_eq, Ev.mk.injEq, Re.mk.injEq, and_true]
  constructor <;> (intro h h2; exact h (by simp [h2]))
/-- Both refuse, or both go on alike. -/
def Both (o : Option Au) (q : Option Rm) : Prop := match o, q with
  | none, none => True
  | some b, some m => Sim b m ∧ Iv b
  | _, _ => False
theorem release_sim {a : Au} {m : Rm} {K : Int} {e : Ev} (h : AuI a K) (hS : Sim a m) (hv : Iv a) (ht0 : 0 ≤ e.t) (ht1 : e.t < a.l.length) (hs : e.s = a.slot) (hp : a.phase = 2) (hk : phaseOf e.k = 2) : Both (release a e) (rApply m (bareE e)) := by
  have hi : e.t.toNat < a.l.length := by omega
  obtain ⟨r, t, g1, g2, g3, ho, hr⟩ := hS.z.at h hi
  have hper : rPer m e.t.toNat = perAt a e.t.toNat := by unfold rPer perAt; rw [hS.z.l]
  have hc : r.act = (M.job a e.t.toNat).isSome := hr.act
  have hiff : (e.t ≤ m.last ∨ r.act = true ∨ (0 < r.cnt ∧ e.s - r.rel < rPer m e.t.toNat) ∨ e.j ≠ r.cnt ∨ e.c ≠ -1 ∨ e.v ≠ 0) ↔ (e.t ≤ a.newest ∨ (M.job a e.t.toNat).isSome = true ∨ (0 < cntAt a e.t.toNat ∧ a.slot - lastAt a e.t.toNat < perAt a e.t.toNat) ∨ e.j ≠ cntAt a e.t.toNat ∨ e.c ≠ -1 ∨ e.v ≠ 0) := by
    rw [hS.z.last, hc, hper, hs, ← hr.cnt]
    by_cases h0 : 0 < r.cnt
    · rw [hr.last h0]
    · simp only [h0, false_and]
  by_cases hc2 : e.t ≤ a.newest ∨ (M.job a e.t.toNat).isSome = true ∨ (0 < cntAt a e.t.toNat ∧ a.slot - lastAt a e.t.toNat < perAt a e.t.toNat) ∨ e.j ≠ cntAt a e.t.toNat ∨ e.c ≠ -1 ∨ e.v ≠ 0
  · have e1 : release a e = none := if_pos hc2
    have e2 : rApply m (bareE e) = none := (rApply_2 g1 hk).trans (if_pos (hiff.2 hc2))
    rw [e1, e2]
    exact trivial
  · have e1 : release a e = some { a with js := a.js.set e.t.toNat (some ⟨e.j, a.slot, 0, -1, 0⟩), cnt := a.cnt.set e.t.toNat (cntAt a e.t.toNat + 1), last := a.last.set e.t.toNat a.slot, newest := e.t } := if_neg hc2
    have e2 : rApply m (bareE e) = some { m with last := e.t, js := m.js.set e.t.toNat ⟨r.cnt + 1, e.s, 0, 0, 0, true⟩ } := (rApply_2 g1 hk).trans (if_neg (fun x => hc2 (hiff.1 x)))
    rw [e1, e2]
    have hj : e.j = cntAt a e.t.toNat := by omega
    have hij : e.t.toNat < a.js.length := by rw [h.nj]; exact hi
    have hcs : ∀ {α : Type} (xs : List α) (k : Nat) (v : α), k ≠ e.t.toNat → (xs.set e.t.toNat v)[k]? = xs[k]? := fun xs k v hk => List.getElem?_set_ne (Ne.symm hk)
    have c1 : (a.cnt.set e.t.toNat (cntAt a e.t.toNat + 1))[e.t.toNat]? = some (cntAt a e.t.toNat + 1) := List.getElem?_set_self (by rw [h.nc]; exact hi)
    have c2 : (a.last.set e.t.toNat a.slot)[e.t.toNat]? = some a.slot := List.getElem?_set_self (by rw [h.nt]; exact hi)
    have hself := hr.cnt
    refine ⟨⟨sim_set hS.z e.t.toNat ⟨r.cnt + 1, e.s, 0, 0, 0, true⟩ rfl hS.z.l hS.z.cores hS.z.slot hS.z.phase rfl (by simp) ⟨?_, fun _ => ?_, ?_, fun j hj' => ?_⟩ fun k hk => ⟨job_ne rfl hk, ?_, ?_⟩, hS.need⟩, fun k j hj' => ?_, fun k l j j' hne h1 h2 hr0 hre => ?_, fun _ k j hj' => ?_, fun h3 => ?_, fun h3 => ?_⟩
    · show r.cnt + 1 = ((a.cnt.set e.t.toNat (cntAt a e.t.toNat + 1))[e.t.toNat]?).getD 0
      rw [c1, hself]; rfl
    · show e.s = ((a.last.set e.t.toNat a.slot)[e.t.toNat]?).getD 0
      rw [c2, hs]; rfl
    · rw [job_eq rfl hij]; rfl
    · rw [job_eq rfl hij] at hj'
      obtain rfl := Option.some.inj hj'
      refine ⟨?_, hs, rfl, fun hd => absurd hd (by simp)⟩
      show r.cnt + 1 - 1 = e.j
      omega
    · show ((a.cnt.set e.t.toNat (cntAt a e.t.toNat + 1))[k]?).getD 0 = _
      rw [hcs _ _ _ hk]; rfl
    · show ((a.last.set e.t.toNat a.slot)[k]?).getD 0 = _
      rw [hcs _ _ _ hk]; rfl
    · by_cases ek : k = e.t.toNat
      · subst ek
        rw [job_eq rfl hij] at hj'
        obtain rfl := Option.some.inj hj'
        exact ⟨fun _ => rfl, fun hd => absurd hd (by simp)⟩
      · rw [job_ne rfl ek] at hj'
        exact hv.one k j hj'
    · by_cases ek : k = e.t.toNat
      · subst ek
        rw [job_eq rfl hij] at h1
        obtain rfl := Option.some.inj h1
        simp at hr0
      · rw [job_ne rfl ek] at h1
        by_cases el : l = e.t.toNat
        · subst el
          rw [job_eq rfl hij] at h2
          obtain rfl := Option.some.inj h2
          simp only at hre
          omega
        · rw [job_ne rfl el] at h2
          exact hv.dist k l j j' hne h1 h2 hr0 hre
    · show j.ran < a.slot
      by_cases ek : k = e.t.toNat
      · subst ek
        rw [job_eq rfl hij] at hj'
        obtain rfl := Option.some.inj hj'
        have := h.s0
        show (-1 : Int) < a.slot
        omega
      · rw [job_ne rfl ek] at hj'
        exact hv.early (by omega) k j hj'
    · have : a.phase = 3 := h3
      omega
    · have : a.phase = 3 := h3
      omega
theorem run_sim {a : Au} {m : Rm} {K : Int} {e : Ev} (h : AuI a K) (hS : Sim a m) (hv : Iv a) (ht0 : 0 ≤ e.t) (ht1 : e.t < a.l.length) (hs : e.s = a.slot) (hp : a.phase = 4) (hk : phaseOf e.k = 4) : Both (run a e) (rApply m (bareE e)) := by
  have hi : e.t.toNat < a.l.length := by omega
  have hij : e.t.toNat < a.js.length := by rw [h.nj]; exact hi
  obtain ⟨r, t, g1, g2, g3, ho, hr⟩ := hS.z.at h hi
  have ha := hr.act
  unfold run
  cases hjob : M.job a e.t.toNat with
  | none =>
    rw [hjob] at ha
    have e2 : rApply m (bareE e) = none := (rApply_4 g1 hk).trans (if_pos (.inl ha))
    rw [e2]
    exact trivial
  | some j =>
    rw [hjob] at ha
    obtain ⟨j1, j2, j3, j4⟩ := hr.job j hjob
    obtain ⟨o1, o2⟩ := hv.one _ _ hjob
    obtain ⟨_, _, _, b3, _, b5, b6, b7, _⟩ := job_bd h hjob
    have hs0 := h.s0
    have hiff : (r.act = false ∨ e.j ≠ r.cnt - 1 ∨ r.runs = 0 ∨ r.slot ≠ e.s ∨ r.core ≠ e.c ∨ (e.k = 3 ∧ e.v ≠ 0)) ↔ (j.no ≠ e.j ∨ j.ran ≠ a.slot ∨ j.core ≠ e.c ∨ (e.k = 3 ∧ e.v ≠ 0)) := by
      rw [ha, j1, j3, hs]
      rcases Int.lt_or_le 0 j.done with hd | hd
      · obtain ⟨q1, q2⟩ := j4 hd
        rw [q1, q2]
        constructor
        · rintro (c | c | c | c | c | c)
          · cases c
          · exact .inl (Ne.symm c)
          · omega
          · exact .inr (.inl c)
          · exact .inr (.inr (.inl c))
          · exact .inr (.inr (.inr c))
        · rintro (c | c | c | c)
          · exact .inr (.inl (Ne.symm c))
          · exact .inr (.inr (.inr (.inl c)))
          · exact .inr (.inr (.inr (.inr (.inl c))))
          · exact .inr (.inr (.inr (.inr (.inr c))))
      · have hd0 : j.done = 0 := by omega
        have := o1 hd0
        constructor
        · intro _; exact .inr (.inl (by omega))
        · intro _; exact .inr (.inr (.inl hd0))
    simp only
    by_cases hc : j.no ≠ e.j ∨ j.ran ≠ a.slot ∨ j.core ≠ e.c ∨ (e.k = 3 ∧ e.v ≠ 0)
    · have e2 : rApply m (bareE e) = none := (rApply_4 g1 hk).trans (if_pos (hiff.2 hc))
      rw [if_pos hc, e2]; exact trivial
    · have e2 : rApply m (bareE e) = some { m with js := m.js.set e.t.toNat { r with act := decide (e.k = 7) } } := (rApply_4 g1 hk).trans (if_neg (fun x => hc (hiff.1 x)))
      rw [if_neg hc, e2]
      by_cases h7 : e.k ≠ 7
      · rw [if_pos h7]
        refine ⟨⟨sim_set hS.z e.t.toNat { r with act := decide (e.k = 7) } rfl hS.z.l hS.z.cores hS.z.slot hS.z.phase hS.z.last (by simp) ⟨hr.cnt, hr.last, ?_, fun j' hj' => ?_⟩ fun k hk => ⟨job_ne rfl hk, rfl, rfl⟩, hS.need⟩, Iv.del hv (i := e.t.toNat) rfl hij rfl rfl (fun d hd => hd) (fun h3 => by omega)⟩
        · rw [job_eq rfl hij]
          show decide (e.k = 7) = false
          exact decide_eq_false h7
        · rw [job_eq rfl hij] at hj'; cases hj'
      · have h7 : e.k = 7 := Decidable.not_not.1 h7
        rw [if_neg (by simpa using h7)]
        refine ⟨⟨⟨hS.z.l, hS.z.cores, hS.z.slot, hS.z.phase, hS.z.last, by simp [hS.z.len], fun k q hq => ?_⟩, hS.need⟩, hv⟩
        rw [List.getElem?_set] at hq
        split at hq
        · rename_i ek
          subst ek
          split at hq
          · obtain rfl := Option.some.inj hq
            refine ⟨hr.cnt, hr.last, ?_, hr.job⟩
            rw [hjob]
            show decide (e.k = 7) = true
            exact decide_eq_true h7
          · cases hq
        · exact hS.z.js k q hq
theorem next_sim {a : Au} {m : Rm} {K : Int} {e : Ev} (h : AuI a K) (hS : Sim a m) (hv : Iv a) (ht0 : 0 ≤ e.t) (ht1 : e.t < a.l.length) (hs : e.s = a.slot) (hp : phaseOf e.k = a.phase) (h2 : a.phase ≠ 2) (h4 : a.phase ≠ 4) : Both (next a e) (rApply m (bareE e)) := by
  have hi : e.t.toNat < a.l.length := by omega
  have hij : e.t.toNat < a.js.length := by rw [h.nj]; exact hi
  obtain ⟨r, t, g1, g2, g3, ho, hr⟩ := hS.z.at h hi
  have ha := hr.act
  unfold next
  cases hd : a.due with
  | nil =>
    have e2 : rApply m (bareE e) = none := rApply_n g1 (show phaseOf e.k ≠ 2 by omega) (show phaseOf e.k ≠ 4 by omega) (by rw [hS.need, hd]; rfl)
    rw [e2]; exact trivial
  | cons d ds =>
    have hneed : m.need = bareE d :: ds.map bareE := by rw [hS.need, hd]; rfl
    have eR := rApply_d (e := bareE e) g1 (show phaseOf e.k ≠ 2 by omega) (show phaseOf e.k ≠ 4 by omega) hneed
    simp only
    have hdm : ∀ x, x ∈ ds → x ∈ a.due := fun x hx => by rw [hd]; exact List.mem_cons_of_mem _ hx
    have hd0 : d ∈ a.due := by rw [hd]; exact List.mem_cons_self ..
    by_cases he : e ≠ { d with cy := e.cy, po := e.po }
    · have e2 : rApply m (bareE e) = none := eR.trans (if_pos ((ev_eq e d).1 he))
      rw [if_pos he, e2]; exact trivial
    · have eR := eR.trans (if_neg (fun x => he ((ev_eq e d).2 x)))
      rw [if_neg he]
      have he := Decidable.not_not.1 he
      have hek : e.k = d.k := by rw [he]
      have hec : e.c = d.c := by rw [he]
      have het : e.t = d.t := by rw [he]
      by_cases hk : e.k ≠ 2
      · have e2 : rApply m (bareE e) = some { m with need := ds.map bareE, js := m.js.set e.t.toNat { r with act := false } } := eR.trans (if_neg (show ¬ phaseOf e.k = 3 from fun x => hk (phaseOf_3.1 x)))
        rw [if_pos hk, e2]
        refine ⟨⟨sim_set hS.z e.t.toNat { r with act := false } rfl hS.z.l hS.z.cores hS.z.slot hS.z.phase hS.z.last (by simp) ⟨hr.cnt, hr.last, ?_, fun j' hj' => ?_⟩ fun k hk => ⟨job_ne rfl hk, rfl, rfl⟩, rfl⟩, Iv.del hv (i := e.t.toNat) rfl hij rfl rfl hdm (fun h3 => ?_)⟩
        · rw [job_eq rfl hij]; rfl
        · rw [job_eq rfl hij] at hj'; cases hj'
        · exact absurd (phaseOf_3.1 (show phaseOf e.k = 3 by omega)) hk
      · have hk : e.k = 2 := Decidable.not_not.1 hk
        have hph : a.phase = 3 := by rw [← hp]; exact phaseOf_3.2 hk
        have e2 : rApply m (bareE e) = some { m with need := ds.map bareE, js := m.js.set e.t.toNat { r with runs := r.runs + 1, slot := e.s, core := e.c } } := eR.trans (if_pos (show phaseOf e.k = 3 from phaseOf_3.2 hk))
        rw [if_neg (by simpa using hk), e2]
        obtain ⟨_, _, _, hjs1, hc1, hc2⟩ := h.due3 hph d hd0
        rw [← het] at hjs1
        obtain ⟨j, hjob⟩ := Option.isSome_iff_exists.1 hjs1
        rw [hjob] at ha ⊢
        obtain ⟨j1, j2, j3, j4⟩ := hr.job j hjob
        obtain ⟨_, _, _, b3, _, b5, b6, b7, _⟩ := job_bd h hjob
        have hs0 := h.s0
        have hasc := hv.asc hph
        rw [hd, List.pairwise_cons] at hasc
        simp only
        refine ⟨⟨sim_set hS.z e.t.toNat { r with runs := r.runs + 1, slot := e.s, core := e.c } rfl hS.z.l hS.z.cores hS.z.slot hS.z.phase hS.z.last (by simp) ⟨hr.cnt, hr.last, ?_, fun j' hj' => ?_⟩ fun k hk => ⟨job_ne rfl hk, rfl, rfl⟩, rfl⟩, fun k j' hj' => ?_, fun k l x y hne h1 h2 hr0 hre => ?_, fun h3 => ?_, fun _ => hasc.2, fun _ x hx k y hy hr0 => ?_⟩
        · rw [job_eq rfl hij]; exact ha
        · rw [job_eq rfl hij] at hj'
          obtain rfl := Option.some.inj hj'
          exact ⟨j1, j2, by show r.runs + 1 = j.done + 1; omega, fun _ => ⟨hs, rfl⟩⟩
        · by_cases ek : k = e.t.toNat
          · subst ek
            rw [job_eq rfl hij] at hj'
            obtain rfl := Option.some.inj hj'
            exact ⟨fun hz => by have : j.done + 1 = 0 := hz; omega, fun _ => hs0⟩
          · rw [job_ne rfl ek] at hj'
            exact hv.one k j' hj'
        · by_cases ek : k = e.t.toNat
          · subst ek
            rw [job_eq rfl hij] at h1
            obtain rfl := Option.some.inj h1
            rw [job_ne rfl (Ne.symm hne)] at h2
            have e2 : a.slot = y.ran := hre
            have := hv.seat hph d hd0 l y h2 e2.symm
            show e.c ≠ y.core
            omega
          · rw [job_ne rfl ek] at h1
            by_cases el : l = e.t.toNat
            · subst el
              rw [job_eq rfl hij] at h2
              obtain rfl := Option.some.inj h2
              have e2 : x.ran = a.slot := hre
              have := hv.seat hph d hd0 k x h1 e2
              show x.core ≠ e.c
              omega
            · rw [job_ne rfl el] at h2
              exact hv.dist k l x y hne h1 h2 hr0 hre
        · have h3' : a.phase < 3 := h3
          omega
        · have hr1 : y.ran = a.slot := hr0
          by_cases ek : k = e.t.toNat
          · subst ek
            rw [job_eq rfl hij] at hy
            obtain rfl := Option.some.inj hy
            show e.c < x.c
            have := hasc.1 x hx
            omega
          · rw [job_ne rfl ek] at hy
            exact hv.seat hph x (hdm x hx) k y hy hr1
theorem accept_sim {a : Au} {m : Rm} {K : Int} {e : Ev} (h : AuI a K) (hS : Sim a m) (hv : Iv a) (ht0 : 0 ≤ e.t) (ht1 : e.t < a.l.length) (hs : e.s = a.slot) (hp : a.phase = phaseOf e.k) : Both (accept (phaseOf e.k) a e) (rApply m (bareE e)) := by
  unfold accept
  split
  · exact release_sim h hS hv ht0 ht1 hs (by omega) (by omega)
  · split
    · exact run_sim h hS hv ht0 ht1 hs (by omega) (by omega)
    · exact next_sim h hS hv ht0 ht1 hs hp.symm (by omega) (by omega)
def exT (a : Au) (e : Ev) : Au × Int := if 0 < (advance a e.s (phaseOf e.k)).2 then advance a e.s (phaseOf e.k) else match accept (phaseOf e.k) (advance a e.s (phaseOf e.k)).1 e with
  | some b => (b, 0)
  | none => ((advance a e.s (phaseOf e.k)).1, phaseOf e.k + 2)
def rxT (m : Rm) (e : Re) : Rm × Int := if 0 < (rAdvance m e.s (phaseOf e.k)).2 then rAdvance m e.s (phaseOf e.k) else match rApply (rAdvance m e.s (phaseOf e.k)).1 e with
  | some b => (b, 0)
  | none => ((rAdvance m e.s (phaseOf e.k)).1, phaseOf e.k + 2)
theorem examine_if (a : Au) (e : Ev) : examine a e = if e.s < a.slot ∨ 100000 < e.s ∨ (e.s = a.slot ∧ 0 < phaseOf e.k ∧ phaseOf e.k < a.phase) then (a, 1) else if phaseOf e.k = 0 ∨ e.t < 0 ∨ (a.l.length : Int) ≤ e.t then (a, 2) else exT a e := rfl
theorem rExamine_if (m : Rm) (e : Re) : rExamine m e = if e.s < m.slot ∨ 100000 < e.s then (m, 1) else if phaseOf e.k = 0 then (m, 2) else if e.s = m.slot ∧ phaseOf e.k < m.phase then (m, 1) else if e.t < 0 ∨ (m.l.length : Int) ≤ e.t then (m, 2) else rxT m e := rfl
/-- The reference's codes. -/
theorem rExamine_1 {m : Rm} {e : Re} (h : (e.s < m.slot ∨ 100000 < e.s) ∨ (phaseOf e.k ≠ 0 ∧ e.s = m.slot ∧ phaseOf e.k < m.phase)) : rExamine m e = (m, 1) := by
  rw [rExamine_if]
  by_cases c : e.s < m.slot ∨ 100000 < e.s
  · rw [if_pos c]
  · rw [if_neg c, if_neg (by omega), if_pos (by omega)]
theorem rExamine_2 {m : Rm} {e : Re} (h1 : ¬ (e.s < m.slot ∨ 100000 < e.s)) (h3 : ¬ (phaseOf e.k ≠ 0 ∧ e.s = m.slot ∧ phaseOf e.k < m.phase)) (h : phaseOf e.k = 0 ∨ e.t < 0 ∨ (m.l.length : Int) ≤ e.t) : rExamine m e = (m, 2) := by
  rw [rExamine_if, if_neg h1]
  by_cases c : phaseOf e.k = 0
  · rw [if_pos c]
  · rw [if_neg c, if_neg (by omega), if_pos (by omega)]
theorem rExamine_3 {m : Rm} {e : Re} (h1 : ¬ (e.s < m.slot ∨ 100000 < e.s)) (h3 : ¬ (phaseOf e.k ≠ 0 ∧ e.s = m.slot ∧ phaseOf e.k < m.phase)) (h : ¬ (phaseOf e.k = 0 ∨ e.t < 0 ∨ (m.l.length : Int) ≤ e.t)) : rExamine m e = rxT m e := by
  rw [rExamine_if, if_neg h1, if_neg (by omega), if_neg (by omega), if_neg (by omega)]
theorem examine_sim {a : Au} {m : Rm} {K : Int} {e : Ev} (h : AuI a K) (hk : K + 1 ≤ 1000000000000000) (hS : Sim a m) (hv : Iv a) (hph : 1 ≤ a.phase) : (rExamine m (bareE e)).2 = (examine a e).2 ∧ 0 ≤ (examine a e).2 ∧ ((examine a e).2 = 0 → Sim (examine a e).1 (rExamine m (bareE e)).1 ∧ Iv (examine a e).1 ∧ AuI (examine a e).1 (K + 1) ∧ 1 ≤ (examine a e).1.phase ∧ (examine a e).1.l = a.l) := by
  obtain ⟨f0, f5⟩ := phaseOf_bd e.k
  have hp5 := h.p1
  have hsl := hS.z.slot
  have hpp := hS.z.phase
  have hll : m.l.length = a.l.length := by rw [hS.z.l]
  by_cases c1 : e.s < a.slot ∨ 100000 < e.s ∨ (e.s = a.slot ∧ 0 < phaseOf e.k ∧ phaseOf e.k < a.phase)
  · have e1 : examine a e = (a, 1) := if_pos c1
    have e2 : rExamine m (bareE e) = (m, 1) := rExamine_1 (show (e.s < m.slot ∨ 100000 < e.s) ∨ (phaseOf e.k ≠ 0 ∧ e.s = m.slot ∧ phaseOf e.k < m.phase) by omega)
    rw [e1, e2]
    exact ⟨rfl, by simp only; omega, fun x => by simp only at x; omega⟩
  · have h1 : ¬ (e.s < m.slot ∨ 100000 < e.s) := by omega
    have h3 : ¬ (phaseOf e.k ≠ 0 ∧ e.s = m.slot ∧ phaseOf e.k < m.phase) := by omega
    by_cases c2 : phaseOf e.k = 0 ∨ e.t < 0 ∨ (a.l.length : Int) ≤ e.t
    · have e1 : examine a e = (a, 2) := (if_neg c1).trans (if_pos c2)
      have e2 : rExamine m (bareE e) = (m, 2) := rExamine_2 (e := bareE e) h1 h3 (show phaseOf e.k = 0 ∨ e.t < 0 ∨ (m.l.length : Int) ≤ e.t by omega)
      rw [e1, e2]
      exact ⟨rfl, by simp only; omega, fun x => by simp only at x; omega⟩
    · have e1 : examine a e = exT a e := (if_neg c1).trans (if_neg c2)
      have e2 : rExamine m (bareE e) = rxT m (bareE e) := rExamine_3 (e := bareE e) h1 h3 (show ¬ (phaseOf e.k = 0 ∨ e.t < 0 ∨ (m.l.length : Int) ≤ e.t) by omega)
      rw [e1, e2]
      have hp0 : 1 ≤ phaseOf e.k := by omega
      have hsp : a.slot = e.s → a.phase ≤ phaseOf e.k := fun x => by omega
      obtain ⟨q1, q2, q3⟩ := advance_sim hp0 f5 (show e.s ≤ 100001 by omega) h hS hv hph (by omega) hsp
      obtain ⟨b1, b2, b3, b4, b5, _⟩ := adv_I hp0 f5 (show e.s ≤ 100001 by omega) (advM a e.s) a K h hph (show a.slot ≤ e.s by omega) hsp rfl
      change AuI (advance a e.s (phaseOf e.k)).1 K at b1
      change (advance a e.s (phaseOf e.k)).1.l = a.l at b2
      change (advance a e.s (phaseOf e.k)).2 = 0 → (advance a e.s (phaseOf e.k)).1.slot = e.s ∧ (advance a e.s (phaseOf e.k)).1.phase = phaseOf e.k at b3
      change 0 ≤ (advance a e.s (phaseOf e.k)).2 at b4
      change 1 ≤ (advance a e.s (phaseOf e.k)).1.phase at b5
      have er : rxT m (bareE e) = if 0 < (rAdvance m e.s (phaseOf e.k)).2 then rAdvance m e.s (phaseOf e.k) else match rApply (rAdvance m e.s (phaseOf e.k)).1 (bareE e) with
        | some b => (b, 0)
        | none => ((rAdvance m e.s (phaseOf e.k)).1, phaseOf e.k + 2) := rfl
      rw [er]
      unfold exT
      generalize advance a e.s (phaseOf e.k) = A at *
      generalize rAdvance m e.s (phaseOf e.k) = R at *
      by_cases c5 : 0 < A.2
      · rw [if_pos c5, if_pos (by omega)]
        exact ⟨q1, b4, fun x => by omega⟩
      · rw [if_neg c5, if_neg (by omega)]
        obtain ⟨g1, g2⟩ := b3 (by omega)
        have hb := accept_sim (e := e) b1 q2 q3 (by omega) (by rw [b2]; omega) g1.symm g2
        cases ha : accept (phaseOf e.k) A.1 e with
        | none =>
          rw [ha] at hb
          cases hr : rApply R.1 (bareE e) with
          | none => exact ⟨rfl, by simp only; omega, fun x => by simp only at x; omega⟩
          | some b => rw [hr] at hb; exact hb.elim
        | some b =>
          rw [ha] at hb
          cases hr : rApply R.1 (bareE e) with
          | none => rw [hr] at hb; exact hb.elim
          | some q =>
            rw [hr] at hb
            obtain ⟨d1, d2, d3, d4⟩ := accept_I b1 hk (by rw [b1.nj, b2]; omega) g2 ha
            exact ⟨rfl, Int.le_refl _, fun _ => ⟨hb.1, hb.2, d1, by rw [d4]; omega, by rw [d2, b2]⟩⟩
theorem exAll_sim : ∀ (tr : List Ev) (a : Au) (m : Rm) (K : Int) (i : Nat), AuI a K → K + tr.length ≤ 1000000000000000 → Sim a m → Iv a → 1 ≤ a.phase → (rExAll m i (tr.map bareE)).2 = (examineAll a i tr).2 ∧ ((examineAll a i tr).2 = none → Sim (examineAll a i tr).1 (rExAll m i (tr.map bareE)).1 ∧ Iv (examineAll a i tr).1 ∧ AuI (examineAll a i tr).1 (K + tr.length) ∧ 1 ≤ (examineAll a i tr).1.phase)
  | [], a, m, K, i, h, hk, hS, hv, hph => ⟨rfl, fun _ => ⟨hS, hv, by simpa [examineAll] using h, hph⟩⟩
  | e :: tr, a, m, K, i, h, hk, hS, hv, hph => by
    simp only [List.length_cons] at hk
    obtain ⟨q1, q0, q2⟩ := examine_sim (e := e) h (by omega) hS hv hph
    rw [List.map_cons]
    unfold rExAll examineAll
    simp only
    rw [q1]
    by_cases c : 0 < (examine a e).2
    · rw [if_pos c, if_pos c]
      exact ⟨rfl, fun x => by cases x⟩
    · rw [if_neg c, if_neg c]
      obtain ⟨r1, r2, r3, r4, r5⟩ := q2 (by omega)
      have := exAll_sim tr (examine a e).1 (rExamine m (bareE e)).1 (K + 1) (i + 1) r3 (by omega) r1 r2 r4
      have e1 : K + 1 + (tr.length : Int) = K + ((e :: tr).length : Int) := by simp only [List.length_cons]; omega
      rw [e1] at this
      exact this
theorem new_sim {l : List Tk} {cores : Int} (hv : validT l = true) (hn : l.length ≤ 12) (h1 : 1 ≤ cores) (h4 : cores ≤ 4) (hI : AuI (newA l cores) 0) : Sim (beginA (newA l cores) 0 1) (rNew l cores) ∧ Iv (beginA (newA l cores) 0 1) := by
  have hjob : ∀ i, M.job (newA l cores) i = none := fun i => by
    unfold M.job newA
    simp only [List.getElem?_replicate]
    split <;> rfl
  have hjob' : ∀ i, M.job (beginA (newA l cores) 0 1) i = none := hjob
  have hlate : required (begin0 (newA l cores) 0 1) = [] := by
    refine (if_pos (show (begin0 (newA l cores) 0 1).phase = 1 from rfl)).trans ?_
    unfold late
    refine upTo_none fun i hi => ?_
    unfold lateF
    rw [show M.job (begin0 (newA l cores) 0 1) i = none from hjob i]
  refine ⟨⟨⟨rfl, rfl, rfl, rfl, rfl, by simp [rNew, newA, beginA, begin0], fun i r hr => ?_⟩, ?_⟩, fun i j hj => ?_, fun i k j j' _ hj => ?_, fun _ i j hj => ?_, fun h3 => ?_, fun h3 => ?_⟩
  · have hr' : r = ⟨0, 0, 0, 0, 0, false⟩ := List.eq_of_mem_replicate (List.mem_of_getElem? hr)
    subst hr'
    refine ⟨?_, fun hx => absurd hx (by simp), ?_, fun j hj => ?_⟩
    · show (0 : Int) = cntAt (newA l cores) i
      unfold cntAt newA
      simp only [List.getElem?_replicate]
      split <;> rfl
    · rw [hjob']; rfl
    · rw [hjob'] at hj; cases hj
  · show [] = (required (begin0 (newA l cores) 0 1)).map bareE
    rw [hlate]; rfl
  · rw [hjob'] at hj; cases hj
  · rw [hjob'] at hj; cases hj
  · rw [hjob'] at hj; cases hj
  · have : (1 : Int) = 3 := h3
    omega
  · have : (1 : Int) = 3 := h3
    omega
/-- The audit finds what the reference finds. -/
theorem check_eq {l : List Tk} {cores : Int} {tr : List Ev} (hn : l.length ≤ 12) (hlen : tr.length ≤ 1000000) (hnew : validT l = true → 1 ≤ cores → cores ≤ 4 → AuI (newA l cores) 0) : checkA l cores tr = rCheck l cores (tr.map bareE) := by
  unfold checkA rCheck
  by_cases h0 : validT l = false ∨ cores < 1 ∨ 4 < cores
  · rw [if_pos h0, if_pos h0]
  · rw [if_neg h0, if_neg h0]
    have hv : validT l = true := by
      cases hq : validT l with
      | true => rfl
      | false => exact absurd (.inl hq) h0
    have hI := hnew hv (by omega) (by omega)
    obtain ⟨s1, s2⟩ := new_sim hv hn (by omega) (by omega) hI
    have hI1 := beginA_I hI (Int.le_refl 0) (by omega) (Int.le_refl 1) (by omega)
    obtain ⟨q1, q2⟩ := exAll_sim tr (beginA (newA l cores) 0 1) (rNew l cores) 0 0 hI1 (by omega) s1 s2 (Int.le_refl 1)
    simp only
    rw [q1]
    cases hx : (examineAll (beginA (newA l cores) 0 1) 0 tr).2 with
    | some x => rfl
    | none =>
      obtain ⟨r1, r2, r3, r4⟩ := q2 hx
      simp only
      have e : tr.map bareE = [] ↔ tr = [] := List.map_eq_nil_iff
      by_cases h1 : tr = []
      · rw [if_pos h1, if_pos (e.2 h1)]
      · rw [if_neg h1, if_neg (fun x => h1 (e.1 x))]
        generalize (examineAll (beginA (newA l cores) 0 1) 0 tr).1 = A at *
        generalize (rExAll (rNew l cores) 0 (tr.map bareE)).1 = R at *
        obtain ⟨g1, g2, g3⟩ := advance_sim (show (1 : Int) ≤ 5 by omega) (Int.le_refl 5) r3.s1 r3 r1 r2 r4 (Int.le_refl _) (fun _ => r3.p1)
        rw [r1.z.slot, g1]
        have e2 : (rAdvance R A.slot 5).1.need ≠ [] ↔ (advance A A.slot 5).1.due ≠ [] := by rw [g2.need]; simp
        rw [List.length_map]
        split
        · rfl
        · by_cases h2 : (advance A A.slot 5).1.due ≠ []
          · rw [if_pos h2, if_pos (e2.2 h2)]
          · rw [if_neg h2, if_neg (fun x => h2 (e2.1 x))]
end Go.Proofs.Ytjccenbacjhglaa.EQ
