/- The audit finds what its reference finds. No program in sight. -/
import Derived.Test.YtjccenbacjhglaaEQ
set_option linter.unusedVariables false
namespace Go.Proofs.Ytjccenbacjhglaa.EQ
open Go Go.Proofs Go.RowKit Go.Proofs.Ytjccenbacjhglaa.K Go.Proofs.Ytjccenbacjhglaa.M Go.Proofs.Ytjccenbacjhglaa.AU Go.Proofs.Ytjccenbacjhglaa.AU2
/-- A task's state in the auditor and in the reference. -/
structure JR (a : Au) (i : Nat) (r : Rj) : Prop where
  cnt : r.cnt = cntAt a i
  last : 0 < r.cnt → r.rel = lastAt a i
  act : r.act = (M.job a i).isSome
  job : ∀ j, M.job a i = some j → r.cnt - 1 = j.no ∧ r.rel = j.rel ∧ r.runs = j.done ∧ (0 < j.done → r.slot = j.ran ∧ r.core = j.core)
structure Sim0 (a : Au) (m : Rm) : Prop where
  l : m.l = a.l
  cores : m.cores = a.cores
  slot : m.slot = a.slot
  phase : m.phase = a.phase
  last : m.last = a.newest
  len : m.js.length = a.js.length
  js : ∀ i r, m.js[i]? = some r → JR a i r
structure Sim (a : Au) (m : Rm) : Prop where
  z : Sim0 a m
  need : m.need = a.due.map bareE
/-- What holds of the auditor beyond its bounds. -/
structure Iv (a : Au) : Prop where
  one : ∀ i j, M.job a i = some j → (j.done = 0 → j.ran = -1) ∧ (0 < j.done → 0 ≤ j.ran)
  dist : ∀ i k j j', i ≠ k → M.job a i = some j → M.job a k = some j' → 0 ≤ j.ran → j.ran = j'.ran → j.core ≠ j'.core
  early : a.phase < 3 → ∀ i j, M.job a i = some j → j.ran < a.slot
  asc : a.phase = 3 → a.due.Pairwise (fun x y => x.c < y.c)
  seat : a.phase = 3 → ∀ d ∈ a.due, ∀ i j, M.job a i = some j → j.ran = a.slot → j.core < d.c
variable {a : Au} {m : Rm} {K : Int}
theorem Sim0.at (h : Sim0 a m) (hI : AuI a K) {i : Nat} (hi : i < a.l.length) : ∃ r t, m.js[i]? = some r ∧ m.l[i]? = some t ∧ a.l[i]? = some t ∧ okT t = true ∧ JR a i r := by
  have h1 : i < m.js.length := by rw [h.len, hI.nj]; exact hi
  refine ⟨m.js[i], a.l[i], List.getElem?_eq_getElem h1, by rw [h.l, List.getElem?_eq_getElem hi], List.getElem?_eq_getElem hi, ?_, h.js i _ (List.getElem?_eq_getElem h1)⟩
  have h2 := hI.val
  simp only [validT, Bool.and_eq_true, List.all_eq_true] at h2
  exact h2.1 _ (List.getElem_mem hi)
theorem late_eq (h : Sim0 a m) (hI : AuI a K) : (late a).map bareE = rLate m := by
  unfold late rLate
  rw [upTo_map, hI.nj, h.l]
  refine upTo_congr fun i hi => ?_
  obtain ⟨r, t, h1, h2, h3, ho, hj⟩ := h.at hI hi
  unfold lateF rLateF
  rw [h1, h2, h3]
  have ha := hj.act
  cases hjob : M.job a i with
  | none => rw [hjob] at ha; simp [ha]
  | some j =>
    rw [hjob] at ha
    obtain ⟨j1, j2, j3, j4⟩ := hj.job j hjob
    simp only [ha, j1, j2, j3, h.slot, Option.isSome_some, true_and]
    split <;> rfl
theorem job_bd (hI : AuI a K) {i : Nat} {j : Jb} (h : M.job a i = some j) : i < a.l.length ∧ 0 ≤ j.rel ∧ j.rel ≤ a.slot ∧ 0 ≤ j.done ∧ j.done ≤ K ∧ -1 ≤ j.ran ∧ j.ran ≤ a.slot ∧ 0 ≤ j.core ∧ j.core < a.cores := by
  have h1 := job_lt (a := a) (i := i) (by rw [h]; rfl)
  refine ⟨by rw [← hI.nj]; exact h1, hI.job i j (job_some h)⟩
theorem cands_eq (h : Sim0 a m) (hI : AuI a K) : upTo (candF a) a.js.length = rCands m := by
  unfold rCands
  rw [hI.nj, h.l]
  refine upTo_congr fun i hi => ?_
  obtain ⟨r, t, h1, h2, h3, ho, hj⟩ := h.at hI hi
  unfold candF rCandF
  rw [h1, h2, h3]
  have ha := hj.act
  cases hjob : M.job a i with
  | none => rw [hjob] at ha; simp [ha]
  | some j =>
    rw [hjob] at ha
    obtain ⟨j1, j2, j3, j4⟩ := hj.job j hjob
    obtain ⟨_, _, _, b3, _⟩ := job_bd hI hjob
    simp only [ha, j2, j3, h.slot, Option.isSome_some, true_and]
    by_cases c : j.done < t.c
    · have hw : winE t (j.done + 1) = 0 := winE0.2 ⟨ho, by omega, by omega⟩
      rw [window_in hw]
      simp only [hw, c, true_and]
    · have hw : ¬ winE t (j.done + 1) = 0 := fun e => by have := winE0.1 e; omega
      simp only [hw, c, false_and, if_false]
theorem rCandF_some {i : Nat} {x : Cd} (hx : rCandF m i = some x) : x.n = (i : Int) ∧ ∃ r t, m.js[i]? = some r ∧ m.l[i]? = some t ∧ r.act = true ∧ r.runs < t.c ∧ x = ⟨(i : Int), t, r.rel, r.runs + 1⟩ := by
  unfold rCandF at hx
  split at hx
  · rename_i r t h1 h2
    split at hx
    · rename_i hc
      obtain rfl := Option.some.inj hx
      exact ⟨rfl, r, t, h1, h2, hc.1, hc.2.1, rfl⟩
    · cases hx
  · cases hx
/-- The candidates: valid, numbered, active. -/
theorem rCands_ok (h : Sim0 a m) (hI : AuI a K) {x : Cd} (hx : x ∈ rCands m) : okC x ∧ 0 ≤ x.n ∧ x.n.toNat < a.l.length ∧ ∃ j, M.job a x.n.toNat = some j := by
  obtain ⟨i, hi, hf⟩ := mem_upTo.1 hx
  obtain ⟨hn, r, t, h1, h2, h3, h4, rfl⟩ := rCandF_some hf
  rw [h.l] at hi
  obtain ⟨r', t', g1, g2, g3, ho, hj⟩ := h.at hI hi
  rw [h1] at g1; obtain rfl := Option.some.inj g1
  rw [h2] at g2; obtain rfl := Option.some.inj g2
  have ha := hj.act
  rw [h3] at ha
  obtain ⟨j, hjob⟩ := Option.isSome_iff_exists.1 ha.symm
  obtain ⟨j1, j2, j3, j4⟩ := hj.job j hjob
  obtain ⟨_, _, _, b3, _⟩ := job_bd hI hjob
  refine ⟨winE0.2 ⟨ho, by show 1 ≤ r.runs + 1; omega, by show r.runs + 1 ≤ t.c; omega⟩, by simp, by simpa using hi, j, by simpa using hjob⟩
theorem rCands_pw : (rCands m).Pairwise (fun x y => x.n < y.n) := by
  unfold rCands
  refine upTo_pw fun i k x y hik hk hx hy => ?_
  rw [(rCandF_some hx).1, (rCandF_some hy).1]
  omega
theorem rCands_conn (h : Sim0 a m) (hI : AuI a K) : (rCands m).Pairwise (fun x y => before x y = true ∨ before y x = true) := by
  refine List.Pairwise.imp_of_mem (fun {x y} hx hy hxy => ?_) rCands_pw
  exact before_conn (rCands_ok h hI hx).1 (rCands_ok h hI hy).1 (by omega)
theorem chosen_eq (h : Sim0 a m) (hI : AuI a K) : cands a = rChosen m := by
  unfold cands rChosen
  rw [cmpC_before, cands_eq h hI, h.cores, selR_eq _ _ (fun x hx => (rCands_ok h hI hx).1) (rCands_conn h hI)]
theorem mem_chosen (h : Sim0 a m) (hI : AuI a K) {x : Cd} (hx : x ∈ rChosen m) : x ∈ rCands m := by
  rw [← chosen_eq h hI] at hx
  unfold cands at hx
  have := mem_isort.1 (List.mem_of_mem_take hx)
  rwa [cands_eq h hI] at this
theorem n_inj {x y : Cd} (hx : x ∈ rCands m) (hy : y ∈ rCands m) (e : x.n = y.n) : x = y := by
  obtain ⟨i, hi, hf⟩ := mem_upTo.1 hx
  obtain ⟨k, hk, hg⟩ := mem_upTo.1 hy
  have h1 := (rCandF_some hf).1
  have h2 := (rCandF_some hg).1
  obtain rfl : i = k := by omega
  rw [hf] at hg
  exact Option.some.inj hg
theorem chosen_pw (h : Sim0 a m) (hI : AuI a K) : (rChosen m).Pairwise (fun x y => x.n ≠ y.n) := by
  have h1 : (isort before (rCands m)).Pairwise (fun x y => before x y = true) := isort_sorted before_tot (fun x hx => (rCands_ok h hI hx).1) (rCands_conn h hI)
  have h2 : (rChosen m).Pairwise (fun x y => before x y = true) := by
    rw [← chosen_eq h hI]
    unfold cands
    rw [cmpC_before, cands_eq h hI]
    exact h1.sublist (List.take_sublist _ _)
  refine List.Pairwise.imp_of_mem (fun {x y} hx hy hxy e => ?_) h2
  have hx' := mem_chosen h hI hx
  obtain rfl := n_inj hx' (mem_chosen h hI hy) e
  have := before_tot.asym x x (rCands_ok h hI hx').1 (rCands_ok h hI hx').1 hxy
  rw [this] at hxy; cases hxy
theorem chosen_len (h : Sim0 a m) (hI : AuI a K) : (rChosen m).length ≤ m.cores.toNat := by
  rw [← chosen_eq h hI, h.cores]
  unfold cands
  rw [List.length_take]; omega
/-- Where a chosen job ran in the slot before. -/
theorem was_eq (h : Sim0 a m) (hI : AuI a K) (hv : Iv a) {x : Cd} {j : Jb} (hi : x.n.toNat < a.l.length) (hj : M.job a x.n.toNat = some j) : wasF m x = if 0 ≤ j.ran ∧ j.ran = a.slot - 1 then j.core else -1 := by
  obtain ⟨r, t, h1, h2, h3, ho, hr⟩ := h.at hI hi
  obtain ⟨j1, j2, j3, j4⟩ := hr.job j hj
  obtain ⟨o1, o2⟩ := hv.one _ _ hj
  obtain ⟨_, _, _, b3, _⟩ := job_bd hI hj
  unfold wasF
  rw [h1]
  simp only
  rcases Int.lt_or_le 0 j.done with hd | hd
  · obtain ⟨e1, e2⟩ := j4 hd
    have := o2 hd
    rw [h.slot]
    by_cases c : j.ran = a.slot - 1
    · rw [if_pos ⟨by omega, by omega⟩, if_pos ⟨by omega, c⟩, e2]
    · rw [if_neg (by omega), if_neg (by omega)]
  · have := o1 (by omega)
    rw [if_neg (by omega), if_neg (by omega)]
def pr (m : Rm) (c : Cd) : Int × Int := (c.n, wasF m c)
theorem keepC_eq (h : Sim0 a m) (hI : AuI a K) (hv : Iv a) : ∀ (cs : List Cd) (s : List Int × List Int), (∀ c ∈ cs, c.n.toNat < a.l.length ∧ ∃ j, M.job a c.n.toNat = some j) → keepC a cs s = (markOn (cs.map (pr m)) s.1, s.2 ++ moved (cs.map (pr m)))
  | [], s, _ => by simp [keepC, markOn, moved]
  | c :: cs, s, hc => by
    obtain ⟨hi, j, hj⟩ := hc c (List.mem_cons_self ..)
    have hw := was_eq h hI hv hi hj
    obtain ⟨_, _, _, _, _, _, _, b7, _⟩ := job_bd hI hj
    rw [keepC, keepC_eq h hI hv cs _ fun d hd => hc d (List.mem_cons_of_mem _ hd), hj]
    simp only
    rw [List.map_cons, markOn]
    by_cases cond : 0 ≤ j.ran ∧ j.ran = a.slot - 1
    · rw [if_pos cond] at hw
      have hw0 : 0 ≤ (pr m c).2 := by show 0 ≤ wasF m c; omega
      have e : moved (pr m c :: cs.map (pr m)) = moved (cs.map (pr m)) := by unfold moved; rw [List.filter_cons_of_neg (by simpa using hw0)]
      rw [if_pos cond, if_pos hw0, e]
      show (markOn _ (s.1.set j.core.toNat c.n), _) = (markOn _ (s.1.set (wasF m c).toNat c.n), _)
      rw [hw]
    · rw [if_neg cond] at hw
      have hw0 : ¬ 0 ≤ (pr m c).2 := by show ¬ 0 ≤ wasF m c; omega
      have e : moved (pr m c :: cs.map (pr m)) = c.n :: moved (cs.map (pr m)) := by unfold moved; rw [List.filter_cons_of_pos (by simpa using hw0)]; rfl
      rw [if_neg cond, if_neg hw0, e, List.append_assoc]; rfl
theorem sel_eq (h : Sim0 a m) (hI : AuI a K) (hv : Iv a) : (selection a).map bareE = rSel m := by
  have hok : ∀ c ∈ rChosen m, 0 ≤ c.n ∧ c.n.toNat < a.l.length ∧ ∃ j, M.job a c.n.toNat = some j := fun c hc => (rCands_ok h hI (mem_chosen h hI hc)).2
  have hc0 := hI.c0
  have hN : m.cores.toNat = a.cores.toNat := by rw [h.cores]
  generalize hps : (rChosen m).map (pr m) = ps
  have hlen : ps.length = (rChosen m).length := by rw [← hps, List.length_map]
  have hpsI : ∀ (i : Nat) (p : Int × Int), ps[i]? = some p → ∃ c, (rChosen m)[i]? = some c ∧ p = pr m c := fun i p hp => by
    rw [← hps, List.getElem?_map] at hp
    cases hc : (rChosen m)[i]? with
    | none => rw [hc] at hp; cases hp
    | some c => rw [hc] at hp; exact ⟨c, rfl, (Option.some.inj hp).symm⟩
  have hpsM : ∀ p ∈ ps, ∃ c ∈ rChosen m, p = pr m c := fun p hp => by
    rw [← hps] at hp
    obtain ⟨c, hc, rfl⟩ := List.mem_map.1 hp
    exact ⟨c, hc, rfl⟩
  have hn : ∀ p ∈ ps, 0 ≤ p.1 := fun p hp => by
    obtain ⟨c, hc, rfl⟩ := hpsM p hp
    exact (hok c hc).1
  -- the cores that are kept
  have hkeep : ∀ c ∈ rChosen m, 0 ≤ wasF m c → ∃ j, M.job a c.n.toNat = some j ∧ 0 ≤ j.ran ∧ j.ran = a.slot - 1 ∧ wasF m c = j.core ∧ 0 ≤ j.core ∧ j.core < a.cores := fun c hc h0 => by
    obtain ⟨_, hi, j, hj⟩ := hok c hc
    have hw := was_eq h hI hv hi hj
    obtain ⟨_, _, _, _, _, _, _, b7, b8⟩ := job_bd hI hj
    by_cases cond : 0 ≤ j.ran ∧ j.ran = a.slot - 1
    · rw [if_pos cond] at hw; exact ⟨j, hj, cond.1, cond.2, hw, b7, b8⟩
    · rw [if_neg cond] at hw; omega
  have hdist : ps.Pairwise (fun p q => 0 ≤ p.2 → 0 ≤ q.2 → p.2 ≠ q.2) := by
    rw [← hps, List.pairwise_map]
    refine List.Pairwise.imp_of_mem (fun {x y} hx hy hxy h1 h2 e => ?_) (chosen_pw h hI)
    obtain ⟨j, k1, k2, k3, k4, _⟩ := hkeep x hx h1
    obtain ⟨j', l1, l2, l3, l4, _⟩ := hkeep y hy h2
    have e' : wasF m x = wasF m y := e
    have := (hok x hx).1
    have := (hok y hy).1
    exact hv.dist x.n.toNat y.n.toNat j j' (by omega) k1 l1 k2 (by omega) (by omega)
  have hrange : ∀ p ∈ ps, 0 ≤ p.2 → p.2.toNat < (List.replicate a.cores.toNat (-1 : Int)).length := fun p hp h0 => by
    obtain ⟨c, hc, rfl⟩ := hpsM p hp
    obtain ⟨j, _, _, _, k4, k5, k6⟩ := hkeep c hc h0
    rw [List.length_replicate]
    show (wasF m c).toNat < _
    omega
  have hat := mark_at hdist hrange
  have hcount := mark_count ps (List.replicate a.cores.toNat (-1)) hn
  have hcl := chosen_len h hI
  rw [List.count_replicate_self] at hcount
  generalize hon : markOn ps (List.replicate a.cores.toNat (-1)) = on at *
  have honl : on.length = a.cores.toNat := by rw [← hon, mark_len, List.length_replicate]
  obtain ⟨i1, i2, i3, i4, i5⟩ := fill_main ps on hn (by omega) hat
  have hco : rCores m = fillC (ps.map (·.2)) (usedOf on) := by
    unfold rCores coresR
    have e : (rChosen m).map (wasF m) = ps.map (·.2) := by rw [← hps, List.map_map]; rfl
    have e2 : List.replicate m.cores.toNat false = usedOf (List.replicate a.cores.toNat (-1)) := by rw [hN]; unfold usedOf; rw [List.map_replicate]; rfl
    rw [e, e2, markU_eq ps _ hn, hon]
  have hseat : seated a = fillOn ps on := by
    unfold seated
    rw [chosen_eq h hI, keepC_eq h hI hv _ _ fun c hc => (hok c hc).2]
    simp only [List.nil_append]
    rw [place_eq, hps, hon]
  unfold selection rSel
  rw [upTo_map, hco, hseat, hN]
  symm
  refine grid_one fun c hc => ?_
  generalize fillOn ps on = fo at *
  generalize fillC (ps.map (·.2)) (usedOf on) = co at *
  have hfc : c < fo.length := by omega
  have hv0 : fo[c]? = some fo[c] := List.getElem?_eq_getElem hfc
  generalize fo[c] = v at hv0
  have hno : ∀ (i : Nat) (p : Int × Int), ps[i]? = some p → co[i]? = some (c : Int) → p.1 = v := fun i p hp hq => by
    obtain ⟨c', q1, q2, _⟩ := i3 i p hp
    rw [hq] at q1
    have : c' = c := by have := Option.some.inj q1; omega
    subst this
    rw [hv0] at q2
    exact (Option.some.inj q2).symm
  by_cases hv1 : v = -1
  · subst hv1
    have e1 : onF a fo c = none := by unfold onF; rw [hv0]; rfl
    rw [e1, upTo_none fun i hi => ?_]
    · rfl
    · unfold rDispF
      split
      · rename_i x y h1 h2
        split
        · rename_i hx
          have hp : ps[i]? = some (pr m y) := by rw [← hps, List.getElem?_map, h2]; rfl
          have h3 := hno i _ hp (by rw [h1, hx])
          have := hn _ (List.mem_of_getElem? hp)
          omega
        · rfl
      · rfl
  · have hex : ∃ (i : Nat) (p : Int × Int), ps[i]? = some p ∧ p.1 = v ∧ co[i]? = some (c : Int) := by
      rcases i5 c v hv0 hv1 with h1 | h1
      · rw [← hon] at h1
        rcases mark_rev h1 with h2 | ⟨i, p, h2, h3, h4⟩
        · rw [List.getElem?_replicate] at h2
          split at h2
          · exact absurd (Option.some.inj h2).symm hv1
          · exact absurd hc (by assumption)
        · obtain ⟨c', q1, _, q3⟩ := i3 i p h2
          have := q3 (by omega)
          exact ⟨i, p, h2, h4, by rw [q1]; congr 1; omega⟩
      · exact h1
    obtain ⟨i, p, hp, hpv, hci⟩ := hex
    obtain ⟨y, hy, rfl⟩ := hpsI i p hp
    have hym := List.mem_of_getElem? hy
    obtain ⟨y0, yl, j, hj⟩ := hok y hym
    obtain ⟨r, t, g1, _, _, _, hr⟩ := h.at hI yl
    obtain ⟨j1, j2, j3, j4⟩ := hr.job j hj
    have hil : i < (rChosen m).length := (List.getElem?_eq_some_iff.1 hy).1
    have hyv : y.n = v := hpv
    have e1 : onF a fo c = some ⟨a.slot, (c : Int), y.n, j.no, 2, j.done + 1, 0, 0⟩ := by
      unfold onF; rw [hv0]; simp only; rw [if_pos (by omega), ← hyv, hj]
    have e2 : rDispF m (rChosen m) co c i = some ⟨a.slot, (c : Int), y.n, j.no, 2, j.done + 1⟩ := by
      unfold rDispF; rw [hci, hy]; simp only [if_true, g1]; rw [h.slot, j1, j3]
    rw [e1, upTo_one e2 hil fun k hk hne => ?_]
    · rfl
    · unfold rDispF
      split
      · rename_i x z h1 h2
        split
        · rename_i hx
          exfalso
          have hq : ps[k]? = some (pr m z) := by rw [← hps, List.getElem?_map, h2]; rfl
          have h3 := hno k _ hq (by rw [h1, hx])
          obtain ⟨k1, k2⟩ := List.getElem?_eq_some_iff.1 h2
          obtain ⟨l1, l2⟩ := List.getElem?_eq_some_iff.1 hy
          have hzv : z.n = v := h3
          rcases Nat.lt_or_ge k i with h4 | h4
          · have := List.pairwise_iff_getElem.1 (chosen_pw h hI) k i k1 l1 h4
            rw [k2, l2] at this; omega
          · have := List.pairwise_iff_getElem.1 (chosen_pw h hI) i k l1 k1 (by omega)
            rw [k2, l2] at this; omega
        · rfl
      · rfl
theorem cutF_some {i : Nat} {x : Ev} (hx : cutF a i = some x) : ∃ j t, M.job a i = some j ∧ a.l[i]? = some t ∧ j.ran = a.slot ∧ j.done = t.c ∧ x = ⟨a.slot, j.core, (i : Int), j.no, 5, j.done, 0, 0⟩ := by
  unfold cutF at hx
  split at hx
  · rename_i j t h1 h2
    split at hx
    · rename_i hc
      exact ⟨j, t, h1, h2, hc.1, hc.2, (Option.some.inj hx).symm⟩
    · cases hx
  · cases hx
theorem rCutF_some (h : Sim0 a m) (hI : AuI a K) {c i : Nat} {x : Re} (hx : rCutF m c i = some x) : ∃ j t, M.job a i = some j ∧ a.l[i]? = some t ∧ j.ran = a.slot ∧ j.done = t.c ∧ j.core = (c : Int) ∧ x = ⟨a.slot, j.core, (i : Int), j.no, 5, j.done⟩ := by
  unfold rCutF at hx
  split at hx
  · rename_i r t h1 h2
    split at hx
    · rename_i hc
      have hi : i < a.l.length := by rw [← h.l]; exact (List.getElem?_eq_some_iff.1 h2).1
      obtain ⟨r', t', g1, g2, g3, ho, hr⟩ := h.at hI hi
      rw [h1] at g1; obtain rfl := Option.some.inj g1
      rw [h2] at g2; obtain rfl := Option.some.inj g2
      have ha := hr.act
      rw [hc.1] at ha
      obtain ⟨j, hj⟩ := Option.isSome_iff_exists.1 ha.symm
      obtain ⟨j1, j2, j3, j4⟩ := hr.job j hj
      have ht := (okT_bd ho).1
      obtain ⟨q1, q2⟩ := j4 (by omega)
      have hs := h.slot
      refine ⟨j, t, hj, g3, by omega, by omega, by omega, ?_⟩
      obtain rfl := Option.some.inj hx
      rw [hs, j1, j3, ← hc.2.2.2, q2]
    · cases hx
  · cases hx
theorem cut_to (h : Sim0 a m) (hI : AuI a K) (hv : Iv a) {i : Nat} {x : Ev} (hx : cutF a i = some x) : x.c.toNat < a.cores.toNat ∧ i < a.l.length ∧ rCutF m x.c.toNat i = some (bareE x) := by
  obtain ⟨j, t, hj, ht, h1, h2, rfl⟩ := cutF_some hx
  obtain ⟨b0, _, _, b3, _, _, _, b7, b8⟩ := job_bd hI hj
  obtain ⟨r, t', g1, g2, g3, ho, hr⟩ := h.at hI b0
  rw [ht] at g3; obtain rfl := Option.some.inj g3
  obtain ⟨j1, j2, j3, j4⟩ := hr.job j hj
  have ha := hr.act
  rw [hj] at ha
  have hc := (okT_bd ho).1
  obtain ⟨q1, q2⟩ := j4 (by omega)
  refine ⟨by simp only; omega, b0, ?_⟩
  unfold rCutF
  rw [g1, g2]
  simp only
  rw [if_pos ⟨ha, by omega, by rw [h.slot]; omega, by omega⟩, h.slot, j1, j3]
  unfold bareE
  simp only [Option.some.injEq, Re.mk.injEq, true_and, and_true]
  omega
theorem cut_eq (h : Sim0 a m) (hI : AuI a K) (hv : Iv a) : (cutoff a).map bareE = rCut m := by
  have hc0 := hI.c0
  have hN : m.cores.toNat = a.cores.toNat := by rw [h.cores]
  have hs0 := hI.s0
  have two : ∀ i k x y, i ≠ k → cutF a i = some x → cutF a k = some y → x.c ≠ y.c := fun i k x y hne hx hy => by
    obtain ⟨j, t, hj, ht, h1, h2, rfl⟩ := cutF_some hx
    obtain ⟨j', t', hj', ht', h1', h2', rfl⟩ := cutF_some hy
    exact hv.dist i k j j' hne hj hj' (by omega) (by omega)
  refine sorted_ext (R := fun x y : Re => x.c < y.c) ?_ ?_ (fun x _ y _ h1 h2 => by omega) fun z => ?_
  · rw [List.pairwise_map]
    unfold cutoff
    refine List.Pairwise.imp (fun {x y} hxy => ?_) (isort_sorted (p := fun _ => True) ⟨fun x y _ _ hxy => ?_, fun x y z _ _ _ h1 h2 => ?_⟩ (fun _ _ => trivial) (upTo_pw fun i k x y hik hk hx hy => ?_))
    · have := of_decide_eq_true hxy
      show x.c < y.c
      omega
    · have := of_decide_eq_true hxy
      exact decide_eq_false (by omega)
    · have := of_decide_eq_true h1
      have := of_decide_eq_true h2
      exact decide_eq_true (by omega)
    · have := two i k x y (by omega) hx hy
      rcases Int.lt_or_le x.c y.c with h3 | h3
      · exact .inl (decide_eq_true (by omega))
      · exact .inr (decide_eq_true (by omega))
  · unfold rCut
    refine grid_pw (fun c hc => upTo_pw fun i k x y hik hk hx hy => ?_) fun c c' i i' x y h1 h2 _ _ hx hy => ?_
    · obtain ⟨j, t, hj, ht, h1, h2, h3, rfl⟩ := rCutF_some h hI hx
      obtain ⟨j', t', hj', ht', h1', h2', h3', rfl⟩ := rCutF_some h hI hy
      exact absurd (show j.core = j'.core by omega) (hv.dist i k j j' (by omega) hj hj' (by omega) (by omega))
    · obtain ⟨j, t, hj, ht, _, _, h3, rfl⟩ := rCutF_some h hI hx
      obtain ⟨j', t', hj', ht', _, _, h3', rfl⟩ := rCutF_some h hI hy
      show j.core < j'.core
      omega
  · unfold cutoff rCut
    rw [List.mem_map, mem_grid, hN, h.l]
    constructor
    · rintro ⟨x, hx, rfl⟩
      obtain ⟨i, hi, hf⟩ := mem_upTo.1 (mem_isort.1 hx)
      obtain ⟨c1, c2, c3⟩ := cut_to h hI hv hf
      exact ⟨_, i, c1, c2, c3⟩
    · rintro ⟨c, i, hc, hi, hf⟩
      obtain ⟨j, t, hj, ht, h1, h2, h3, rfl⟩ := rCutF_some h hI hf
      refine ⟨⟨a.slot, j.core, (i : Int), j.no, 5, j.done, 0, 0⟩, mem_isort.2 (mem_upTo.2 ⟨i, by rw [hI.nj]; exact hi, ?_⟩), rfl⟩
      unfold cutF
      rw [hj, ht]
      simp only
      rw [if_pos ⟨h1, h2⟩]
theorem req_eq (h : Sim0 a m) (hI : AuI a K) (hv : Iv a) : (required a).map bareE = rReq m := by
  unfold required rReq
  rw [h.phase]
  split
  · exact late_eq h hI
  · split
    · exact sel_eq h hI hv
    · split
      · exact cut_eq h hI hv
      · rfl
end Go.Proofs.Ytjccenbacjhglaa.EQ
