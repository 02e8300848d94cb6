/- Plain laws of slot schedules. No program in sight. -/
import Derived.Test.YtjccenbacjhglaaEQ
import Derived.Test.YtjccenbacjhglaaS10
set_option linter.unusedVariables false
namespace Go.Proofs.Ytjccenbacjhglaa.SP
open Go Go.Proofs Go.RowKit Go.Proofs.Ytjccenbacjhglaa.K Go.Proofs.Ytjccenbacjhglaa.M Go.Proofs.Ytjccenbacjhglaa.S2 Go.Proofs.Ytjccenbacjhglaa.S3 Go.Proofs.Ytjccenbacjhglaa.S6 Go.Proofs.Ytjccenbacjhglaa.S7 Go.Proofs.Ytjccenbacjhglaa.S8 Go.Proofs.Ytjccenbacjhglaa.S9 Go.Proofs.Ytjccenbacjhglaa.S10
variable {l : List Tk} {rs : List (List Int)} {cores : Int}
theorem simTo_len : ∀ n, (simTo l rs cores n).2.length = n
  | 0 => rfl
  | n + 1 => by rw [simTo]; simp only [List.length_append, List.length_singleton]; rw [simTo_len n]
theorem simOut_at {n : Nat} : ∀ {U : Nat}, n < U → (simTo l rs cores U).2[n]? = some (chooseS l rs (n : Int) cores (beginS l rs (n : Int) (simTo l rs cores n).1))
  | 0, h => absurd h (by omega)
  | U + 1, h => by
    rw [simTo]
    simp only
    rcases Nat.lt_or_ge n U with h1 | h1
    · rw [List.getElem?_append_left (by rw [simTo_len]; exact h1)]
      exact simOut_at h1
    · obtain rfl : n = U := by omega
      have e : n = (simTo l rs cores n).2.length := (simTo_len n).symm
      conv => lhs; rw [List.getElem?_append_right (by omega)]
      rw [simTo_len, Nat.sub_self]; rfl
theorem stTo_sim {U : Nat} : ∀ {n : Nat}, n ≤ U → stTo l rs (simOut l rs cores U) n = (simTo l rs cores n).1
  | 0, _ => rfl
  | n + 1, h => by
    have e : (simOut l rs cores U)[n]? = _ := simOut_at (l := l) (rs := rs) (cores := cores) (show n < U by omega)
    rw [stTo, e]
    simp only
    rw [stTo_sim (show n ≤ U by omega), simTo]
/-! what is chosen -/
theorem candS_ok {slot : Int} {s : Rn} {i : Nat} {x : Cd} (h : candS l rs slot s i = some x) : x.n = (i : Int) ∧ EQ.okC x := by
  unfold candS at h
  split at h
  · split at h
    · rename_i hc
      obtain rfl := Option.some.inj h
      exact ⟨rfl, hc.2.1⟩
    · cases h
  · cases h
theorem cands_pw {slot : Int} {s : Rn} (n : Nat) : (upTo (candS l rs slot s) n).Pairwise (fun x y => x.n < y.n) :=
  EQ.upTo_pw fun i k x y hik hk hx hy => by rw [(candS_ok hx).1, (candS_ok hy).1]; omega
theorem top_pw {slot : Int} {s : Rn} : (topS l rs slot cores s).Pairwise (fun x y => x.n ≠ y.n) := by
  have hok : ∀ x ∈ upTo (candS l rs slot s) l.length, EQ.okC x := fun x hx => by
    obtain ⟨i, _, hf⟩ := mem_upTo.1 hx
    exact (candS_ok hf).2
  have hconn : (upTo (candS l rs slot s) l.length).Pairwise (fun x y => before x y = true ∨ before y x = true) :=
    List.Pairwise.imp_of_mem (fun {x y} hx hy hxy => EQ.before_conn (hok x hx) (hok y hy) (by omega)) (cands_pw l.length)
  have h1 := isort_sorted EQ.before_tot hok hconn
  unfold topS
  rw [EQ.cmpC_before]
  refine List.Pairwise.imp_of_mem (fun {x y} hx hy hxy e => ?_) (h1.sublist (List.take_sublist _ _))
  have hx' := mem_isort.1 (List.mem_of_mem_take hx)
  have hy' := mem_isort.1 (List.mem_of_mem_take hy)
  obtain ⟨i, _, hf⟩ := mem_upTo.1 hx'
  obtain ⟨k, _, hg⟩ := mem_upTo.1 hy'
  have h2 := (candS_ok hf).1
  have h3 := (candS_ok hg).1
  obtain rfl : i = k := by omega
  rw [hf] at hg
  obtain rfl := Option.some.inj hg
  have := EQ.before_tot.asym x x (hok x hx') (hok x hx') hxy
  rw [this] at hxy; cases hxy
theorem choose_sorted {slot : Int} {s : Rn} : (chooseS l rs slot cores s).Pairwise (fun x y => x < y) := by
  unfold chooseS
  have h1 : ((topS l rs slot cores s).map (·.n)).Pairwise (fun a b => ltI a b = true ∨ ltI b a = true) := by
    rw [List.pairwise_map]
    refine top_pw.imp fun {x y} h => ?_
    unfold ltI
    rcases Int.lt_or_le x.n y.n with h2 | h2
    · exact .inl (decide_eq_true h2)
    · exact .inr (decide_eq_true (by omega))
  have h2 := isort_sorted (lt := ltI) (p := fun _ => True) ⟨fun x y _ _ h => by
    unfold ltI at *
    have := of_decide_eq_true h
    exact decide_eq_false (by omega), fun x y z _ _ _ h1 h2 => by
    unfold ltI at *
    have := of_decide_eq_true h1
    have := of_decide_eq_true h2
    exact decide_eq_true (by omega)⟩ (fun _ _ => trivial) h1
  exact h2.imp fun {x y} h => of_decide_eq_true h
theorem choose_good {n : Nat} {s : Rn} (hc : 1 ≤ cores) : GoodRun l rs s (chooseS l rs (n : Int) cores s) (n : Int) cores := by
  refine ⟨fun k hk => ?_, ?_, fun x hx => (choose_mem hx).2.2⟩
  · obtain ⟨h1, h2, _⟩ := choose_mem (List.getElem_mem hk)
    refine ⟨h1, by omega, fun hk0 => ?_⟩
    exact List.pairwise_iff_getElem.1 choose_sorted (k - 1) k (by omega) hk (by omega)
  · have := (choose_len (l := l) (rs := rs) (s := s) (slot := (n : Int)) (cores := cores)).2
    omega
/-- The simulated schedule is good, slot by slot. -/
theorem sim_good {U : Nat} (hc : 1 ≤ cores) : ∀ n (h : n < (simOut l rs cores U).length), GoodRun l rs (beginS l rs (n : Int) (stTo l rs (simOut l rs cores U) n)) (simOut l rs cores U)[n] (n : Int) cores := fun n h => by
  have hl : (simOut l rs cores U).length = U := simTo_len U
  have e := simOut_at (l := l) (rs := rs) (cores := cores) (show n < U by omega)
  have e2 : (simOut l rs cores U)[n] = _ := (List.getElem?_eq_some_iff.1 e).2
  rw [stTo_sim (by omega), e2]
  exact choose_good hc
theorem sim_ms {U : Nat} : (beginS l rs (((simOut l rs cores U).length : Nat) : Int) (stTo l rs (simOut l rs cores U) (simOut l rs cores U).length)).ms = simMs l rs cores U := by
  have hl : (simOut l rs cores U).length = U := simTo_len U
  rw [hl, stTo_sim (Nat.le_refl _)]
  rfl
/-! the future does not matter -/
def cutR (k : Int) (rs : List (List Int)) : List (List Int) := rs.map fun r => r.filter fun x => decide (x < k)
theorem filter_at {k : Int} : ∀ {r : List Int} {j : Nat}, r.Pairwise (fun x y => x < y) → (r.filter fun x => decide (x < k))[j]? = (r[j]?).filter fun x => decide (x < k)
  | [], j, _ => by simp
  | x :: r, j, h => by
    rw [List.pairwise_cons] at h
    by_cases hx : x < k
    · rw [List.filter_cons_of_pos (by simpa using hx)]
      cases j with
      | zero => simp [Option.filter, hx]
      | succ j => simpa using filter_at (r := r) (j := j) h.2
    · rw [List.filter_cons_of_neg (by simpa using hx)]
      have he : (r.filter fun x => decide (x < k)) = [] := by
        rw [List.filter_eq_nil_iff]
        intro y hy
        have := h.1 y hy
        simp; omega
      rw [he]
      cases j with
      | zero => simp [Option.filter, hx]
      | succ j =>
        simp only [List.getElem?_nil, List.getElem?_cons_succ]
        cases hr : r[j]? with
        | none => rfl
        | some y =>
          have := h.1 y (List.mem_of_getElem? hr)
          have : ¬ y < k := by omega
          simp [Option.filter, this]
theorem valid_asc (hv : ValidS l cores rs) {i : Nat} (hi : i < rs.length) : rs[i].Pairwise (fun x y => x < y) := by
  obtain ⟨h1, h2, h3, h4, h5⟩ := hv
  have hil : i < l.length := by omega
  obtain ⟨_, hk⟩ := h5 i hi hil
  have hp : 1 ≤ l[i].p := by
    simp only [validT, Bool.and_eq_true, List.all_eq_true] at h1
    have := okT_bd (h1.1 _ (List.getElem_mem hil))
    omega
  rw [List.pairwise_iff_getElem]
  have step : ∀ (d a : Nat) (ha : a + d + 1 < rs[i].length), rs[i][a] < rs[i][a + d + 1] := fun d => by
    induction d with
    | zero =>
      intro a ha
      have := (hk (a + 1) ha).2 (by omega)
      simp only [Nat.add_sub_cancel] at this
      show rs[i][a] < rs[i][a + 1]
      omega
    | succ d ih =>
      intro a ha
      have h6 := ih a (by omega)
      have h7 := (hk (a + d + 1 + 1) ha).2 (by omega)
      simp only [Nat.add_sub_cancel] at h7
      show rs[i][a] < rs[i][a + d + 1 + 1]
      omega
  intro a b ha hb hab
  have := step (b - a - 1) a (by omega)
  have e : a + (b - a - 1) + 1 = b := by omega
  simp only [e] at this
  exact this
theorem relAt_cut (hv : ValidS l cores rs) {k : Int} (i j : Nat) : relAt (cutR k rs) i j = (relAt rs i j).filter fun x => decide (x < k) := by
  unfold relAt cutR
  rw [List.getElem?_map]
  rcases Nat.lt_or_ge i rs.length with hi | hi
  · rw [List.getElem?_eq_getElem hi]
    exact filter_at (valid_asc hv hi)
  · rw [List.getElem?_eq_none hi]; rfl
def Eq2 (s t : Rn) : Prop := s.job = t.job ∧ s.done = t.done
theorem Eq2.j {s t : Rn} (h : Eq2 s t) (i : Nat) : jobAt s i = jobAt t i := by unfold jobAt; rw [h.1]
theorem Eq2.d {s t : Rn} (h : Eq2 s t) (i : Nat) : doneAt s i = doneAt t i := by unfold doneAt; rw [h.2]
theorem ends_cut (hv : ValidS l cores rs) {k slot : Int} (hs : slot < k) {s t : Rn} (h : Eq2 s t) : endsS l (cutR k rs) slot s = endsS l rs slot t := by
  unfold endsS
  refine EQ.upTo_congr fun i hi => ?_
  have hp : 1 ≤ l[i].p := by
    have h1 := hv.1
    simp only [validT, Bool.and_eq_true, List.all_eq_true] at h1
    have := okT_bd (h1.1 _ (List.getElem_mem hi))
    omega
  unfold endF
  rw [relAt_cut hv, h.j, List.getElem?_eq_getElem hi]
  cases hr : relAt rs i (jobAt t i) with
  | none => rfl
  | some r =>
    simp only
    by_cases hk : r < k
    · have : (some r).filter (fun x => decide (x < k)) = some r := by simp [Option.filter, hk]
      rw [this]
    · have : (some r).filter (fun x => decide (x < k)) = none := by simp [Option.filter, hk]
      rw [this]
      simp only
      rw [if_neg (by omega)]
theorem fold_eq2 {ra rb : List (List Int)} : ∀ (es : List Int) {s t : Rn}, Eq2 s t → Eq2 (es.foldl (stepEnd l ra) s) (es.foldl (stepEnd l rb) t)
  | [], s, t, h => h
  | e :: es, s, t, h => by
    rw [List.foldl_cons, List.foldl_cons]
    refine fold_eq2 es ⟨?_, ?_⟩
    · show s.job.set _ (jobAt s _ + 1) = t.job.set _ (jobAt t _ + 1)
      rw [h.1, h.j]
    · show s.done.set _ 0 = t.done.set _ 0
      rw [h.2]
theorem begin_cut (hv : ValidS l cores rs) {k slot : Int} (hs : slot < k) {s t : Rn} (h : Eq2 s t) : Eq2 (beginS l (cutR k rs) slot s) (beginS l rs slot t) := by
  unfold beginS
  rw [ends_cut hv hs h]
  exact fold_eq2 _ h
theorem choose_cut (hv : ValidS l cores rs) {k slot : Int} (hs : slot < k) {s t : Rn} (h : Eq2 s t) : chooseS l (cutR k rs) slot cores s = chooseS l rs slot cores t := by
  have hp : ∀ i, pendS l (cutR k rs) s i slot = pendS l rs t i slot := fun i => by
    unfold pendS
    rw [relAt_cut hv, h.j, h.d]
    cases l[i]? with
    | none => rfl
    | some tk =>
      cases hr : relAt rs i (jobAt t i) with
      | none => rfl
      | some r =>
        by_cases hk : r < k
        · have : (some r).filter (fun x => decide (x < k)) = some r := by simp [Option.filter, hk]
          rw [this]
        · have : (some r).filter (fun x => decide (x < k)) = none := by simp [Option.filter, hk]
          rw [this]
          have : decide (r ≤ slot) = false := decide_eq_false (by omega)
          simp [this]
  have hc : ∀ i, candS l (cutR k rs) slot s i = candS l rs slot t i := fun i => by
    have hpi := hp i
    unfold candS
    rw [hpi, relAt_cut hv, h.j, h.d]
    cases hl : l[i]? with
    | none => rfl
    | some tk =>
      cases hr : relAt rs i (jobAt t i) with
      | none => rfl
      | some r =>
        by_cases hk : r < k
        · have : (some r).filter (fun x => decide (x < k)) = some r := by simp [Option.filter, hk]
          rw [this]
        · have : (some r).filter (fun x => decide (x < k)) = none := by simp [Option.filter, hk]
          rw [this]
          have h0 : pendS l rs t i slot = false := by
            unfold pendS
            rw [hl, hr]
            have : decide (r ≤ slot) = false := decide_eq_false (by omega)
            simp [this]
          simp [h0]
  unfold chooseS topS
  rw [EQ.upTo_congr fun i _ => hc i]
theorem sim_cut (hv : ValidS l cores rs) {k : Nat} : ∀ (n : Nat), n ≤ k → Eq2 (simTo l (cutR (k : Int) rs) cores n).1 (simTo l rs cores n).1 ∧ (simTo l (cutR (k : Int) rs) cores n).2 = (simTo l rs cores n).2
  | 0, _ => ⟨⟨rfl, rfl⟩, rfl⟩
  | n + 1, h => by
    obtain ⟨h1, h2⟩ := sim_cut (k := k) hv n (by omega)
    have hb := begin_cut hv (k := (k : Int)) (slot := (n : Int)) (by omega) h1
    have hc := choose_cut hv (k := (k : Int)) (slot := (n : Int)) (by omega) hb
    rw [simTo, simTo]
    simp only
    rw [hc, h2]
    refine ⟨⟨hb.1, ?_⟩, rfl⟩
    show List.foldl tick _ _ = List.foldl tick _ _
    rw [hb.2]
theorem cut_at (hv : ValidS l cores rs) {k U t : Nat} (hk : k ≤ U) (ht : t < k) : (simOut l (cutR (k : Int) rs) cores k)[t]? = (simOut l rs cores U)[t]? := by
  unfold simOut
  rw [(sim_cut hv k (Nat.le_refl _)).2, simOut_at ht, simOut_at (show t < U by omega)]
theorem cut_valid (hv : ValidS l cores rs) (k : Int) : ValidS l cores (cutR k rs) := by
  have hv' := hv
  obtain ⟨h1, h2, h3, h4, h5⟩ := hv
  refine ⟨h1, h2, h3, by unfold cutR; rw [List.length_map]; exact h4, fun i hi hil => ?_⟩
  have hi' : i < rs.length := by unfold cutR at hi; rw [List.length_map] at hi; exact hi
  obtain ⟨g1, g2⟩ := h5 i hi' hil
  have e : (cutR k rs)[i] = rs[i].filter fun x => decide (x < k) := List.getElem_map _
  have hle : (rs[i].filter fun x => decide (x < k)).length ≤ rs[i].length := List.length_filter_le _ _
  have hat : ∀ j (hj : j < (rs[i].filter fun x => decide (x < k)).length), ∃ hj' : j < rs[i].length, (rs[i].filter fun x => decide (x < k))[j] = rs[i][j] := fun j hj => by
    have hj' : j < rs[i].length := by omega
    refine ⟨hj', ?_⟩
    have := filter_at (k := k) (j := j) (valid_asc hv' hi')
    rw [List.getElem?_eq_getElem hj, List.getElem?_eq_getElem hj'] at this
    simp only [Option.filter] at this
    split at this
    · exact Option.some.inj this
    · cases this
  refine ⟨by rw [e]; omega, fun q hq => ?_⟩
  have hq' : q < (rs[i].filter fun x => decide (x < k)).length := by rw [← e]; exact hq
  obtain ⟨a1, a2⟩ := hat q hq'
  obtain ⟨b1, b2⟩ := g2 q a1
  have e1 : (cutR k rs)[i][q] = rs[i][q] := by simp only [e]; exact a2
  rw [e1]
  refine ⟨b1, fun hq0 => ?_⟩
  obtain ⟨c1, c2⟩ := hat (q - 1) (by omega)
  have e2 : (cutR k rs)[i][q - 1] = rs[i][q - 1] := by simp only [e]; exact c2
  rw [e2]
  exact b2 hq0
theorem cut_ok {U k : Nat} (h : okPl l cores rs (U : Int) = true) (hk : k ≤ U) : okPl l cores (cutR (k : Int) rs) (k : Int) = true := by
  obtain ⟨h1, h2, h3, h4, h5, h6⟩ := okPl_out h
  have g := great_out h1
  unfold okPl
  have a : greatP l (cutR (k : Int) rs) (k : Int) = false := great_no (by
    rintro (⟨i, hi, h9⟩ | h9 | h9 | h9)
    · have hi' : i < rs.length := by unfold cutR at hi; rw [List.length_map] at hi; exact hi
      have e : (cutR (k : Int) rs)[i] = rs[i].filter fun x => decide (x < (k : Int)) := List.getElem_map _
      rw [e] at h9
      have := List.length_filter_le (fun x => decide (x < (k : Int))) rs[i]
      have := h6 i hi'
      omega
    · omega
    · unfold cutR at h9
      rw [List.length_map] at h9
      exact g (.inr (.inr (.inl h9)))
    · omega)
  have b : validS l cores (cutR (k : Int) rs) = true := validS_yes (cut_valid (validS_out h2) _)
  rw [a, b]
  simp
/-! preemptions -/
def preL (sch : List (List Int)) (task : Int) : Nat → Int × Bool
  | 0 => (0, false)
  | t + 1 =>
    let p := preL sch task t
    match sch[t]? with
    | none => p
    | some run => (if task ∈ run ∧ p.2 = true ∧ task ∉ (sch[t - 1]?).getD [] then p.1 + 1 else p.1, p.2 || decide (task ∈ run))
theorem pre_eq {sch : List (List Int)} {task : Int} : ∀ {n : Nat}, n ≤ sch.length → (preL sch task n).1 = (preTo sch task n).1 ∧ ((preL sch task n).2 = true ↔ 0 ≤ (preTo sch task n).2) ∧ -1 ≤ (preTo sch task n).2 ∧ (preTo sch task n).2 < n ∧ (0 < n → (task ∈ (sch[n - 1]?).getD [] ↔ (preTo sch task n).2 = (n : Int) - 1))
  | 0, _ => ⟨rfl, by simp [preL, preTo], by simp [preTo], by simp [preTo], fun h => absurd h (by omega)⟩
  | n + 1, h => by
    obtain ⟨h1, h2, h3, h4, h5⟩ := pre_eq (sch := sch) (task := task) (n := n) (by omega)
    have hn : n < sch.length := by omega
    have hs : sch[n]? = some sch[n] := List.getElem?_eq_getElem hn
    rw [preL, preTo, hs]
    simp only [Nat.add_sub_cancel, hs, Option.getD_some]
    by_cases hm : task ∈ sch[n]
    · rw [if_pos hm]
      simp only [hm, true_and, decide_true, Bool.or_true]
      refine ⟨?_, ?_, ?_, ?_, fun _ => ?_⟩
      · by_cases hc : 0 ≤ (preTo sch task n).2 ∧ (preTo sch task n).2 < (n : Int) - 1
        · rw [if_pos hc, if_pos ⟨h2.2 hc.1, fun hx => by have := (h5 (by omega)).1 hx; omega⟩, h1]
        · rw [if_neg hc, if_neg (fun hx => hc ⟨h2.1 hx.1, by
            have h6 := h2.1 hx.1
            have hn0 : 0 < n := by omega
            have h7 : (preTo sch task n).2 ≠ (n : Int) - 1 := fun e => hx.2 ((h5 hn0).2 e)
            omega⟩), h1]
      · simp
      · omega
      · omega
      · exact ⟨fun _ => by omega, fun _ => by first | trivial | exact hm⟩
    · rw [if_neg hm]
      simp only [hm, false_and, if_false, decide_false, Bool.or_false]
      refine ⟨h1, h2, h3, by omega, fun _ => ⟨fun e => e.elim, fun e => by omega⟩⟩
def runsIn (sch : List (List Int)) (task : Int) : Nat → Int
  | 0 => 0
  | t + 1 => match sch[t]? with
    | none => runsIn sch task t
    | some run => if task ∈ run then runsIn sch task t + 1 else runsIn sch task t
theorem pre_runs {sch : List (List Int)} {task : Int} : ∀ (n : Nat), 0 ≤ (preTo sch task n).1 ∧ ((preTo sch task n).2 = -1 ∧ (preTo sch task n).1 = 0 ∧ runsIn sch task n = 0 ∨ 1 ≤ runsIn sch task n ∧ (preTo sch task n).1 ≤ runsIn sch task n - 1)
  | 0 => ⟨Int.le_refl _, .inl ⟨rfl, rfl, rfl⟩⟩
  | n + 1 => by
    have ih := pre_runs (sch := sch) (task := task) n
    rw [preTo, runsIn]
    cases hs : sch[n]? with
    | none => exact ih
    | some run =>
      simp only
      by_cases hm : task ∈ run
      · rw [if_pos hm, if_pos hm]
        simp only
        obtain ⟨i0, ih⟩ := ih
        rcases ih with ⟨a, b, c⟩ | ⟨a, b⟩
        · rw [if_neg (by omega)]
          exact ⟨i0, .inr ⟨by omega, by omega⟩⟩
        · split
          · exact ⟨by omega, .inr ⟨by omega, by omega⟩⟩
          · exact ⟨i0, .inr ⟨by omega, by omega⟩⟩
      · rw [if_neg hm, if_neg hm]
        exact ih
theorem runsIn_bd {sch : List (List Int)} {task : Int} : ∀ (n : Nat), 0 ≤ runsIn sch task n ∧ runsIn sch task n ≤ n
  | 0 => ⟨Int.le_refl _, Int.le_refl _⟩
  | n + 1 => by
    have := runsIn_bd (sch := sch) (task := task) n
    rw [runsIn]
    split
    · omega
    · split <;> omega
end Go.Proofs.Ytjccenbacjhglaa.SP
