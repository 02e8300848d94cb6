/- The auditor's bounds are kept. No program in sight. -/
import Derived.Test.YtjccenbacjhglaaGreatDoorAU2
set_option linter.unusedVariables false
namespace Go.Proofs.YtjccenbacjhglaaGreatDoor.AU
open Go Go.Proofs Go.RowKit Go.Proofs.YtjccenbacjhglaaGreatDoor.K Go.Proofs.YtjccenbacjhglaaGreatDoor.M Go.Proofs.YtjccenbacjhglaaGreatDoor.AU2
theorem late_k {a : Au} {d : Ev} (h : d ∈ late a) : d.k = 6 := by
  obtain ⟨i, _, hi⟩ := mem_upTo.1 h
  unfold lateF at hi
  split at hi
  · split at hi
    · obtain rfl := Option.some.inj hi; rfl
    · cases hi
  · cases hi
theorem cutoff_k {a : Au} {d : Ev} (h : d ∈ cutoff a) : d.k = 5 := by
  obtain ⟨i, _, hi⟩ := mem_upTo.1 (isort_mem h)
  unfold cutF at hi
  split at hi
  · split at hi
    · obtain rfl := Option.some.inj hi; rfl
    · cases hi
  · cases hi
theorem sel_ok {a : Au} {d : Ev} (h : d ∈ selection a) : d.k = 2 ∧ 0 ≤ d.t ∧ (M.job a d.t.toNat).isSome = true ∧ 0 ≤ d.c ∧ d.c < a.cores.toNat := by
  obtain ⟨i, hi, hx⟩ := mem_upTo.1 h
  unfold onF at hx
  split at hx
  · split at hx
    · split at hx
      · rename_i hj
        obtain rfl := Option.some.inj hx
        exact ⟨rfl, by assumption, by simp only [hj]; rfl, by simp only; omega, by simp only; omega⟩
      · cases hx
    · cases hx
  · cases hx
theorem job_lt {a : Au} {i : Nat} (h : (M.job a i).isSome = true) : i < a.js.length := by
  unfold M.job at h
  rcases Nat.lt_or_ge i a.js.length with h1 | h1
  · exact h1
  · rw [List.getElem?_eq_none h1] at h; cases h
theorem begin0_I {a : Au} {K : Int} (h : AuI a K) {s p : Int} (hs : a.slot ≤ s) (hs1 : s ≤ 100001) (hp0 : 1 ≤ p) (hp1 : p ≤ 5) : AuI (begin0 a s p) K := by
  refine ⟨h.val, h.n12, h.nj, h.nc, h.nt, ?_, hs1, ?_, hp1, h.c0, h.c1, fun i j hj => ?_, h.cnt, fun i x hx => ?_, fun _ d hd => absurd hd (List.not_mem_nil), fun _ d hd => absurd hd (List.not_mem_nil), h.k0, h.k1⟩
  · have := h.s0; show 0 ≤ s; omega
  · show 0 ≤ p; omega
  · obtain ⟨b1, b2, b3, b4, b5, b6, b7⟩ := h.job i j hj
    refine ⟨b1, ?_, b3, b4, b5, ?_, b7⟩
    · show j.rel ≤ s; omega
    · show j.ran ≤ s; omega
  · obtain ⟨b1, b2⟩ := h.last i x hx
    exact ⟨b1, by show x ≤ s; omega⟩
theorem beginA_I {a : Au} {K : Int} (h : AuI a K) {s p : Int} (hs : a.slot ≤ s) (hs1 : s ≤ 100001) (hp0 : 1 ≤ p) (hp1 : p ≤ 5) : AuI (beginA a s p) K := by
  have h0 := begin0_I h hs hs1 hp0 hp1
  refine ⟨h0.val, h0.n12, h0.nj, h0.nc, h0.nt, h0.s0, h0.s1, h0.p0, h0.p1, h0.c0, h0.c1, h0.job, h0.cnt, h0.last, fun hp d hd => ?_, fun hp d hd => ?_, h0.k0, h0.k1⟩
  · have hp' : p = 3 := hp
    have hd' : d ∈ required (begin0 a s p) := hd
    have hd2 : d ∈ selection (begin0 a s p) := by
      unfold required at hd'
      rw [if_neg (show ¬ (begin0 a s p).phase = 1 by show ¬ p = 1; omega), if_pos (show (begin0 a s p).phase = 3 from hp')] at hd'
      exact hd'
    obtain ⟨b1, b2, b3, b4, b5⟩ := sel_ok hd2
    have hlt := job_lt b3
    have hnj : (begin0 a s p).js.length = a.l.length := h0.nj
    have hc0 : 1 ≤ a.cores := h.c0
    have e1 : (begin0 a s p).cores = a.cores := rfl
    rw [e1] at b5
    exact ⟨b1, b2, by show d.t < (a.l.length : Int); omega, b3, b4, by show d.c < a.cores; omega⟩
  · have hp' : p ≠ 3 := hp
    have hd' : d ∈ required (begin0 a s p) := hd
    unfold required at hd'
    split at hd'
    · rw [late_k hd']; decide
    · rw [if_neg (show ¬ (begin0 a s p).phase = 3 from hp')] at hd'
      split at hd'
      · rw [cutoff_k hd']; decide
      · exact absurd hd' (List.not_mem_nil)
theorem AuI.up {a : Au} {K K' : Int} (h : AuI a K) (hk : K ≤ K') (hk1 : K' ≤ 1000000000000000) : AuI a K' := by
  refine ⟨h.val, h.n12, h.nj, h.nc, h.nt, h.s0, h.s1, h.p0, h.p1, h.c0, h.c1, fun i j hj => ?_, fun i x hx => ?_, h.last, h.due3, h.dueN, ?_, hk1⟩
  · obtain ⟨b1, b2, b3, b4, b5⟩ := h.job i j hj
    exact ⟨b1, b2, b3, by omega, b5⟩
  · have := h.cnt i x hx; omega
  · have := h.k0; omega
theorem job_set {a : Au} {i k : Nat} {o : Option Jb} {b : Au} (hb : b.js = a.js.set i o) (hi : i < a.js.length) : M.job b k = if k = i then o else M.job a k := by
  unfold M.job
  rw [hb, List.getElem?_set]
  by_cases h : i = k
  · subst h; simp [hi]
  · rw [if_neg h, if_neg (Ne.symm h)]
theorem js_set {js : List (Option Jb)} {i k : Nat} {o : Option Jb} {j : Jb} (h : (js.set i o)[k]? = some (some j)) : o = some j ∨ js[k]? = some (some j) := by
  rw [List.getElem?_set] at h
  split at h
  · split at h
    · exact .inl (Option.some.inj h)
    · cases h
  · exact .inr h
theorem next_I {a b : Au} {K : Int} {e : Ev} (h : AuI a K) (hk : K + 1 ≤ 1000000000000000) (ht : e.t.toNat < a.js.length) (hn : next a e = some b) : AuI b (K + 1) ∧ b.l = a.l ∧ b.slot = a.slot ∧ b.phase = a.phase := by
  have h' := h.up (show K ≤ K + 1 by omega) hk
  unfold next at hn
  split at hn
  · cases hn
  · rename_i d ds hd
    split at hn
    · cases hn
    · rename_i he
      have he := Decidable.not_not.1 he
      have hdm : ∀ x, x ∈ ds → x ∈ a.due := fun x hx => by rw [hd]; exact List.mem_cons_of_mem _ hx
      have hd0 : d ∈ a.due := by rw [hd]; exact List.mem_cons_self ..
      have hek : e.k = d.k := by rw [he]
      have het : e.t = d.t := by rw [he]
      have hec : e.c = d.c := by rw [he]
      split at hn
      · rename_i hk2
        obtain rfl := Option.some.inj hn
        refine ⟨⟨h'.val, h'.n12, by simp only [List.length_set]; exact h'.nj, h'.nc, h'.nt, h'.s0, h'.s1, h'.p0, h'.p1, h'.c0, h'.c1, fun i j hj => ?_, h'.cnt, h'.last, fun hp x hx => ?_, fun hp x hx => h'.dueN hp x (hdm x hx), h'.k0, h'.k1⟩, rfl, rfl, rfl⟩
        · rcases js_set hj with h1 | h1
          · cases h1
          · exact h'.job i j h1
        · exact absurd ((h.due3 hp d hd0).1) (by omega)
      · rename_i hk2
        split at hn
        · rename_i j hj
          obtain rfl := Option.some.inj hn
          have hph : a.phase = 3 := Decidable.byContradiction fun hne => h.dueN hne d hd0 (by omega)
          obtain ⟨_, _, _, _, hc1, hc2⟩ := h.due3 hph d hd0
          obtain ⟨b1, b2, b3, b4, b5, b6, b7⟩ := h.job _ j (job_some hj)
          have hs0 := h.s0
          refine ⟨⟨h'.val, h'.n12, by simp only [List.length_set]; exact h'.nj, h'.nc, h'.nt, h'.s0, h'.s1, h'.p0, h'.p1, h'.c0, h'.c1, fun i j' hj' => ?_, h'.cnt, h'.last, fun hp x hx => ?_, fun hp x hx => h'.dueN hp x (hdm x hx), h'.k0, h'.k1⟩, rfl, rfl, rfl⟩
          · rcases js_set hj' with h1 | h1
            · obtain rfl := Option.some.inj h1
              simp only
              omega
            · exact h'.job i j' h1
          · obtain ⟨c1, c2, c3, c4, c5⟩ := h'.due3 hp x (hdm x hx)
            refine ⟨c1, c2, c3, ?_, c5⟩
            rw [job_set (a := a) rfl ht]
            split
            · rfl
            · exact c4
        · cases hn
theorem release_I {a b : Au} {K : Int} {e : Ev} (h : AuI a K) (hk : K + 1 ≤ 1000000000000000) (ht : e.t.toNat < a.js.length) (hn : release a e = some b) : AuI b (K + 1) ∧ b.l = a.l ∧ b.slot = a.slot ∧ b.phase = a.phase := by
  have h' := h.up (show K ≤ K + 1 by omega) hk
  unfold release at hn
  simp only at hn
  split at hn
  · cases hn
  · obtain rfl := Option.some.inj hn
    have hc : 0 ≤ cntAt a e.t.toNat ∧ cntAt a e.t.toNat ≤ K := by
      unfold cntAt
      cases hx : a.cnt[e.t.toNat]? with
      | none => have := h.k0; exact ⟨Int.le_refl _, this⟩
      | some x => exact h.cnt _ x hx
    have hs0 := h.s0
    have hc0 := h.c0
    have hk0 := h.k0
    refine ⟨⟨h'.val, h'.n12, by simp only [List.length_set]; exact h'.nj, by simp only [List.length_set]; exact h'.nc, by simp only [List.length_set]; exact h'.nt, h'.s0, h'.s1, h'.p0, h'.p1, h'.c0, h'.c1, fun i j' hj' => ?_, fun i x hx => ?_, fun i x hx => ?_, fun hp x hx => ?_, h'.dueN, h'.k0, h'.k1⟩, rfl, rfl, rfl⟩
    · rcases js_set hj' with h1 | h1
      · obtain rfl := Option.some.inj h1
        simp only
        omega
      · exact h'.job i j' h1
    · simp only at hx
      rw [List.getElem?_set] at hx
      split at hx
      · split at hx
        · obtain rfl := Option.some.inj hx; omega
        · cases hx
      · exact h'.cnt i x hx
    · simp only at hx
      rw [List.getElem?_set] at hx
      split at hx
      · split at hx
        · obtain rfl := Option.some.inj hx; exact ⟨hs0, Int.le_refl _⟩
        · cases hx
      · exact h'.last i x hx
    · obtain ⟨c1, c2, c3, c4, c5⟩ := h'.due3 hp x hx
      refine ⟨c1, c2, c3, ?_, c5⟩
      rw [job_set (a := a) rfl ht]
      split
      · rfl
      · exact c4
theorem run_I {a b : Au} {K : Int} {e : Ev} (h : AuI a K) (hk : K + 1 ≤ 1000000000000000) (hp4 : a.phase = 4) (hn : run a e = some b) : AuI b (K + 1) ∧ b.l = a.l ∧ b.slot = a.slot ∧ b.phase = a.phase := by
  have h' := h.up (show K ≤ K + 1 by omega) hk
  unfold run at hn
  split at hn
  · cases hn
  · split at hn
    · cases hn
    · obtain rfl := Option.some.inj hn
      split
      · refine ⟨⟨h'.val, h'.n12, by simp only [List.length_set]; exact h'.nj, h'.nc, h'.nt, h'.s0, h'.s1, h'.p0, h'.p1, h'.c0, h'.c1, fun i j' hj' => ?_, h'.cnt, h'.last, fun hp x hx => ?_, h'.dueN, h'.k0, h'.k1⟩, rfl, rfl, rfl⟩
        · rcases js_set hj' with h1 | h1
          · cases h1
          · exact h'.job i j' h1
        · have hp' : a.phase = 3 := hp; omega
      · exact ⟨h', rfl, rfl, rfl⟩
theorem accept_I {a b : Au} {K : Int} {e : Ev} {p : Int} (h : AuI a K) (hk : K + 1 ≤ 1000000000000000) (ht : e.t.toNat < a.js.length) (hp : a.phase = p) (hn : accept p a e = some b) : AuI b (K + 1) ∧ b.l = a.l ∧ b.slot = a.slot ∧ b.phase = a.phase := by
  unfold accept at hn
  split at hn
  · exact release_I h hk ht hn
  · split at hn
    · exact run_I h hk (by omega) hn
    · exact next_I h hk ht hn
/-- Where an advance stands. -/
theorem adv_I {s p : Int} (hp0 : 1 ≤ p) (hp1 : p ≤ 5) (hs1 : s ≤ 100001) : ∀ (n : Nat) (a : Au) (K : Int), AuI a K → 1 ≤ a.phase → a.slot ≤ s → (a.slot = s → a.phase ≤ p) → n = advM a s → AuI (adv n a s p).1 K ∧ (adv n a s p).1.l = a.l ∧ ((adv n a s p).2 = 0 → (adv n a s p).1.slot = s ∧ (adv n a s p).1.phase = p) ∧ 0 ≤ (adv n a s p).2 ∧ 1 ≤ (adv n a s p).1.phase ∧ (adv n a s p).1.slot ≤ s
  | 0, a, K, h, hph, hs, hsp, hn => by
    have hp5 := h.p1
    unfold advM at hn
    refine ⟨h, rfl, fun _ => ?_, Int.le_refl _, hph, hs⟩
    show a.slot = s ∧ a.phase = p
    omega
  | n + 1, a, K, h, hph, hs, hsp, hn => by
    have hp5 := h.p1
    have hp00 := h.p0
    unfold advM at hn
    rw [adv]
    split
    · rename_i hc
      split
      · exact ⟨h, rfl, fun e => by simp only at e; omega, by simp only; omega, hph, hs⟩
      · split
        · rename_i h5
          have hI := beginA_I h (Int.le_refl _) h.s1 (show 1 ≤ a.phase + 1 by omega) (by omega)
          exact adv_I hp0 hp1 hs1 n (beginA a a.slot (a.phase + 1)) K hI (show 1 ≤ a.phase + 1 by omega) hs (fun e => by show a.phase + 1 ≤ p; have e' : a.slot = s := e; omega) (by unfold advM; show n = (5 * (s - a.slot) + (5 - (a.phase + 1))).toNat; omega)
        · rename_i h5
          have hlt : a.slot < s := by omega
          have hI := beginA_I h (show a.slot ≤ a.slot + 1 by omega) (by omega) (Int.le_refl 1) (by omega)
          exact adv_I hp0 hp1 hs1 n (beginA a (a.slot + 1) 1) K hI (Int.le_refl 1) (show a.slot + 1 ≤ s by omega) (fun e => hp0) (by unfold advM; show n = (5 * (s - (a.slot + 1)) + (5 - 1)).toNat; omega)
    · rename_i hc
      refine ⟨h, rfl, fun _ => ?_, Int.le_refl _, hph, hs⟩
      show a.slot = s ∧ a.phase = p
      omega
end Go.Proofs.YtjccenbacjhglaaGreatDoor.AU
