import Derived.Test.YtjccenbacjhglaaProg
import Derived.Test.YtjccenbacjhglaaK
import Derived.Test.YtjccenbacjhglaaM
import Derived.Test.YtjccenbacjhglaaIS
import Derived.Test.YtjccenbacjhglaaM2
import Derived.Test.YtjccenbacjhglaaMS
import Derived.Test.YtjccenbacjhglaaPF
import Derived.Test.YtjccenbacjhglaaSO
import Derived.Test.YtjccenbacjhglaaAU
import Derived.Test.YtjccenbacjhglaaR1
import Derived.Test.YtjccenbacjhglaaR2
import Derived.Test.YtjccenbacjhglaaR3
import Derived.Test.YtjccenbacjhglaaS1
import Derived.Test.YtjccenbacjhglaaS2
import Derived.Test.YtjccenbacjhglaaS3
import Derived.Test.YtjccenbacjhglaaS4
import Derived.Test.YtjccenbacjhglaaS5
set_option linter.unusedVariables false
set_option linter.unusedSimpArgs false
set_option maxRecDepth 100000
set_option maxHeartbeats 1000000
namespace Go.Proofs.Ytjccenbacjhglaa.S6
open Go Go.Proofs Go.RowKit Go.Proofs.Ytjccenbacjhglaa.K Go.Proofs.Ytjccenbacjhglaa.M Go.Proofs.Ytjccenbacjhglaa.PF Go.Proofs.Ytjccenbacjhglaa.SO Go.Proofs.Ytjccenbacjhglaa.AU Go.Proofs.Ytjccenbacjhglaa.R1 Go.Proofs.Ytjccenbacjhglaa.R2 Go.Proofs.Ytjccenbacjhglaa.R3 Go.Proofs.Ytjccenbacjhglaa.S1 Go.Proofs.Ytjccenbacjhglaa.S2 Go.Proofs.Ytjccenbacjhglaa.S3 Go.Proofs.Ytjccenbacjhglaa.S4 Go.Proofs.Ytjccenbacjhglaa.S5
theorem f96_3 : Fld Try.prog 96 3 3 := ⟨_, _, Try.underlying96, rfl, rfl, 0, by kernel_rfl⟩
theorem f96_4 : Fld Try.prog 96 4 4 := ⟨_, _, Try.underlying96, rfl, rfl, 0, by kernel_rfl⟩
theorem fn41 : Fnc Try.prog 41 := ⟨by kernel_rfl⟩
theorem fn42 : Fnc Try.prog 42 := ⟨by kernel_rfl⟩
theorem fn43 : Fnc Try.prog 43 := ⟨by kernel_rfl⟩
theorem fn54 : Fnc Try.prog 54 := ⟨by kernel_rfl⟩
theorem mix : Try.prog.follows .mixedOrders = true := by kernel_rfl
theorem o3 : One Try.prog 3 := ⟨_, Try.underlying3, rfl, by kernel_rfl⟩
theorem o37 : One Try.prog 37 := ⟨_, Try.underlying37, rfl, by kernel_rfl⟩
theorem o46 : One Try.prog 46 := ⟨_, Try.underlying46, rfl, by kernel_rfl⟩
theorem s22 : Slc Try.prog 22 62 3 32 [.string ⟨#[]⟩, .int .i64 0, .int .i64 0] := ⟨Try.underlying22, by kernel_rfl, rfl⟩
theorem s37 : Slc Try.prog 37 3 1 8 [.int .i64 0] := ⟨Try.underlying37, by kernel_rfl, rfl⟩
theorem s42 : Slc Try.prog 42 37 1 24 [.slice none 0 0] := ⟨Try.underlying42, by kernel_rfl, rfl⟩
theorem s45 : Slc Try.prog 45 37 1 24 [.slice none 0 0] := ⟨Try.underlying45, by kernel_rfl, rfl⟩

/-- A schedule in blocks of the call's own: the slice's block, and those of the rows. -/
def SchO (v : Value) (rs : List (List Int)) (Lo Lr : List Blk) : Prop := ∃ vs : List Value, vs.length = rs.length ∧ OS 37 1 v (vs.flatMap eV) vs.length Lo ∧ ∀ i (h1 : i < vs.length) (h2 : i < rs.length), ∃ Li, OS 3 1 vs[i] (rs[i].flatMap eI) rs[i].length Li ∧ ∀ x ∈ Li, x ∈ Lr
theorem SchO.rd2 {v : Value} {rs : List (List Int)} {Lo Lr : List Blk} (h : SchO v rs Lo Lr) (hn : rs.length ≤ 1000000) (hb : ∀ r ∈ rs, r.length ≤ 1000000) {w0 we w : World} {Le L : List Blk} (hz : Z w0 we Le L w) (h1 : ∀ x ∈ Lo, x ∈ L) (h2 : ∀ x ∈ Lr, x ∈ L) : Rd2 w v rs := by
  obtain ⟨vs, hl, hO, hR⟩ := h
  refine ⟨vs, hl, OS.rd (enc := eV) (xs := vs) (fun _ => rfl) hO (by omega) hz h1, fun i a b => ?_⟩
  obtain ⟨Li, hi, hs⟩ := hR i a b
  have := hb _ (List.getElem_mem b)
  exact OS.rd eI_len hi (by omega) hz fun x hx => h2 x (hs x hx)
theorem SchO.snoc {v : Value} {rs : List (List Int)} {r : List Int} {vs : List Value} {u : Value} {Lo Lr Lu : List Blk} (hl : vs.length = rs.length) (hR : ∀ i (h1 : i < vs.length) (h2 : i < rs.length), ∃ Li, OS 3 1 vs[i] (rs[i].flatMap eI) rs[i].length Li ∧ ∀ x ∈ Li, x ∈ Lr) (hO : OS 37 1 v (vs.flatMap eV ++ eV u) (vs.length + 1) Lo) (hu : OS 3 1 u (r.flatMap eI) r.length Lu) : SchO v (rs ++ [r]) Lo (Lr ++ Lu) := by
  refine ⟨vs ++ [u], by simp [hl], OS.snoc hO, fun i h1 h2 => ?_⟩
  rcases Nat.lt_or_ge i vs.length with h3 | h3
  · obtain ⟨Li, a, b⟩ := hR i h3 (by omega)
    refine ⟨Li, ?_, fun x hx => List.mem_append_left _ (b x hx)⟩
    rw [List.getElem_append_left h3, List.getElem_append_left (by omega)]
    exact a
  · simp only [List.length_append, List.length_singleton] at h1
    obtain rfl : i = vs.length := by omega
    refine ⟨Lu, ?_, fun x hx => List.mem_append_right _ hx⟩
    have e1 : (vs ++ [u])[vs.length] = u := by simp
    have e2 : (rs ++ [r])[vs.length] = r := by simp [hl]
    rw [e1, e2]
    exact hu
theorem roll2 {X Y Z1 W1 : List Blk} {a b c : Blk} {w0 we w : World} {Le : List Blk} (h : Z w0 we Le (X ++ (a :: b :: c :: (Y ++ (Z1 ++ W1)))) w) : Z w0 we Le (a :: b :: c :: (Y ++ (Z1 ++ (W1 ++ X)))) w := by
  refine h.perm (mv3.trans ((((?_ : (X ++ (Y ++ (Z1 ++ W1))).Perm (Y ++ (Z1 ++ (W1 ++ X)))).cons c).cons b).cons a))
  refine List.perm_append_comm.trans ?_
  simp only [List.append_assoc]; exact .refl _
theorem roll3 {X Y Z1 : List Blk} {a b c : Blk} {w0 we w : World} {Le : List Blk} (h : Z w0 we Le (X ++ (a :: b :: c :: (Y ++ Z1))) w) : Z w0 we Le (a :: b :: c :: (Y ++ (X ++ Z1))) w := by
  refine h.perm (mv3.trans ((((?_ : (X ++ (Y ++ Z1)).Perm (Y ++ (X ++ Z1))).cons c).cons b).cons a))
  rw [← List.append_assoc, ← List.append_assoc]
  exact List.perm_append_comm.append_right _
theorem choose_mem {l : List Tk} {rs : List (List Int)} {s : Rn} {slot cores : Int} {e : Int} (h : e ∈ chooseS l rs slot cores s) : 0 ≤ e ∧ e.toNat < l.length ∧ pendS l rs s e.toNat slot = true := by
  have h1 := isort_mem h
  obtain ⟨x, hx, rfl⟩ := List.mem_map.1 h1
  have h2 := isort_mem (List.mem_of_mem_take hx)
  obtain ⟨i, hi, hf⟩ := mem_upTo.1 h2
  unfold candS at hf
  split at hf
  · split at hf
    · rename_i hc
      obtain rfl := Option.some.inj hf
      exact ⟨by simp only; omega, by simpa using hi, by simpa using hc.1⟩
    · cases hf
  · cases hf
theorem choose_len {l : List Tk} {rs : List (List Int)} {s : Rn} {slot cores : Int} : (chooseS l rs slot cores s).length ≤ l.length ∧ (chooseS l rs slot cores s).length ≤ cores.toNat := by
  unfold chooseS topS
  rw [isort_len, List.length_map, List.length_take, isort_len]
  have := upTo_len (candS l rs slot s) l.length
  omega
theorem tick_len (d : List Int) (i : Int) : (tick d i).length = d.length := by simp [tick]
theorem ticks_len : ∀ (run d : List Int), (run.foldl tick d).length = d.length
  | [], d => rfl
  | i :: run, d => by rw [List.foldl_cons, ticks_len run, tick_len]
def atI (d : List Int) (i : Nat) : Int := (d[i]?).getD 0
theorem tick_at (d : List Int) (e : Int) (i : Nat) : atI (tick d e) i = if i = e.toNat ∧ i < d.length then atI d i + 1 else atI d i := by
  unfold atI tick
  rw [List.getElem?_set]
  by_cases h : e.toNat = i
  · subst h
    by_cases h2 : e.toNat < d.length
    · simp [h2]
    · simp [h2]
  · rw [if_neg h, if_neg (fun x => h x.1.symm)]
theorem ticks_bd : ∀ (run d : List Int) (K : Int), (∀ i, 0 ≤ atI d i ∧ atI d i ≤ K) → ∀ i, 0 ≤ atI (run.foldl tick d) i ∧ atI (run.foldl tick d) i ≤ K + run.length
  | [], d, K, h, i => by simpa using h i
  | e :: run, d, K, h, i => by
    rw [List.foldl_cons]
    have := ticks_bd run (tick d e) (K + 1) (fun j => by
      rw [tick_at]
      have := h j
      split <;> omega) i
    simp only [List.length_cons]
    omega
theorem run_I {l : List Tk} {rs : List (List Int)} {s : Rn} {K N K' : Nat} {run : List Int} (h : RnI l rs s K N) (hK : K + run.length ≤ K') (hK1 : K' ≤ 1000000) : RnI l rs (runS s run) K' N := by
  refine ⟨h.val, h.len, h.inI, h.rel0, h.nj, by show (run.foldl tick s.done).length = _; rw [ticks_len]; exact h.nd, h.job, fun i => ?_, h.ms, hK1, h.n1⟩
  have := ticks_bd run s.done (K : Int) h.done i
  show 0 ≤ atI (run.foldl tick s.done) i ∧ atI (run.foldl tick s.done) i ≤ (K' : Int)
  omega
theorem valid_RnI {l : List Tk} {cores : Int} {rs : List (List Int)} (h : validS l cores rs = true) (hR : inI rs) : RnI l rs (newS l.length) 0 0 ∧ 1 ≤ cores ∧ cores ≤ 8 := by
  obtain ⟨a, b, c, d, e⟩ := validS_out h
  exact ⟨newS_I a d hR fun i h k hk => ((e i h (by omega)).2 k hk).1, b, c⟩
theorem simTo_I {l : List Tk} {cores : Int} {rs : List (List Int)} (h : validS l cores rs = true) (hR : inI rs) : ∀ n, n ≤ 1000 → l.length ≤ 12 → RnI l rs (simTo l rs cores n).1 (12 * n) (40 * n) → True := fun _ _ _ _ => trivial


theorem os0i {b : Nat} : OS 37 1 (.slice (some ⟨b, 0, none⟩) 0 0) [] 0 [(b, .cells #[] 37 (0, 0))] :=
  ⟨rfl, .inr ⟨b, 0, _, rfl, rfl, Nat.le_refl _, by decide, rfl, rfl⟩⟩

theorem simulate_calls (w : World) (lv rv : Value) (l : List Tk) (cores : Int) (rs : List (List Int)) (U : Nat) (hl : Rd encT 3 w lv l) (hr : Rd2 w rv rs) (hR : inI rs) (hv : validS l cores rs = true) (h12 : l.length ≤ 12) (hU : U ≤ 1000) : Calls Try.prog 37 #[lv, .int .i64 cores, rv, .int .i64 (U : Int)] w fun e w' => ∃ v L', e = .returned v ∧ Z w w [] L' w' ∧ ∃ ov mv Lo Lr Lm, v = .tuple #[ov, mv, .int .i64 0] ∧ L' = Lm ++ (Lo ++ Lr) ∧ SchO ov (simOut l rs cores U) Lo Lr ∧ OS 99 3 mv ((simMs l rs cores U).flatMap encM) (simMs l rs cores U).length Lm ∧ (simOut l rs cores U).length = U ∧ (simMs l rs cores U).length ≤ 100000 := by
  obtain ⟨lA, lc, rfl⟩ : ∃ A c, lv = .slice A l.length c := by obtain ⟨A, c, h, _⟩ := hl; exact ⟨A, c, h⟩
  obtain ⟨rA, rc, rfl⟩ := hr.len
  obtain ⟨hI0, hc0, hc1⟩ := valid_RnI hv hR
  refine enter (args := [_, _, _, _]) Try.func37 rfl rfl rfl (C := Z w w [] []) (Z.start (H.nil w)) ?_
  refine .seq (.reg (.q (.assign rfl) (.q (.assign rfl) (.q (.assign rfl) (.nil (.code ?_))))))
  refine .seq (.seq (.reg (.q (.move rfl) (.q (.move rfl) (.q (.move rfl) (.q (.call (v := .bool true) fn41 rfl (fun w hz => by have h9 := svalid_calls w _ _ l cores rs (hl.below hz.h.below) (hr.below hz.h.below) hR; rw [hv] at h9; exact h9)) (.q (.notB rfl) (.nil (.code ?_)))))))))
  refine .ff (.skip (.code ?_))
  refine .seq (.seq (.reg (.q (.move rfl) (.q (.cmp rfl rfl (ltF (by omega))) (.q (.move rfl) (.q (.move rfl) (.q (.cmp rfl rfl (gtF (by omega))) (.q (.pickF rfl rfl) (.nil (.code ?_))))))))))
  refine .ff (.skip (.code ?_))
  refine .seq (.reg (.q (.move rfl) (.q (.move rfl) (.callA fn42 rfl (fun w hz => newRunner_calls w _ _ _ l.length rs.length _ (by omega)) fun v30 L30 p30 => ?_))))
  obtain ⟨R, J, D, rfl, rfl⟩ := p30
  refine .bslice s45 rfl rfl rfl fun b31 => .q (.assign rfl) (.q (.assign rfl) (.nil (.code ?_)))
  refine .seq (.seq (.reg (.q (.move rfl) (.q (.move rfl) (.nil (.code ?_))))))
  refine .block (.lp (fun z : Nat × Rn × Value × List Blk × Value × List Blk × List Blk => [(1, .int .i64 cores), (3, .int .i64 (U : Int)), (11, .pointer (some ⟨R, 0, none⟩)), (12, z.2.2.2.2.1), (32, .int .i64 (U : Int)), (33, .int .i64 (z.1 : Int))]) (fun z => BN R J D (.slice lA l.length lc) (.slice rA rs.length rc) z.2.2.1 l.length (z.2.2.2.1 ++ (z.2.2.2.2.2.1 ++ z.2.2.2.2.2.2)) z.2.1) (fun z => z.1 ≤ U ∧ z.2.1 = (simTo l rs cores z.1).1 ∧ RnI l rs z.2.1 (12 * z.1) (40 * z.1) ∧ OS 99 3 z.2.2.1 (z.2.1.ms.flatMap encM) z.2.1.ms.length z.2.2.2.1 ∧ SchO z.2.2.2.2.1 (simTo l rs cores z.1).2 z.2.2.2.2.2.1 z.2.2.2.2.2.2 ∧ (simTo l rs cores z.1).2.length = z.1) (fun z => U - z.1) (0, newS l.length, .slice none 0 0, [], .slice (some ⟨b31, 0, none⟩) 0 0, [(b31, .cells #[] 37 (0, 0))], []) ⟨rfl, rfl, rfl, rfl, rfl, rfl, trivial⟩ (fun _ h => h.perm (List.perm_append_singleton (b31, _) (BN R J D (.slice lA l.length lc) (.slice rA rs.length rc) (.slice none 0 0) l.length [] (newS l.length))).symm) ⟨Nat.zero_le _, rfl, hI0, OS.nil _ _, ⟨[], rfl, os0i, fun i h => absurd h (by simp)⟩, rfl⟩ fun ⟨n, s, mv, Lm, ov, Lo, Lr⟩ hk => ?_)
  obtain ⟨hk1, hk2, hk3, hk4, hk5, hk6⟩ := hk
  simp only at hk1 hk2 hk3 hk4 hk5 hk6
  obtain ⟨vs, hvl, hvO, hvR⟩ := id hk5
  show WC _ _ _ _ (Z w w _ (BN R J D (.slice lA l.length lc) (.slice rA rs.length rc) mv l.length (Lm ++ (Lo ++ Lr)) s)) _
  refine .seq (.reg (.ltS rfl rfl (fun h34 => ?_) (fun h34 => ?_)))
  · have hnU : n < U := by omega
    refine .nil (.code ?_)
    refine .seq (.tt (.skip (.code ?_)))
    refine .seq (.block (.seq (.reg (.q (.move rfl) (.q (.assign rfl) (.nil (.code ?_)))))))
    refine .seq (.reg (.q (.move rfl) (.q (.move rfl) (.callM (Lm := BN R J D (.slice lA l.length lc) (.slice rA rs.length rc) mv l.length Lm s) (Lr := Lo ++ Lr) fn43 rfl (.refl _) (fun w1 hH => begin_calls w w1 R J D _ _ mv Lm l rs s (12 * n) (40 * n) (n : Int) hH hl hr hk3 hk4 (by omega) (by omega) (by omega)) fun v38 L38 p38 => (?_)))))
    obtain ⟨mv1, Lm1, rfl, hO1, hI1⟩ := p38
    obtain ⟨s1, hs1⟩ : ∃ x, x = beginS l rs (n : Int) s := ⟨_, rfl⟩
    rw [← hs1] at hO1 hI1 ⊢
    obtain ⟨run, hrun⟩ : ∃ x, x = chooseS l rs (n : Int) cores s1 := ⟨_, rfl⟩
    have hsimE : simTo l rs cores (n + 1) = (runS s1 run, (simTo l rs cores n).2 ++ [run]) := by rw [simTo, ← hk2, ← hs1, ← hrun]
    have hsim1 : runS s1 run = (simTo l rs cores (n + 1)).1 := by rw [hsimE]
    have hsim2 : (simTo l rs cores (n + 1)).2 = (simTo l rs cores n).2 ++ [run] := by rw [hsimE]
    refine .nil (.code ?_)
    refine .seq (.reg (?_))
    refine .world (C' := Z w w _ (BN R J D (.slice lA l.length lc) (.slice rA rs.length rc) mv1 l.length (Lm1 ++ (Lo ++ Lr)) s1)) ?_ (fun _ h => h)
    refine .q (.move rfl) (.q (.move rfl) (.q (.move rfl) (.callA fn54 rfl (fun w hz => choose_calls w R J D _ _ mv1 l rs s1 (12 * n) (40 * n + 40) ⟨hz.has (i := 0) rfl, hz.has (i := 1) rfl, hz.has (i := 2) rfl⟩ (hl.below hz.h.below) (hr.below hz.h.below) hI1 h12 (n : Int) cores (by omega) (by omega) hc0 hc1) fun v42 L42 p42 => ?_)))
    rw [← hrun] at p42
    obtain ⟨uA, uc, rfl⟩ := OS.form p42
    have hrl := choose_len (l := l) (rs := rs) (s := s1) (slot := (n : Int)) (cores := cores)
    rw [← hrun] at hrl
    refine ?_
    refine .world ?_ (fun _ h => roll2 h)
    refine .q (.assign rfl) (.nil (.code ?_))
    refine .seq (.seq (.reg (.q (.move rfl) (.q (.lenS s37.t rfl) (.q (.move rfl) (.nil (.code ?_)))))))
    refine .block (.lp (fun z : Nat × List Int => [(1, .int .i64 cores), (3, .int .i64 (U : Int)), (11, .pointer (some ⟨R, 0, none⟩)), (12, ov), (32, .int .i64 (U : Int)), (33, .int .i64 (n : Int)), (14, .slice uA run.length uc), (43, .slice uA run.length uc), (44, .int .i64 (run.length : Int)), (45, .int .i64 (z.1 : Int))]) (fun z => BN R J D (.slice lA l.length lc) (.slice rA rs.length rc) mv1 l.length (Lm1 ++ (Lo ++ (Lr ++ L42))) { s1 with done := z.2 }) (fun z => z.1 ≤ run.length ∧ z.2 = (run.take z.1).foldl tick s1.done ∧ ∀ i, 0 ≤ atI z.2 i ∧ atI z.2 i ≤ (12 * n + z.1 : Nat)) (fun z => run.length - z.1) (0, s1.done) ⟨rfl, rfl, rfl, rfl, rfl, rfl, rfl, rfl, rfl, rfl, trivial⟩ (fun _ h => h) ⟨Nat.zero_le _, rfl, hI1.done⟩ fun ⟨q, d⟩ hq => ?_)
    obtain ⟨hq1, hq2, hq3⟩ := hq
    simp only at hq1 hq2 hq3
    have hdl : d.length = l.length := by rw [hq2, ticks_len]; exact hI1.nd
    show WC _ _ _ _ (Z w w _ (BN R J D (.slice lA l.length lc) (.slice rA rs.length rc) mv1 l.length (Lm1 ++ (Lo ++ (Lr ++ L42))) { s1 with done := d })) _
    refine .seq (.reg (.ltS rfl rfl (fun h46 => ?_) (fun h46 => ?_)))
    · have hqr : q < run.length := by omega
      obtain ⟨cb, cc2, hce, hcr⟩ := OS.read eI_len p42 hqr
      cases hce
      obtain ⟨he0, he1, hpd⟩ := choose_mem (e := run[q]) (l := l) (rs := rs) (s := s1) (slot := (n : Int)) (cores := cores) (by rw [← hrun]; exact List.getElem_mem hqr)
      have hid : run[q].toNat < d.length := by omega
      have hdb := hq3 run[q].toNat
      have hda : atI d run[q].toNat = d[run[q].toNat] := by unfold atI; rw [List.getElem?_eq_getElem hid]; rfl
      refine .nil (.code ?_)
      refine .seq (.tt (.skip (.code ?_)))
      refine .seq (.block (.seq (.reg (.q (.ix s37 rfl rfl (by omega)) (.q (.ld (v := .int .i64 ((run[q].toNat : Nat) : Int)) o3 rfl (fun w1 hz => by rw [Int.toNat_of_nonneg he0]; exact hcr _ _ w1 _ _ hz (fun x hx => List.mem_cons_of_mem _ (List.mem_cons_of_mem _ (List.mem_cons_of_mem _ (List.mem_append_right _ (List.mem_append_right _ (List.mem_append_right _ hx)))))) 0 (by omega))) (.q (.assign rfl) (.nil (.code ?_))))))))
      refine .reg (.q (.move rfl) (.q (.nilP rfl) (.q (.fld f96_3 rfl) (.q (.ldO o37 0 rfl rfl rfl) (.q (.move rfl) (.q (.ix s37 rfl rfl (by omega)) (.q (.ldO (v := .int .i64 (atI d run[q].toNat)) o3 2 rfl rfl (by rw [Nat.zero_add, Nat.mul_one]; show (d.map intV)[run[q].toNat]? = _; rw [List.getElem?_map, atI, List.getElem?_eq_getElem hid]; rfl)) (.q (.add rfl rfl (IntWalk.i64_in _ (by omega))) (.q (.ix s37 rfl rfl (by omega)) (.st o3 2 rfl rfl rfl rfl (by show Nat.blt _ (d.map intV).length = true; simp [Nat.blt_eq]; omega) (?_)))))))))))
      rw [S3.int_set]
      refine .nil (.inbN (.code ?_))
      refine .reg (.q (.add rfl rfl (IntWalk.i64_in _ (by omega))) (.q (.move rfl) (.nil (.rd (q + 1, tick d run[q]) ⟨rfl, rfl, rfl, rfl, rfl, rfl, rfl, rfl, rfl, rfl, trivial⟩ (fun _ h => h) ⟨by simp only; omega, by simp only; rw [fold_snoc hqr, ← hq2], fun i => by have := hq3 i; simp only; rw [tick_at]; split <;> omega⟩ (by simp only; omega)))))
    · have hdE : d = run.foldl tick s1.done := by rw [hq2, List.take_of_length_le (by omega)]
      subst hdE
      refine .nil (.code ?_)
      refine .seq (.ff (.exit (.thE (.thE (.inbX (.code ?_))))))
      refine .reg (.q (.move rfl) (.q (.move rfl) (.bslice s45 rfl rfl rfl fun b61 => .app1 s45 (by omega) (by omega) rfl rfl hvO (pkC (pkC (pkC (pkA (.refl _))))) (by rfl) (show ∀ u ∈ [Value.slice uA run.length uc], u.oneCell' = true by simp [Value.oneCell']) (by omega) fun v62 L62 o62 => (.q (.assign rfl) (.nil (.inbN (.code ?_)))))))
      refine .reg (.q (.add rfl rfl (IntWalk.i64_in _ (by omega))) (.q (.move rfl) (.nil (.rd (n + 1, runS s1 run, mv1, Lm1, v62, L62, Lr ++ L42) ⟨rfl, rfl, rfl, rfl, rfl, rfl, trivial⟩ (fun _ h => roll3 h) ⟨by simp only; omega, hsim1, run_I hI1 (by have := choose_len (l := l) (rs := rs) (s := s1) (slot := (n : Int)) (cores := cores); omega) (by omega), hO1, by simp only; rw [hsim2]; exact SchO.snoc hvl hvR o62 p42, by simp only; rw [hsim2, List.length_append, hk6]; rfl⟩ (by simp only; omega)))))
  · refine .nil (.code ?_)
    refine .seq (.ff (.exit (.thE (.thE (.inbX (.code ?_))))))
    refine .seq (.reg (.q (.move rfl) (.q (.move rfl) (.callM (Lm := BN R J D (.slice lA l.length lc) (.slice rA rs.length rc) mv l.length Lm s) (Lr := Lo ++ Lr) fn43 rfl (.refl _) (fun w1 hH => begin_calls w w1 R J D _ _ mv Lm l rs s (12 * n) (40 * n) (U : Int) hH hl hr hk3 hk4 (by omega) (by omega) (by omega)) fun v66 L66 p66 => (?_)))))
    obtain ⟨mv1, Lm1, rfl, hO1, hI1⟩ := p66
    have hnU : n = U := by omega
    subst hnU
    refine .world (C' := Z w w _ (BN R J D (.slice lA l.length lc) (.slice rA rs.length rc) mv1 l.length (Lm1 ++ (Lo ++ Lr)) (beginS l rs (n : Int) s))) ?_ (fun _ h => h)
    refine .nil (.code ?_)
    refine .seq (.draw mix (by kernel_rfl) (fun _ h => h.drew) (.q (.move rfl) (.q (.move rfl) (.q (.nilP rfl) (.q (.fld f96_4 rfl) (.q (.ldO o46 0 rfl rfl rfl) (.q (.assign rfl) (.q (.assign rfl) (.q (.assign rfl) (.nil (.code ?_)))))))))))
    refine .ret (.ret3 Try.results37 rfl rfl rfl fun w1 hz => ⟨_, _, rfl, hz.sublist (.cons _ (.cons _ (.cons _ (List.Sublist.refl _)))), ov, mv1, Lo, Lr, Lm1, rfl, rfl, hk5, by rw [simMs, ← hk2]; exact hO1, hk6, by rw [simMs, ← hk2]; have := hI1.ms; omega⟩)

end Go.Proofs.Ytjccenbacjhglaa.S6
