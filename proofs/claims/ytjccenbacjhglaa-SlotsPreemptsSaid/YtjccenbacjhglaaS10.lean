import Derived.Test.YtjccenbacjhglaaProg
import Derived.Test.YtjccenbacjhglaaK
import Derived.Test.YtjccenbacjhglaaM
import Derived.Test.YtjccenbacjhglaaIS
import Derived.Test.YtjccenbacjhglaaM2
import Derived.Test.YtjccenbacjhglaaMS
import Derived.Test.YtjccenbacjhglaaPF
import Derived.Test.YtjccenbacjhglaaSO
import Derived.Test.YtjccenbacjhglaaAU
import Derived.Test.YtjccenbacjhglaaR1
import Derived.Test.YtjccenbacjhglaaR2
import Derived.Test.YtjccenbacjhglaaR3
import Derived.Test.YtjccenbacjhglaaS1
import Derived.Test.YtjccenbacjhglaaS2
import Derived.Test.YtjccenbacjhglaaS3
import Derived.Test.YtjccenbacjhglaaS4
import Derived.Test.YtjccenbacjhglaaS5
import Derived.Test.YtjccenbacjhglaaS6
import Derived.Test.YtjccenbacjhglaaS7
import Derived.Test.YtjccenbacjhglaaS8
import Derived.Test.YtjccenbacjhglaaS9
set_option linter.unusedVariables false
set_option linter.unusedSimpArgs false
set_option maxRecDepth 100000
set_option maxHeartbeats 1000000
namespace Go.Proofs.Ytjccenbacjhglaa.S10
open Go Go.Proofs Go.RowKit Go.Proofs.Ytjccenbacjhglaa.K Go.Proofs.Ytjccenbacjhglaa.M Go.Proofs.Ytjccenbacjhglaa.PF Go.Proofs.Ytjccenbacjhglaa.SO Go.Proofs.Ytjccenbacjhglaa.AU Go.Proofs.Ytjccenbacjhglaa.R1 Go.Proofs.Ytjccenbacjhglaa.R2 Go.Proofs.Ytjccenbacjhglaa.R3 Go.Proofs.Ytjccenbacjhglaa.S1 Go.Proofs.Ytjccenbacjhglaa.S2 Go.Proofs.Ytjccenbacjhglaa.S3 Go.Proofs.Ytjccenbacjhglaa.S4 Go.Proofs.Ytjccenbacjhglaa.S5 Go.Proofs.Ytjccenbacjhglaa.S6 Go.Proofs.Ytjccenbacjhglaa.S7 Go.Proofs.Ytjccenbacjhglaa.S8 Go.Proofs.Ytjccenbacjhglaa.S9
theorem a44 : Ag Try.prog 44 4 := ⟨_, Try.underlying44, rfl, by kernel_rfl⟩
theorem a62 : Ag Try.prog 62 3 := ⟨_, Try.underlying62, rfl, by kernel_rfl⟩
theorem f44_0 : Fld Try.prog 44 0 0 := ⟨_, _, Try.underlying44, rfl, rfl, 0, by kernel_rfl⟩
theorem f44_1 : Fld Try.prog 44 1 1 := ⟨_, _, Try.underlying44, rfl, rfl, 0, by kernel_rfl⟩
theorem f44_2 : Fld Try.prog 44 2 2 := ⟨_, _, Try.underlying44, rfl, rfl, 0, by kernel_rfl⟩
theorem f44_3 : Fld Try.prog 44 3 3 := ⟨_, _, Try.underlying44, rfl, rfl, 0, by kernel_rfl⟩
theorem fn18 : Fnc Try.prog 18 := ⟨by kernel_rfl⟩
theorem fn19 : Fnc Try.prog 19 := ⟨by kernel_rfl⟩
theorem fn37 : Fnc Try.prog 37 := ⟨by kernel_rfl⟩
theorem fn38 : Fnc Try.prog 38 := ⟨by kernel_rfl⟩
theorem fn39 : Fnc Try.prog 39 := ⟨by kernel_rfl⟩
theorem mix : Try.prog.follows .mixedOrders = true := by kernel_rfl
theorem o3 : One Try.prog 3 := ⟨_, Try.underlying3, rfl, by kernel_rfl⟩
theorem o22 : One Try.prog 22 := ⟨_, Try.underlying22, rfl, by kernel_rfl⟩
theorem o37 : One Try.prog 37 := ⟨_, Try.underlying37, rfl, by kernel_rfl⟩
theorem o42 : One Try.prog 42 := ⟨_, Try.underlying42, rfl, by kernel_rfl⟩
theorem s22 : Slc Try.prog 22 62 3 32 [.string ⟨#[]⟩, .int .i64 0, .int .i64 0] := ⟨Try.underlying22, by kernel_rfl, rfl⟩
theorem s37 : Slc Try.prog 37 3 1 8 [.int .i64 0] := ⟨Try.underlying37, by kernel_rfl, rfl⟩
theorem s42 : Slc Try.prog 42 37 1 24 [.slice none 0 0] := ⟨Try.underlying42, by kernel_rfl, rfl⟩
theorem s45 : Slc Try.prog 45 37 1 24 [.slice none 0 0] := ⟨Try.underlying45, by kernel_rfl, rfl⟩
theorem s46 : Slc Try.prog 46 99 3 24 [.int .i64 0, .int .i64 0, .int .i64 0] := ⟨Try.underlying46, by kernel_rfl, rfl⟩
theorem st62 : Str Try.prog 62 [.string ⟨#[]⟩, .int .i64 0, .int .i64 0] #[(0, 1), (1, 1), (2, 1)] := ⟨⟨by kernel_rfl⟩, _, Try.underlying62, fun w => by kernel_rfl⟩
theorem z62 : Zr Try.prog 62 [.string ⟨#[]⟩, .int .i64 0, .int .i64 0] := ⟨by kernel_rfl⟩

theorem SchO.at {v : Value} {rs : List (List Int)} {Lo Lr : List Blk} (h : SchO v rs Lo Lr) {i : Nat} (hi : i < rs.length) : ∃ b c A c2, v = .slice (some ⟨b, 0, none⟩) rs.length c ∧ ∀ (w0 we w : World) (Le L : List Blk), Z w0 we Le L w → (∀ x ∈ Lo, x ∈ L) → w.cell? ⟨b, 0 + i * 1, none⟩ = some (.slice A rs[i].length c2) ∧ ((∀ x ∈ Lr, x ∈ L) → rs[i].length ≤ 140737488355328 → Rd eI 1 w (.slice A rs[i].length c2) rs[i]) := by
  obtain ⟨vs, hl, hO, hR⟩ := h
  have hi' : i < vs.length := by omega
  obtain ⟨b, c, rfl, hr⟩ := OS.read (enc := eV) (k := 1) (xs := vs) (fun _ => rfl) hO hi'
  obtain ⟨Li, hLi, hsub⟩ := hR i hi' hi
  obtain ⟨A, c2, hv⟩ := OS.form hLi
  refine ⟨b, c, A, c2, by rw [hl], fun w0 we w Le L hz h1 => ⟨?_, fun h2 hn => ?_⟩⟩
  · have := hr w0 we w Le L hz h1 0 (by decide)
    rw [← hv]; exact this
  · rw [hv] at hLi
    exact OS.rd (enc := eI) (xs := rs[i]) eI_len hLi hn hz fun x hx => h2 x (hsub x hx)
theorem SchO.form {v : Value} {rs : List (List Int)} {Lo Lr : List Blk} (h : SchO v rs Lo Lr) : ∃ A c, v = .slice A rs.length c := by
  obtain ⟨vs, hl, hO, hR⟩ := h
  obtain ⟨A, c, e⟩ := OS.form hO
  exact ⟨A, c, by rw [e, hl]⟩
noncomputable def okPl (l : List Tk) (cores : Int) (rs : List (List Int)) (U : Int) : Bool := !greatP l rs U && (validS l cores rs && decide (0 ≤ U))
theorem okPl_out {l : List Tk} {cores : Int} {rs : List (List Int)} {U : Int} (h : okPl l cores rs U = true) : greatP l rs U = false ∧ validS l cores rs = true ∧ 0 ≤ U ∧ U ≤ 100 ∧ l.length ≤ 8 ∧ ∀ i (h : i < rs.length), rs[i].length ≤ 20 := by
  simp only [okPl, Bool.and_eq_true, Bool.not_eq_true', decide_eq_true_eq] at h
  obtain ⟨h1, h2, h3⟩ := h
  have h4 := great_out h1
  refine ⟨h1, h2, h3, ?_, ?_, fun i hi => ?_⟩
  · rcases Int.lt_or_le 100 U with h5 | h5
    · exact absurd (.inr (.inr (.inr h5))) h4
    · exact h5
  · rcases Nat.lt_or_ge 8 l.length with h5 | h5
    · exact absurd (.inr (.inl h5)) h4
    · exact h5
  · rcases Nat.lt_or_ge 20 rs[i].length with h5 | h5
    · exact absurd (.inl ⟨i, hi, h5⟩) h4
    · exact h5

theorem simulated_calls (w : World) (lv rv : Value) (l : List Tk) (cores : Int) (rs : List (List Int)) (U : Nat) (hl : Rd encT 3 w lv l) (hr : Rd2 w rv rs) (hR : inI rs) (hok : okPl l cores rs (U : Int) = true) : Calls Try.prog 18 #[.agg (plV lv cores rv (U : Int)).toArray] w fun e w' => ∃ v L', e = .returned v ∧ Z w w [] L' w' ∧ ∃ ov mv Lo Lr Lm, v = .tuple #[ov, mv, .bool true] ∧ L' = Lm ++ (Lo ++ Lr) ∧ SchO ov (simOut l rs cores U) Lo Lr ∧ OS 99 3 mv ((simMs l rs cores U).flatMap encM) (simMs l rs cores U).length Lm ∧ (simOut l rs cores U).length = U ∧ (simMs l rs cores U).length ≤ 100000 := by
  obtain ⟨ok1, ok2, ok3, ok4, ok5, ok6⟩ := okPl_out hok
  obtain ⟨lA, lc, rfl⟩ : ∃ A c, lv = .slice A l.length c := by obtain ⟨A, c, h, _⟩ := hl; exact ⟨A, c, h⟩
  obtain ⟨rA, rc, rfl⟩ := hr.len
  refine enter (args := [_]) Try.func18 rfl rfl rfl (C := Z w w [] []) (Z.start (H.nil w)) ?_
  refine .seq (.reg (.box rfl fun b1 => .q (.assign rfl) (.q (.assign rfl) (.q (.assign rfl) (.nil (.code ?_))))))
  refine .seq (.seq (.reg (.q (.ldOA a44 0 rfl rfl rfl rfl) (.q (.call (v := .bool false) fn38 rfl (fun w hz => by have h9 := great46_calls w _ _ l cores rs (U : Int) (hl.below hz.h.below) (hr.below hz.h.below); rw [ok1] at h9; exact h9)) (.q (.move rfl) (.q (.ldOA a44 0 rfl rfl rfl rfl) (.q (.call (v := .bool true) fn39 rfl (fun w hz => by have h9 := valid46_calls w _ _ l cores rs (U : Int) (hl.below hz.h.below) (hr.below hz.h.below) hR (by omega); rw [ok2, decide_eq_true ok3, Bool.and_true] at h9; exact h9)) (.q (.notB rfl) (.q (.pickF rfl rfl) (.nil (.code ?_)))))))))))
  refine .ff (.skip (.code ?_))
  refine .seq (.reg (.q (.fld f44_0 rfl) (.q (.ldO o22 0 rfl rfl rfl) (.q (.fld f44_1 rfl) (.q (.ldO o3 0 rfl rfl rfl) (.q (.fld f44_2 rfl) (.q (.ldO o42 0 rfl rfl rfl) (.q (.fld f44_3 rfl) (.q (.ldO o3 0 rfl rfl rfl) (.callA fn37 rfl (fun w hz => simulate_calls w _ _ l cores rs U (hl.below hz.h.below) (hr.below hz.h.below) hR ok2 (by omega) (by omega)) fun v24 L24 p24 => ?_))))))))))
  obtain ⟨ov, mv, Lo, Lr, Lm, rfl, rfl, hS, hM, hlen, hmsb⟩ := p24
  refine .q (.move rfl) (.q (.ext rfl rfl) (.q (.ext rfl rfl) (.q (.ext rfl rfl) (.q (.assign rfl) (.q (.assign rfl) (.q (.assign rfl) (.nil (.code ?_))))))))
  refine .seq (.reg (.q (.move rfl) (.q (.move rfl) (.q (.move rfl) (.q (.cmp rfl rfl (eqT (rfl))) (.q (.assign rfl) (.q (.assign rfl) (.q (.assign rfl) (.nil (.code ?_))))))))))
  refine .ret (.ret3 Try.results18 rfl rfl rfl fun w1 hz => ⟨_, _, rfl, hz.sublist (List.sublist_append_left _ _), ov, mv, Lo, Lr, Lm, rfl, rfl, hS, hM, hlen, hmsb⟩)

theorem simulated_no (w : World) (lv rv : Value) (l : List Tk) (cores : Int) (rs : List (List Int)) (U : Int) (hl : Rd encT 3 w lv l) (hr : Rd2 w rv rs) (hR : inI rs) (hok : okPl l cores rs U = false) : Calls Try.prog 18 #[.agg (plV lv cores rv U).toArray] w fun e w' => e = .returned (.tuple #[.slice none 0 0, .slice none 0 0, .bool false]) ∧ Z w w [] [] w' := by
  obtain ⟨lA, lc, rfl⟩ : ∃ A c, lv = .slice A l.length c := by obtain ⟨A, c, h, _⟩ := hl; exact ⟨A, c, h⟩
  obtain ⟨rA, rc, rfl⟩ := hr.len
  refine enter (args := [_]) Try.func18 rfl rfl rfl (C := Z w w [] []) (Z.start (H.nil w)) ?_
  refine .seq (.reg (.box rfl fun b1 => .q (.assign rfl) (.q (.assign rfl) (.q (.assign rfl) (.nil (.code ?_))))))
  refine .seq (.seq (.reg (.q (.ldOA a44 0 rfl rfl rfl rfl) (.qB (.call fn38 rfl (fun w hz => great46_calls w _ _ l cores rs U (hl.below hz.h.below) (hr.below hz.h.below))) (fun h9 => ?_) (fun h9 => ?_)))))
  · refine .q (.move rfl) (.skip (.skip (.skip (.q (.pickT rfl rfl) (.nil (.code ?_))))))
    refine .tt (.seq (.reg (.q (.assign rfl) (.q (.assign rfl) (.q (.assign rfl) (.nil (.code ?_)))))))
    refine .ret (.thR (.ret3 Try.results18 rfl rfl rfl fun w1 hz => ⟨rfl, hz.sublist (List.nil_sublist _)⟩))
  · have hn : l.length ≤ 1000000 := by
      rcases Nat.lt_or_ge 8 l.length with h8 | h8
      · exact absurd (.inr (.inl h8)) (great_out h9)
      · omega
    have hvf : (validS l cores rs && decide (0 ≤ U)) = false := by unfold okPl at hok; rw [h9] at hok; simpa using hok
    refine .q (.move rfl) (.q (.ldOA a44 0 rfl rfl rfl rfl) (.q (.call (v := .bool false) fn39 rfl (fun w hz => by have h9 := valid46_calls w _ _ l cores rs U (hl.below hz.h.below) (hr.below hz.h.below) hR hn; rw [hvf] at h9; exact h9)) (.q (.notB rfl) (.q (.pickF rfl rfl) (.nil (.code ?_))))))
    refine .tt (.seq (.reg (.q (.assign rfl) (.q (.assign rfl) (.q (.assign rfl) (.nil (.code ?_)))))))
    refine .ret (.thR (.ret3 Try.results18 rfl rfl rfl fun w1 hz => ⟨rfl, hz.sublist (List.nil_sublist _)⟩))


def ex6 : Tk := ⟨⟨#[]⟩, 2, 3⟩
theorem ex6_out : simOut [ex6, ex6, ex6] [[0], [0], [0]] 2 3 = [[0, 1], [0, 2], [1, 2]] := by decide +kernel
theorem ex6_ms : simMs [ex6, ex6, ex6] [[0], [0], [0]] 2 3 = [] := by decide +kernel
theorem ex6_valid : validS [ex6, ex6, ex6] 2 [[0], [0], [0]] = true := validS_yes ⟨by decide, by omega, by omega, rfl, fun i h h' => by
  match i, h, h' with
  | 0, _, _ => exact ⟨by simp, fun k hk => by simp at hk; subst hk; simp⟩
  | 1, _, _ => exact ⟨by simp, fun k hk => by simp at hk; subst hk; simp⟩
  | 2, _, _ => exact ⟨by simp, fun k hk => by simp at hk; subst hk; simp⟩
  | n + 3, h, _ => simp at h; omega⟩
theorem ex6_in : inI [[0], [0], [0]] := by
  intro r hr x hx
  simp at hr
  subst hr
  simp at hx
  subst hx
  omega
theorem ex6_rd {w : World} {b1 b2 b3 b : Nat} (h1 : w.heap[b1]? = some (.cells [Value.int .i64 0].toArray 3 (0, 0))) (h2 : w.heap[b2]? = some (.cells [Value.int .i64 0].toArray 3 (0, 0))) (h3 : w.heap[b3]? = some (.cells [Value.int .i64 0].toArray 3 (0, 0))) (h : w.heap[b]? = some (.cells [Value.slice (some ⟨b1, 0, none⟩) 1 1, .slice (some ⟨b2, 0, none⟩) 1 1, .slice (some ⟨b3, 0, none⟩) 1 1].toArray 37 (0, 0))) : Rd2 w (.slice (some ⟨b, 0, none⟩) 3 3) [[0], [0], [0]] := by
  have row : ∀ q, w.heap[q]? = some (.cells [Value.int .i64 0].toArray 3 (0, 0)) → Rd eI 1 w (.slice (some ⟨q, 0, none⟩) 1 1) [0] := fun q hq => Rd.own (xs := [0]) (T := 3) (c := eI 0) (fr := (0, 0)) hq eI_len rfl (by simp)
  refine ⟨[.slice (some ⟨b1, 0, none⟩) 1 1, .slice (some ⟨b2, 0, none⟩) 1 1, .slice (some ⟨b3, 0, none⟩) 1 1], rfl, Rd.own (enc := eV) (xs := [.slice (some ⟨b1, 0, none⟩) 1 1, .slice (some ⟨b2, 0, none⟩) 1 1, .slice (some ⟨b3, 0, none⟩) 1 1]) (T := 37) (fr := (0, 0)) h (fun _ => rfl) rfl (by simp), fun i a c => ?_⟩
  match i, a, c with
  | 0, _, _ => exact row b1 h1
  | 1, _, _ => exact row b2 h2
  | 2, _, _ => exact row b3 h3
  | n + 3, h, _ => simp at h; omega

theorem awake46_calls (w : World) : Calls Try.prog 17 #[] w fun e w' => e = .returned (.bool true) ∧ Z w w [] [] w' := by
  refine enter (args := []) Try.func17 rfl rfl rfl (C := Z w w [] []) (Z.start (H.nil w)) ?_
  refine .seq (.reg (.q (.assign rfl) (.nil (.code ?_))))
  refine .seq (.reg (.q (.build st62 rfl rfl) (.alloc z62 fun b1 => .stA a62 0 rfl rfl rfl rfl rfl rfl (.nil (.code ?_)))))
  refine .seq (.reg (.q (.ldOA a62 0 rfl rfl rfl rfl) (.q (.ldOA a62 0 rfl rfl rfl rfl) (.q (.ldOA a62 0 rfl rfl rfl rfl) (.bslice s22 rfl rfl rfl fun b10 => .bslice s37 rfl rfl rfl fun b11 => .bslice s37 rfl rfl rfl fun b12 => .bslice s37 rfl rfl rfl fun b13 => .bslice s42 rfl rfl rfl fun b14 => .callA fn37 rfl (fun w hz => simulate_calls w _ _ [ex6, ex6, ex6] 2 [[0], [0], [0]] 3 (Rd.own (xs := [ex6, ex6, ex6]) (T := 62) (c := encT ex6 ++ encT ex6 ++ encT ex6) (fr := (0, 0)) (hz.has (i := 4) rfl) encT_len rfl (by simp)) (ex6_rd (hz.has (i := 3) rfl) (hz.has (i := 2) rfl) (hz.has (i := 1) rfl) (hz.has (i := 0) rfl)) ex6_in ex6_valid (by simp) (by omega)) fun v15 L15 p15 => ?_)))))
  obtain ⟨ov, mv, Lo, Lr, Lm, rfl, rfl, hS, hM, hlen, hmsb⟩ := p15
  rw [ex6_out] at hS
  rw [ex6_ms] at hM
  obtain ⟨mA, mc, rfl⟩ := OS.form hM
  obtain ⟨ub, uc, u0A, u0c, rfl, u0r⟩ := SchO.at hS (i := 0) (by simp)
  obtain ⟨ub1, uc1, u1A, u1c, he1, u1r⟩ := SchO.at hS (i := 1) (by simp)
  obtain ⟨ub2, uc2, u2A, u2c, he2, u2r⟩ := SchO.at hS (i := 2) (by simp)
  cases he1
  cases he2
  simp only [List.getElem_cons_zero, List.getElem_cons_succ, List.length_cons, List.length_nil, Nat.zero_add, Nat.reduceAdd] at u0r u1r u2r
  refine .q (.move rfl) (.q (.ext rfl rfl) (.q (.ext rfl rfl) (.q (.ext rfl rfl) (.q (.assign rfl) (.q (.assign rfl) (.q (.assign rfl) (.nil (.code ?_))))))))
  refine .seq (.reg (.q (.move rfl) (.q (.cmp rfl rfl (eqT (rfl))) (.q (.move rfl) (.q (.move rfl) (.q (.lenS s46.t rfl) (.q (.cmp rfl rfl (eqT (rfl))) (.q (.pickT rfl rfl) (.q (.move rfl) (.q (.move rfl) (.q (.lenS s45.t rfl) (.q (.cmp rfl rfl (eqT (rfl))) (.q (.pickT rfl rfl) (.q (.move rfl) (.q (.move rfl) (.q (.ix (j := 0) s45 rfl rfl (by simp)) (.q (.ld (v := .slice u0A 2 u0c) o37 rfl (fun w1 hz => (u0r _ _ w1 _ _ hz (fun x hx => List.mem_append_left _ (List.mem_append_right _ (List.mem_append_left _ hx)))).1)) (.bslice s37 rfl rfl rfl fun b35 => .q (.call (v := .bool true) fn19 rfl (fun w hz => ints41_calls w _ _ [0, 1] ((u0r _ _ w _ _ hz (fun x hx => List.mem_cons_of_mem _ (List.mem_append_left _ (List.mem_append_right _ (List.mem_append_left _ hx))))).2 (fun x hx => List.mem_cons_of_mem _ (List.mem_append_left _ (List.mem_append_right _ (List.mem_append_right _ hx)))) (by simp)) (Rd.own (xs := [0, 1]) (T := 3) (c := [Value.int .i64 0, .int .i64 1]) (fr := (0, 0)) (hz.has (i := 0) rfl) eI_len rfl (by simp)))) (.q (.pickT rfl rfl) (.q (.move rfl) (.q (.move rfl) (.q (.ix (j := 1) s45 rfl rfl (by simp)) (.q (.ld (v := .slice u1A 2 u1c) o37 rfl (fun w1 hz => (u1r _ _ w1 _ _ hz (fun x hx => List.mem_cons_of_mem _ (List.mem_append_left _ (List.mem_append_right _ (List.mem_append_left _ hx))))).1)) (.bslice s37 rfl rfl rfl fun b42 => .q (.call (v := .bool true) fn19 rfl (fun w hz => ints41_calls w _ _ [0, 2] ((u1r _ _ w _ _ hz (fun x hx => List.mem_cons_of_mem _ (List.mem_cons_of_mem _ (List.mem_append_left _ (List.mem_append_right _ (List.mem_append_left _ hx)))))).2 (fun x hx => List.mem_cons_of_mem _ (List.mem_cons_of_mem _ (List.mem_append_left _ (List.mem_append_right _ (List.mem_append_right _ hx))))) (by simp)) (Rd.own (xs := [0, 2]) (T := 3) (c := [Value.int .i64 0, .int .i64 2]) (fr := (0, 0)) (hz.has (i := 0) rfl) eI_len rfl (by simp)))) (.q (.pickT rfl rfl) (.q (.move rfl) (.q (.move rfl) (.q (.ix (j := 2) s45 rfl rfl (by simp)) (.q (.ld (v := .slice u2A 2 u2c) o37 rfl (fun w1 hz => (u2r _ _ w1 _ _ hz (fun x hx => List.mem_cons_of_mem _ (List.mem_cons_of_mem _ (List.mem_append_left _ (List.mem_append_right _ (List.mem_append_left _ hx)))))).1)) (.bslice s37 rfl rfl rfl fun b49 => .q (.call (v := .bool true) fn19 rfl (fun w hz => ints41_calls w _ _ [1, 2] ((u2r _ _ w _ _ hz (fun x hx => List.mem_cons_of_mem _ (List.mem_cons_of_mem _ (List.mem_cons_of_mem _ (List.mem_append_left _ (List.mem_append_right _ (List.mem_append_left _ hx))))))).2 (fun x hx => List.mem_cons_of_mem _ (List.mem_cons_of_mem _ (List.mem_cons_of_mem _ (List.mem_append_left _ (List.mem_append_right _ (List.mem_append_right _ hx)))))) (by simp)) (Rd.own (xs := [1, 2]) (T := 3) (c := [Value.int .i64 1, .int .i64 2]) (fr := (0, 0)) (hz.has (i := 0) rfl) eI_len rfl (by simp)))) (.q (.pickT rfl rfl) (.q (.assign rfl) (.nil (.code ?_))))))))))))))))))))))))))))))))))
  refine .ret (.ret1 Try.results17 rfl fun w1 hz => ⟨rfl, hz.sublist (List.nil_sublist _)⟩)

end Go.Proofs.Ytjccenbacjhglaa.S10
