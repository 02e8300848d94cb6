import Derived.Test.YtjccenbacjhglaaGreatDoorProg
import Derived.Test.YtjccenbacjhglaaGreatDoorK
import Derived.Test.YtjccenbacjhglaaGreatDoorM
import Derived.Test.YtjccenbacjhglaaGreatDoorIS
import Derived.Test.YtjccenbacjhglaaGreatDoorM2
import Derived.Test.YtjccenbacjhglaaGreatDoorPF
import Derived.Test.YtjccenbacjhglaaGreatDoorSO
import Derived.Test.YtjccenbacjhglaaGreatDoorAU
set_option linter.unusedVariables false
set_option linter.unusedSimpArgs false
set_option maxRecDepth 100000
set_option maxHeartbeats 1000000
namespace Go.Proofs.YtjccenbacjhglaaGreatDoor.AU2
open Go Go.Proofs Go.RowKit Go.Proofs.YtjccenbacjhglaaGreatDoor.K Go.Proofs.YtjccenbacjhglaaGreatDoor.M Go.Proofs.YtjccenbacjhglaaGreatDoor.PF Go.Proofs.YtjccenbacjhglaaGreatDoor.SO Go.Proofs.YtjccenbacjhglaaGreatDoor.AU
theorem a172 : Ag Tryz.prog 172 6 := ⟨_, Tryz.underlying172, rfl, by kernel_rfl⟩
theorem f89_1 : Fld Tryz.prog 89 1 1 := ⟨_, _, Tryz.underlying89, rfl, rfl, 0, by kernel_rfl⟩
theorem f89_2 : Fld Tryz.prog 89 2 2 := ⟨_, _, Tryz.underlying89, rfl, rfl, 0, by kernel_rfl⟩
theorem f89_5 : Fld Tryz.prog 89 5 5 := ⟨_, _, Tryz.underlying89, rfl, rfl, 0, by kernel_rfl⟩
theorem f172_0 : Fld Tryz.prog 172 0 0 := ⟨_, _, Tryz.underlying172, rfl, rfl, 0, by kernel_rfl⟩
theorem f228_0 : Fld Tryz.prog 228 0 0 := ⟨_, _, Tryz.underlying228, rfl, rfl, 0, by kernel_rfl⟩
theorem f228_2 : Fld Tryz.prog 228 2 2 := ⟨_, _, Tryz.underlying228, rfl, rfl, 0, by kernel_rfl⟩
theorem f228_3 : Fld Tryz.prog 228 3 3 := ⟨_, _, Tryz.underlying228, rfl, rfl, 0, by kernel_rfl⟩
theorem f228_4 : Fld Tryz.prog 228 4 4 := ⟨_, _, Tryz.underlying228, rfl, rfl, 0, by kernel_rfl⟩
theorem fn127 : Fnc Tryz.prog 127 := ⟨by kernel_rfl⟩
theorem fn128 : Fnc Tryz.prog 128 := ⟨by kernel_rfl⟩
theorem fn129 : Fnc Tryz.prog 129 := ⟨by kernel_rfl⟩
theorem mix : Tryz.prog.follows .mixedOrders = true := by kernel_rfl
theorem o3 : One Tryz.prog 3 := ⟨_, Tryz.underlying3, rfl, by kernel_rfl⟩
theorem o87 : One Tryz.prog 87 := ⟨_, Tryz.underlying87, rfl, by kernel_rfl⟩
theorem o226 : One Tryz.prog 226 := ⟨_, Tryz.underlying226, rfl, by kernel_rfl⟩
theorem s22 : Slc Tryz.prog 22 26 8 64 [.int .i64 0, .int .i64 0, .int .i64 0, .int .i64 0, .int .u8 0, .int .i64 0, .int .i64 0, .int .i64 0] := ⟨Tryz.underlying22, by kernel_rfl, rfl⟩
theorem s41 : Slc Tryz.prog 41 3 1 8 [.int .i64 0] := ⟨Tryz.underlying41, by kernel_rfl, rfl⟩
theorem s87 : Slc Tryz.prog 87 226 1 8 [.pointer none] := ⟨Tryz.underlying87, by kernel_rfl, rfl⟩
theorem s123 : Slc Tryz.prog 123 172 6 56 [.int .i64 0, .string ⟨#[]⟩, .int .i64 0, .int .i64 0, .int .i64 0, .int .i64 0] := ⟨Tryz.underlying123, by kernel_rfl, rfl⟩
theorem st26 : Str Tryz.prog 26 [.int .i64 0, .int .i64 0, .int .i64 0, .int .i64 0, .int .u8 0, .int .i64 0, .int .i64 0, .int .i64 0] #[(0, 1), (1, 1), (2, 1), (3, 1), (4, 1), (5, 1), (6, 1), (7, 1)] := ⟨⟨by kernel_rfl⟩, _, Tryz.underlying26, fun w => by kernel_rfl⟩
theorem z172 : Zr Tryz.prog 172 [.int .i64 0, .string ⟨#[]⟩, .int .i64 0, .int .i64 0, .int .i64 0, .int .i64 0] := ⟨by kernel_rfl⟩

theorem cands_ok {a : Au} {K : Int} (hI : AuI a K) {x : Cd} (h : x ∈ cands a) : 0 ≤ x.r ∧ x.r ≤ 100001 ∧ ∃ i, i < a.js.length ∧ x.n = (i : Int) ∧ (M.job a i).isSome = true := by
  unfold cands at h
  have h1 := isort_mem (List.mem_of_mem_take h)
  obtain ⟨i, hi, h2⟩ := mem_upTo.1 h1
  obtain ⟨b1, b2, b3, b4⟩ := candF_ok hI h2
  exact ⟨b1, b2, i, hi, b3, b4⟩
theorem cands_len (a : Au) : (cands a).length ≤ a.cores.toNat := by unfold cands; rw [List.length_take]; omega
/-- The number of -1 among xs. -/
def free (xs : List Int) : Nat := xs.count (-1)
theorem free_set (xs : List Int) (i : Nat) (v : Int) : free xs ≤ free (xs.set i v) + 1 := by
  unfold free
  induction xs generalizing i with
  | nil => simp
  | cons x xs ih =>
    cases i with
    | zero => simp only [List.set_cons_zero, List.count_cons]; split <;> split <;> omega
    | succ i => simp only [List.set_cons_succ, List.count_cons]; have := ih i; omega
theorem free_mem {xs : List Int} (h : 0 < free xs) : (-1 : Int) ∈ xs := List.count_pos_iff.1 h
theorem idxI_free {xs : List Int} (h : 0 < free xs) : idxI xs (-1) = ((xs.idxOf (-1) : Nat) : Int) ∧ xs.idxOf (-1) < xs.length := by
  have hm := free_mem h
  exact ⟨by rw [idxI, if_pos hm], List.idxOf_lt_length_of_mem hm⟩
theorem set_mem {xs : List Int} {i : Nat} {v : Int} {p : Int → Prop} (h : ∀ x ∈ xs, p x) (hv : p v) : ∀ x ∈ xs.set i v, p x := fun x hx => by
  rcases List.mem_or_eq_of_mem_set hx with h1 | rfl
  · exact h x h1
  · exact hv
theorem drop_cons {α : Type} {xs : List α} {i : Nat} (h : i < xs.length) : xs.drop i = xs[i] :: xs.drop (i + 1) := List.drop_eq_getElem_cons h
theorem pk2 {α : Type} (A C : List α) (x y : α) : (A ++ x :: y :: C).Perm (x :: y :: (A ++ C)) := List.perm_middle.trans (List.perm_middle.cons _)
/-- What may stand in a row of cores. -/
def seatOk (a : Au) (x : Int) : Prop := x = -1 ∨ ∃ i, i < a.js.length ∧ x = (i : Int) ∧ (M.job a i).isSome = true
theorem OS.form {e k m : Nat} {v : Value} {cs : List Value} {L : List Blk} (h : OS e k v cs m L) : ∃ A c, v = .slice A m c := by
  obtain ⟨_, h | h⟩ := h
  · obtain ⟨rfl, hx, _⟩ := h; exact ⟨_, _, by rw [hx]⟩
  · obtain ⟨b, cap, cur, rfl, _⟩ := h; exact ⟨_, _, rfl⟩
theorem map_set' (xs : List Int) (i : Nat) (v : Int) : (xs.map intV).set i (.int .i64 v) = (xs.set i v).map intV := by rw [List.map_set]; rfl

theorem selection_calls (w : World) (A J N T : Nat) (lv dv : Value) (ps : List (Option (Nat × Jb))) (a : Au) (K : Int) (hW : AuW w A J N T lv dv ps a) (hI : AuI a K) : Calls Tryz.prog 86 #[.pointer (some ⟨A, 0, none⟩)] w fun e w' => ∃ v L', e = .returned v ∧ Z w w [] L' w' ∧ OS 26 8 v ((selection a).flatMap encE) (selection a).length L' := by
  have hlen : ps.length = a.l.length := hW.len.trans hI.nj
  have h40 := hI.n12
  obtain ⟨q1, q2, q3, q4, q5, q6⟩ := And.intro hI.s0 (And.intro hI.s1 (And.intro hI.c0 (And.intro hI.c1 (And.intro hI.k0 hI.k1))))
  refine enter (args := [_]) Tryz.func86 rfl rfl rfl (C := Z w w [] []) (Z.start (H.nil w)) ?_
  refine .seq (.reg (.q (.assign rfl) (.nil (.code ?_))))
  refine .seq (.reg (.bslice s41 rfl rfl rfl fun b13 => .q (.move rfl) (.q (.nilP rfl) (.q (.fld f89_1 rfl) (.q (.ldW (v := .int .i64 ((a.cores.toNat : Nat) : Int)) o3 rfl (by rw [Int.toNat_of_nonneg (by omega)]; exact cellOf hW.hA rfl)) (.callA fn127 rfl (fun w hz => repeat_calls w _ _ _ (by omega) (by omega) (hz.cell (i := 0) (off := 0) rfl)) fun v18 L18 p18 => ?_))))))
  obtain ⟨ob, rfl, rfl⟩ := p18
  obtain ⟨k, hkc⟩ : ∃ k : Nat, k = a.cores.toNat := ⟨_, rfl⟩
  rw [← hkc]
  have hrep : List.replicate k (Value.int .i64 (-1)) = (List.replicate k (-1 : Int)).map intV := by rw [List.map_replicate]; rfl
  refine .q (.assign rfl) (.nil (.code ?_))
  refine .seq (.reg (.q (.assign rfl) (.nil (.code ?_))))
  refine .seq (.seq (.reg (.q (.move rfl) (.callA fn128 rfl (fun w hz => candidates_calls w A J N T lv dv ps a K (hW.up hz) hI) fun v20 L20 p20 => ?_))))
  have hlen2 := hW.len
  have hcl := cands_len a
  obtain ⟨cA, cc, rfl⟩ := OS.form p20
  refine .q (.lenS s123.t rfl) (.q (.move rfl) (.nil (.code ?_)))
  refine .block (.lp (fun s : Nat × List Int × List Int × Value × List Blk => [(0, .pointer (some ⟨A, 0, none⟩)), (3, .slice (some ⟨ob, 0, none⟩) k k), (4, s.2.2.2.1), (20, .slice cA (cands a).length cc), (21, .int .i64 ((cands a).length : Int)), (22, .int .i64 (s.1 : Int))]) (fun s => (ob, .cells (s.2.1.map intV).toArray 3 (0, 0)) :: (s.2.2.2.2 ++ L20)) (fun s => s.1 ≤ (cands a).length ∧ s.2.1.length = k ∧ OS 3 1 s.2.2.2.1 (s.2.2.1.flatMap (fun x => [intV x])) s.2.2.1.length s.2.2.2.2 ∧ keepC a ((cands a).drop s.1) (s.2.1, s.2.2.1) = keepC a (cands a) (List.replicate k (-1), []) ∧ k + s.2.2.1.length ≤ free s.2.1 + s.1 ∧ (∀ x ∈ s.2.1, seatOk a x) ∧ (∀ x ∈ s.2.2.1, 0 ≤ x ∧ seatOk a x)) (fun s => (cands a).length - s.1) (0, List.replicate k (-1), [], .slice none 0 0, []) ⟨rfl, rfl, rfl, rfl, rfl, rfl, trivial⟩ (fun _ h => by
      have h2 := (h.perm (pk2 _ _ _ _)).sublist ((List.sublist_cons_self _ _).cons_cons _)
      rw [hrep, List.append_nil] at h2
      exact h2) ⟨Nat.zero_le _, by simp, OS.nil _ _, by simp, by simp [free], fun x hx => .inl (List.eq_of_mem_replicate hx), fun x hx => absurd hx (List.not_mem_nil)⟩ fun ⟨i, on, mv, v4, Lm⟩ hk => ?_)
  obtain ⟨hk1, hk2, hk3, hk4, hk5, hk6, hk7⟩ := hk
  simp only at hk1 hk2 hk3 hk4 hk5 hk6 hk7
  have hfl : free on ≤ on.length := List.count_le_length
  refine .seq (.reg (.ltS rfl rfl (fun h23 => ?_) (fun h23 => ?_)))
  · have hi : i < (cands a).length := by omega
    obtain ⟨qb, qc, hqe, hrd⟩ := OS.read encC_len p20 hi
    cases hqe
    have hcm := cands_ok hI (List.getElem_mem hi)
    obtain ⟨i0, hi0, hn0, hs0⟩ := hcm.2.2
    obtain ⟨b, j, hp⟩ : ∃ b j, ps[i0]'(by omega) = some (b, j) := by
      rcases hp : ps[i0]'(by omega) with _ | ⟨b, j⟩
      · rw [hW.nojob (by omega) hp] at hs0; cases hs0
      · exact ⟨b, j, rfl⟩
    obtain ⟨hj, hj2, hb⟩ := hW.job (by omega) hp
    obtain ⟨b1, b2, b3, b4, b5, b6, b7, b8⟩ := hI.job i0 j hj2
    have hseat : seatOk a (cands a)[i].n := .inr ⟨i0, hi0, hn0, hs0⟩
    refine .nil (.code ?_)
    refine .seq (.tt (.skip (.code ?_)))
    refine .seq (.block (.seq (.reg (.q (.ix s123 rfl rfl (by omega)) (.q (.ldA a172 (cs := encC (cands a)[i]) rfl rfl (fun w1 hz q hq => hrd _ _ w1 _ _ hz (fun x hx => List.mem_cons_of_mem _ (List.mem_append_right _ hx)) q hq)) (.alloc z172 fun b6 => .stA a172 0 rfl rfl rfl rfl rfl rfl (.nil (.code ?_))))))))
    refine .seq (.draw mix (by kernel_rfl) (fun _ h => h.drew) (.q (.move rfl) (.q (.nilP rfl) (.q (.fld f89_2 rfl) (.q (.ldW o87 rfl (cellOf hW.hA rfl)) (.q (.fld f172_0 rfl) (.q (.ldO (v := .int .i64 (i0 : Int)) o3 0 rfl rfl (by rw [← hn0]; rfl)) (.q (.ix s87 rfl rfl (by omega)) (.q (.ldW o226 rfl (ptr_some hW.hJ (by omega) hp)) (.q (.assign rfl) (.nil (.code ?_))))))))))))
    refine .seq (.draw mix (by kernel_rfl) (fun _ h => h.drew) (.q (.move rfl) (.q (.nilP rfl) (.q (.fld f228_3 rfl) (.q (.ldW o3 rfl (cellOf hb rfl)) (.geS rfl rfl (fun h38 => ?_) (fun h38 => ?_)))))))
    · refine .q (.move rfl) (.q (.move rfl) (.q (.nilP rfl) (.q (.fld f228_3 rfl) (.q (.ldW o3 rfl (cellOf hb rfl)) (.q (.move rfl) (.q (.nilP rfl) (.q (.fld f89_5 rfl) (.q (.ldW o3 rfl (cellOf hW.hA rfl)) (.q (.sub rfl rfl (IntWalk.i64_in _ (by omega))) (.eqS rfl rfl (fun h49 => ?_) (fun h49 => ?_)))))))))))
      · refine .q (.pickT rfl rfl) (.nil (.code ?_))
        refine .tt (.drawT mix 8 (by kernel_rfl) (fun _ h => h.drew) (?_))
        have hkk : keepC a ((cands a).drop (i + 1)) (on.set j.core.toNat (cands a)[i].n, mv) = keepC a (cands a) (List.replicate k (-1), []) := by
          rw [← hk4, drop_cons hi, keepC]
          simp only [hn0, Int.toNat_natCast, hj]
          rw [if_pos ⟨by omega, by omega⟩]
        refine .q (.move rfl) (.q (.move rfl) (.q (.nilP rfl) (.q (.fld f228_4 rfl) (.q (.ldW (v := .int .i64 ((j.core.toNat : Nat) : Int)) o3 rfl (by rw [Int.toNat_of_nonneg b7]; exact cellOf hb rfl)) (.q (.fld f172_0 rfl) (.q (.ldO o3 0 rfl rfl rfl) (.q (.ix s41 rfl rfl (by omega)) (.tail (.st o3 1 rfl rfl rfl rfl (by simp [Nat.blt_eq]; omega) (?_))))))))))
        rw [show 0 + j.core.toNat * 1 = j.core.toNat by omega, map_set']
        refine .nil (.inbN (.code ?_))
        refine .reg (.q (.add rfl rfl (IntWalk.i64_in _ (by omega))) (.q (.move rfl) (.nil (.rd (i + 1, on.set j.core.toNat (cands a)[i].n, mv, v4, Lm) ⟨rfl, rfl, rfl, rfl, rfl, rfl, trivial⟩ (fun _ h => drp h) ⟨by simp only; omega, by simp only [List.length_set]; exact hk2, hk3, hkk, by have := free_set on j.core.toNat (cands a)[i].n; simp only; omega, set_mem hk6 hseat, hk7⟩ (by simp only; omega)))))
      · refine .q (.pickT rfl rfl) (.nil (.code ?_))
        refine .ff (.reg (?_))
        have hkk : keepC a ((cands a).drop (i + 1)) (on, mv ++ [(cands a)[i].n]) = keepC a (cands a) (List.replicate k (-1), []) := by
          rw [← hk4, drop_cons hi, keepC]
          simp only [hn0, Int.toNat_natCast, hj]
          rw [if_neg (by omega)]
        refine .q (.move rfl) (.q (.fld f172_0 rfl) (.q (.ldO o3 0 rfl rfl rfl) (.bslice s41 rfl rfl rfl fun b62 => .app1 s41 (by omega) (by omega) rfl rfl hk3 (pkC (pkC (.refl _))) (by rfl) (show ∀ u ∈ [Value.int .i64 (cands a)[i].n], u.oneCell' = true by simp [Value.oneCell']) (by omega) fun v63 L63 o63 => (.q (.assign rfl) (.nil (.inbN (.code ?_)))))))
        refine .reg (.q (.add rfl rfl (IntWalk.i64_in _ (by omega))) (.q (.move rfl) (.nil (.rd (i + 1, on, mv ++ [(cands a)[i].n], v63, L63) ⟨rfl, rfl, rfl, rfl, rfl, rfl, trivial⟩ (fun _ h => (drp (h.perm (pk2 _ _ _ _)))) ⟨by simp only; omega, hk2, OS.snoc o63, hkk, by simp only [List.length_append, List.length_singleton]; omega, hk6, fun x hx => by
      rcases List.mem_append.1 hx with h | h
      · exact hk7 x h
      · rw [List.mem_singleton.1 h]; exact ⟨by omega, hseat⟩⟩ (by simp only; omega)))))
    · refine .q (.move rfl) (.skip (.skip (.skip (.skip (.skip (.skip (.skip (.skip (.skip (.skip (.q (.pickF rfl rfl) (.nil (.code ?_)))))))))))))
      refine .ff (.reg (?_))
      have hkk : keepC a ((cands a).drop (i + 1)) (on, mv ++ [(cands a)[i].n]) = keepC a (cands a) (List.replicate k (-1), []) := by
        rw [← hk4, drop_cons hi, keepC]
        simp only [hn0, Int.toNat_natCast, hj]
        rw [if_neg (by omega)]
      refine .q (.move rfl) (.q (.fld f172_0 rfl) (.q (.ldO o3 0 rfl rfl rfl) (.bslice s41 rfl rfl rfl fun b62 => .app1 s41 (by omega) (by omega) rfl rfl hk3 (pkC (pkC (.refl _))) (by rfl) (show ∀ u ∈ [Value.int .i64 (cands a)[i].n], u.oneCell' = true by simp [Value.oneCell']) (by omega) fun v63 L63 o63 => (.q (.assign rfl) (.nil (.inbN (.code ?_)))))))
      refine .reg (.q (.add rfl rfl (IntWalk.i64_in _ (by omega))) (.q (.move rfl) (.nil (.rd (i + 1, on, mv ++ [(cands a)[i].n], v63, L63) ⟨rfl, rfl, rfl, rfl, rfl, rfl, trivial⟩ (fun _ h => (drp (h.perm (pk2 _ _ _ _)))) ⟨by simp only; omega, hk2, OS.snoc o63, hkk, by simp only [List.length_append, List.length_singleton]; omega, hk6, fun x hx => by
      rcases List.mem_append.1 hx with h | h
      · exact hk7 x h
      · rw [List.mem_singleton.1 h]; exact ⟨by omega, hseat⟩⟩ (by simp only; omega)))))
  · refine .nil (.code ?_)
    refine .seq (.ff (.exit (.thE (.thE (.inbX (.code ?_))))))
    refine .seq (.seq (.reg (?_)))
    have hie : (cands a).length = i := by omega
    obtain ⟨mA, mc, rfl⟩ := OS.form hk3
    have hse : place (mv.drop 0) on = seated a := by
      rw [List.drop_of_length_le (by omega), keepC] at hk4
      rw [seated, ← hkc, ← hk4, List.drop_zero]
    refine .q (.move rfl) (.q (.lenS s41.t rfl) (.q (.move rfl) (.nil (.code ?_))))
    refine .block (.lp (fun s : Nat × List Int => [(0, .pointer (some ⟨A, 0, none⟩)), (3, .slice (some ⟨ob, 0, none⟩) k k), (65, .slice mA mv.length mc), (66, .int .i64 (mv.length : Int)), (67, .int .i64 (s.1 : Int))]) (fun s => (ob, .cells (s.2.map intV).toArray 3 (0, 0)) :: (Lm ++ L20)) (fun s => s.1 ≤ mv.length ∧ s.2.length = k ∧ place (mv.drop s.1) s.2 = seated a ∧ mv.length ≤ free s.2 + s.1 ∧ (∀ x ∈ s.2, seatOk a x)) (fun s => mv.length - s.1) (0, on) ⟨rfl, rfl, rfl, rfl, rfl, trivial⟩ (fun _ h => h) ⟨Nat.zero_le _, hk2, hse, by simp only; omega, hk6⟩ fun ⟨i2, on2⟩ hq => ?_)
    obtain ⟨hq1, hq2, hq3, hq4, hq5⟩ := hq
    simp only at hq1 hq2 hq3 hq4 hq5
    refine .seq (.reg (.ltS rfl rfl (fun h68 => ?_) (fun h68 => ?_)))
    · have hi2 : i2 < mv.length := by omega
      obtain ⟨qb, qc, hqe, hrd⟩ := OS.read (enc := fun x => [intV x]) (k := 1) (fun _ => rfl) hk3 hi2
      cases hqe
      have hfr := idxI_free (xs := on2) (by omega)
      refine .nil (.code ?_)
      refine .seq (.tt (.skip (.code ?_)))
      refine .seq (.block (.seq (.reg (.q (.ix s41 rfl rfl (by omega)) (.q (.ld (v := .int .i64 mv[i2]) o3 rfl (fun w1 hz => by simpa [intV] using hrd _ _ w1 _ _ hz (fun x hx => List.mem_cons_of_mem _ (List.mem_append_left _ hx)) 0 (by omega))) (.q (.assign rfl) (.nil (.code ?_))))))))
      refine .reg (.q (.move rfl) (.q (.move rfl) (.q (.call (v := .int .i64 ((on2.idxOf (-1) : Nat) : Int)) fn129 rfl (fun w hz => by have h9 := index_calls w ob k on2 (-1) (by omega) (hz.has (i := 0) rfl); rw [hq2, hfr.1] at h9; exact h9)) (.q (.move rfl) (.q (.ix s41 rfl rfl (by omega)) (.st o3 0 rfl rfl rfl rfl (by simp [Nat.blt_eq]; omega) (?_)))))))
      rw [show 0 + on2.idxOf (-1) * 1 = on2.idxOf (-1) by omega, map_set']
      refine .nil (.inbN (.code ?_))
      refine .reg (.q (.add rfl rfl (IntWalk.i64_in _ (by omega))) (.q (.move rfl) (.nil (.rd (i2 + 1, on2.set (on2.idxOf (-1)) mv[i2]) ⟨rfl, rfl, rfl, rfl, rfl, trivial⟩ (fun _ h => h) ⟨by simp only; omega, by simp only [List.length_set]; exact hq2, by rw [← hq3, drop_cons hi2, place], by have := free_set on2 (on2.idxOf (-1)) mv[i2]; simp only; omega, set_mem hq5 (hk7 _ (List.getElem_mem hi2)).2⟩ (by simp only; omega)))))
    · refine .nil (.code ?_)
      refine .seq (.ff (.exit (.thE (.thE (.inbX (.code ?_))))))
      refine .seq (.reg (?_))
      have hie2 : mv.length = i2 := by omega
      have hse2 : on2 = seated a := by rw [List.drop_of_length_le (by omega), place] at hq3; exact hq3
      refine .q (.assign rfl) (.nil (.code ?_))
      refine .seq (.seq (.reg (.q (.move rfl) (.q (.lenS s41.t rfl) (.q (.move rfl) (.nil (.code ?_)))))))
      refine .block (.lp (fun s : Nat × Value × List Blk => [(0, .pointer (some ⟨A, 0, none⟩)), (10, s.2.1), (77, .slice (some ⟨ob, 0, none⟩) k k), (78, .int .i64 (k : Int)), (79, .int .i64 (s.1 : Int))]) (fun s => (ob, .cells (on2.map intV).toArray 3 (0, 0)) :: (s.2.2 ++ (Lm ++ L20))) (fun s => s.1 ≤ k ∧ OS 26 8 s.2.1 ((upTo (onF a on2) s.1).flatMap encE) (upTo (onF a on2) s.1).length s.2.2) (fun s => k - s.1) (0, .slice none 0 0, []) ⟨rfl, rfl, rfl, rfl, rfl, trivial⟩ (fun _ h => h) ⟨Nat.zero_le _, OS.nil _ _⟩ fun ⟨i3, v10, Lq⟩ hr => ?_)
      obtain ⟨hr1, hr2⟩ := hr
      simp only at hr1 hr2
      have hul := upTo_len (onF a on2) i3
      refine .seq (.reg (.ltS rfl rfl (fun h80 => ?_) (fun h80 => ?_)))
      · have hi3 : i3 < k := by omega
        have hlt3 : i3 < on2.length := by omega
        refine .nil (.code ?_)
        refine .seq (.tt (.skip (.code ?_)))
        refine .seq (.block (.seq (.reg (.q (.move rfl) (.q (.ix s41 rfl rfl (by omega)) (?_))))))
        rcases hq5 on2[i3] (List.getElem_mem hlt3) with hm | ⟨i0, hi0, hn0, hs0⟩
        · have hx : onF a on2 i3 = none := by simp only [onF, List.getElem?_eq_getElem hlt3, hm]; rfl
          refine .q (.ldO (v := .int .i64 (-1)) o3 0 rfl rfl (by rw [Nat.zero_add, Nat.mul_one, List.getElem?_map, List.getElem?_eq_getElem hlt3, hm]; rfl)) (.q (.assign rfl) (.q (.assign rfl) (.nil (.code ?_))))
          refine .seq (.reg (.q (.move rfl) (.q (.cmp rfl rfl (geF (by omega))) (.nil (.code ?_)))))
          refine .ff (.skip (.inbN (.code ?_)))
          refine .reg (.q (.add rfl rfl (IntWalk.i64_in _ (by omega))) (.q (.move rfl) (.nil (.rd (i3 + 1, v10, Lq) ⟨rfl, rfl, rfl, rfl, rfl, trivial⟩ (fun _ h => h) ⟨by simp only; omega, by rw [show upTo (onF a on2) (i3 + 1) = upTo (onF a on2) i3 from upTo_no hx]; exact hr2⟩ (by simp only; omega)))))
        · obtain ⟨b, j, hp⟩ : ∃ b j, ps[i0]'(by omega) = some (b, j) := by
            rcases hp : ps[i0]'(by omega) with _ | ⟨b, j⟩
            · rw [hW.nojob (by omega) hp] at hs0; cases hs0
            · exact ⟨b, j, rfl⟩
          obtain ⟨hj, hj2, hb⟩ := hW.job (by omega) hp
          obtain ⟨b1, b2, b3, b4, b5, b6, b7, b8⟩ := hI.job i0 j hj2
          have hx : onF a on2 i3 = some ⟨a.slot, (i3 : Int), (i0 : Int), j.no, 2, j.done + 1, 0, 0⟩ := by simp only [onF, List.getElem?_eq_getElem hlt3, hn0, Int.toNat_natCast, hj]; rw [if_pos (by omega)]
          refine .q (.ldO (v := .int .i64 (i0 : Int)) o3 0 rfl rfl (by rw [Nat.zero_add, Nat.mul_one, List.getElem?_map, List.getElem?_eq_getElem hlt3, hn0]; rfl)) (.q (.assign rfl) (.q (.assign rfl) (.nil (.code ?_))))
          refine .seq (.reg (.q (.move rfl) (.q (.cmp rfl rfl (geT (by omega))) (.nil (.code ?_)))))
          refine .tt (.drawS (F := Z w w [] []) mix [] [] [0, 1, 2, 3, 4, 5, 6, 7, 8, 9, 10, 11, 12, 13, 14, 15, 16, 17, 18, 19, 20, 21, 22, 23, 24, 25, 26, 27, 28] (.one 29 (.one 30 (.one 31 .nil))) (by kernel_rfl) (fun _ h => h.drew) (fun _ h => h.sublist (List.nil_sublist _)) (.toS (.q (.move rfl) (.q (.move rfl) (.q (.nilP rfl) (.q (.fld f89_5 rfl) (.q (.ldW o3 rfl (cellOf hW.hA rfl)) (.q (.move rfl) (.q (.move rfl) (.q (.move rfl) (.q (.nilP rfl) (.q (.fld f89_2 rfl) (.q (.ldW o87 rfl (cellOf hW.hA rfl)) (.q (.move rfl) (.q (.ix s87 rfl rfl (by omega)) (.q (.ldW o226 rfl (ptr_some hW.hJ (by omega) hp)) (.q (.nilP rfl) (.q (.fld f228_0 rfl) (.q (.ldW o3 rfl (cellOf hb rfl)) (.q (.move rfl) (.q (.nilP rfl) (.q (.fld f89_2 rfl) (.q (.ldW o87 rfl (cellOf hW.hA rfl)) (.q (.move rfl) (.q (.ix s87 rfl rfl (by omega)) (.q (.ldW o226 rfl (ptr_some hW.hJ (by omega) hp)) (.q (.nilP rfl) (.q (.fld f228_2 rfl) (.q (.ldW o3 rfl (cellOf hb rfl)) (.q (.add rfl rfl (IntWalk.i64_in _ (by omega))) (.q (.build st26 rfl rfl) (.toT (.step rfl (.bslice s22 rfl rfl rfl fun b115 => .nil (.tk (fun _ h => h.sublist (List.nil_sublist _)) (.step rfl (.app1 s22 (by omega) (by omega) rfl rfl hr2 (pkC (.refl _)) (by rfl) (encE_one ⟨a.slot, (i3 : Int), (i0 : Int), j.no, 2, j.done + 1, 0, 0⟩) (by omega) fun v116 L116 o116 => (.nil (.tk (fun _ h => h.sublist (List.nil_sublist _)) (.step rfl (?_)))))))))))))))))))))))))))))))))))))))))
          have hie2 : mv.length = i2 := by omega
          have hse2 : on2 = seated a := by rw [List.drop_of_length_le (by omega), place] at hq3; exact hq3
          refine .q (.assign rfl) (.nil (.tk (fun _ h => h.sublist (List.nil_sublist _)) (.nil (.inbN (.code ?_)))))
          refine .reg (.q (.add rfl rfl (IntWalk.i64_in _ (by omega))) (.q (.move rfl) (.nil (.rd (i3 + 1, v116, L116) ⟨rfl, rfl, rfl, rfl, rfl, trivial⟩ (fun _ h => h.perm List.perm_middle) ⟨by simp only; omega, by rw [show upTo (onF a on2) (i3 + 1) = upTo (onF a on2) i3 ++ [_] from upTo_yes hx]; exact OS.snoc o116⟩ (by simp only; omega)))))
      · refine .nil (.code ?_)
        refine .seq (.ff (.exit (.thE (.thE (.inbX (.code ?_))))))
        refine .seq (.reg (.q (.move rfl) (.q (.assign rfl) (.nil (.code ?_)))))
        refine .ret (.ret1 Tryz.results86 rfl fun w1 hz => ⟨_, Lq, rfl, (hz.perm List.perm_middle.symm).sublist (List.sublist_append_left _ _), by rw [selection, ← hse2, ← hkc, show k = i3 by omega]; exact hr2⟩)

end Go.Proofs.YtjccenbacjhglaaGreatDoor.AU2
