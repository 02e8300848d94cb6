import Derived.Test.YtjccenbacjhglaaProg
import Derived.Test.YtjccenbacjhglaaK
import Derived.Test.YtjccenbacjhglaaM
import Derived.Test.YtjccenbacjhglaaIS
import Derived.Test.YtjccenbacjhglaaM2
import Derived.Test.YtjccenbacjhglaaMS
import Derived.Test.YtjccenbacjhglaaPF
import Derived.Test.YtjccenbacjhglaaSO
import Derived.Test.YtjccenbacjhglaaAU
import Derived.Test.YtjccenbacjhglaaR1
import Derived.Test.YtjccenbacjhglaaR2
import Derived.Test.YtjccenbacjhglaaR3
import Derived.Test.YtjccenbacjhglaaS1
import Derived.Test.YtjccenbacjhglaaS2
import Derived.Test.YtjccenbacjhglaaS3
import Derived.Test.YtjccenbacjhglaaS4
import Derived.Test.YtjccenbacjhglaaS5
import Derived.Test.YtjccenbacjhglaaS6
import Derived.Test.YtjccenbacjhglaaS7
import Derived.Test.YtjccenbacjhglaaS8
import Derived.Test.YtjccenbacjhglaaS9
import Derived.Test.YtjccenbacjhglaaS10
import Derived.Test.YtjccenbacjhglaaSP
import Derived.Test.YtjccenbacjhglaaS11
set_option linter.unusedVariables false
set_option linter.unusedSimpArgs false
set_option maxRecDepth 100000
set_option maxHeartbeats 1000000
namespace Go.Proofs.Ytjccenbacjhglaa.S12
open Go Go.Proofs Go.RowKit Go.Proofs.Ytjccenbacjhglaa.K Go.Proofs.Ytjccenbacjhglaa.M Go.Proofs.Ytjccenbacjhglaa.PF Go.Proofs.Ytjccenbacjhglaa.SO Go.Proofs.Ytjccenbacjhglaa.AU Go.Proofs.Ytjccenbacjhglaa.R1 Go.Proofs.Ytjccenbacjhglaa.R2 Go.Proofs.Ytjccenbacjhglaa.R3 Go.Proofs.Ytjccenbacjhglaa.S1 Go.Proofs.Ytjccenbacjhglaa.S2 Go.Proofs.Ytjccenbacjhglaa.S3 Go.Proofs.Ytjccenbacjhglaa.S4 Go.Proofs.Ytjccenbacjhglaa.S5 Go.Proofs.Ytjccenbacjhglaa.S6 Go.Proofs.Ytjccenbacjhglaa.S7 Go.Proofs.Ytjccenbacjhglaa.S8 Go.Proofs.Ytjccenbacjhglaa.S9 Go.Proofs.Ytjccenbacjhglaa.S10 Go.Proofs.Ytjccenbacjhglaa.SP Go.Proofs.Ytjccenbacjhglaa.S11
theorem a44 : Ag Try.prog 44 4 := ⟨_, Try.underlying44, rfl, by kernel_rfl⟩
theorem f44_2 : Fld Try.prog 44 2 2 := ⟨_, _, Try.underlying44, rfl, rfl, 0, by kernel_rfl⟩
theorem f44_3 : Fld Try.prog 44 3 3 := ⟨_, _, Try.underlying44, rfl, rfl, 0, by kernel_rfl⟩
theorem fn17 : Fnc Try.prog 17 := ⟨by kernel_rfl⟩
theorem fn18 : Fnc Try.prog 18 := ⟨by kernel_rfl⟩
theorem fn19 : Fnc Try.prog 19 := ⟨by kernel_rfl⟩
theorem mix : Try.prog.follows .mixedOrders = true := by kernel_rfl
theorem o3 : One Try.prog 3 := ⟨_, Try.underlying3, rfl, by kernel_rfl⟩
theorem o37 : One Try.prog 37 := ⟨_, Try.underlying37, rfl, by kernel_rfl⟩
theorem o42 : One Try.prog 42 := ⟨_, Try.underlying42, rfl, by kernel_rfl⟩
theorem s22 : Slc Try.prog 22 62 3 32 [.string ⟨#[]⟩, .int .i64 0, .int .i64 0] := ⟨Try.underlying22, by kernel_rfl, rfl⟩
theorem s37 : Slc Try.prog 37 3 1 8 [.int .i64 0] := ⟨Try.underlying37, by kernel_rfl, rfl⟩
theorem s42 : Slc Try.prog 42 37 1 24 [.slice none 0 0] := ⟨Try.underlying42, by kernel_rfl, rfl⟩
theorem s45 : Slc Try.prog 45 37 1 24 [.slice none 0 0] := ⟨Try.underlying45, by kernel_rfl, rfl⟩
theorem z44 : Zr Try.prog 44 [.slice none 0 0, .int .i64 0, .slice none 0 0, .int .i64 0] := ⟨by kernel_rfl⟩

theorem rollA {X P Q R : List Blk} {a b : Blk} {w0 we w : World} {Le : List Blk} (h : Z w0 we Le (X ++ (a :: b :: (P ++ (Q ++ (R ++ []))))) w) : Z w0 we Le (a :: b :: (P ++ (Q ++ (R ++ X)))) w := by
  refine h.perm (List.perm_append_comm.trans ?_)
  simp only [List.append_nil, List.cons_append, List.append_assoc]; exact .refl _
theorem rollB {X P R : List Blk} {a b : Blk} {w0 we w : World} {Le : List Blk} (h : Z w0 we Le (X ++ (a :: b :: (P ++ R))) w) : Z w0 we Le (a :: b :: (P ++ (X ++ R))) w := by
  refine h.perm ((List.perm_middle.trans ((List.perm_middle (a := b)).cons a)).trans (((?_ : (X ++ (P ++ R)).Perm (P ++ (X ++ R))).cons b).cons a))
  rw [← List.append_assoc, ← List.append_assoc]
  exact List.perm_append_comm.append_right _
theorem cut_in {rs : List (List Int)} {k : Int} (h : inI rs) : inI (cutR k rs) := fun r hr x hx => by
  obtain ⟨r0, hr0, rfl⟩ := List.mem_map.1 hr
  exact h r0 hr0 x (List.mem_filter.1 hx).1
theorem cut_len {rs : List (List Int)} {k : Int} : (cutR k rs).length = rs.length := List.length_map _
theorem cut_row {rs : List (List Int)} {k : Int} (h : ∀ i (h : i < rs.length), rs[i].length ≤ 20) : ∀ r ∈ cutR k rs, r.length ≤ 1000000 := fun r hr => by
  obtain ⟨r0, hr0, rfl⟩ := List.mem_map.1 hr
  obtain ⟨i, hi, rfl⟩ := List.getElem_of_mem hr0
  have := h i hi
  have := List.length_filter_le (fun x => decide (x < k)) rs[i]
  omega
theorem cut_snoc {rs : List (List Int)} {k : Int} {i : Nat} (hi : i < rs.length) : cutR k (rs.take (i + 1)) = cutR k (rs.take i) ++ [rs[i].filter fun x => decide (x < k)] := by
  unfold cutR; rw [List.take_succ_eq_append_getElem hi, List.map_append]; rfl
theorem fil_snoc {r : List Int} {k : Int} {j : Nat} (hj : j < r.length) : (r.take (j + 1)).filter (fun x => decide (x < k)) = (r.take j).filter (fun x => decide (x < k)) ++ (if r[j] < k then [r[j]] else []) := by
  rw [List.take_succ_eq_append_getElem hj, List.filter_append]
  congr 1
  by_cases h : r[j] < k
  · rw [if_pos h, List.filter_cons_of_pos (by simpa using h)]; rfl
  · rw [if_neg h, List.filter_cons_of_neg (by simpa using h)]; rfl

theorem slotsCausal_calls (w : World) (lv rv : Value) (l : List Tk) (cores : Int) (rs : List (List Int)) (U : Int) (x1 : Int) (hl : Rd encT 3 w lv l) (hr : Rd2 w rv rs) (hR : inI rs) (hx1 : 0 ≤ x1 ∧ x1 ≤ 255) : Calls Try.prog 5 #[.agg (plV lv cores rv U).toArray, .int .u8 x1] w fun e w' => e = .returned (.bool true) ∧ Below w.heap.size w w' := by
  obtain ⟨lA, lc, rfl⟩ : ∃ A c, lv = .slice A l.length c := by obtain ⟨A, c, h, _⟩ := hl; exact ⟨A, c, h⟩
  obtain ⟨rA, rc, rfl⟩ := hr.len
  refine enter (args := [_, _]) Try.func5 rfl rfl rfl (C := Z w w [] []) (Z.start (H.nil w)) ?_
  refine .seq (.reg (.box rfl fun b2 => .q (.assign rfl) (.nil (.code ?_))))
  refine .seq (.seq (.reg (.q (.call fn17 rfl (fun w hz => awake46_calls w)) (.q (.notB rfl) (.nil (.code ?_))))))
  refine .ff (.skip (.code ?_))
  refine .seq (.reg (.q (.ldOA a44 0 rfl rfl rfl rfl) (?_)))
  rcases hok : okPl l cores rs U with _ | _
  · refine .q (.call (v := .tuple #[.slice none 0 0, .slice none 0 0, .bool false]) fn18 rfl (fun w hz => simulated_no w _ _ l cores rs U (hl.below hz.h.below) (hr.below hz.h.below) hR hok)) (.q (.move rfl) (.q (.ext rfl rfl) (.q (.ext rfl rfl) (.q (.ext rfl rfl) (.q (.assign rfl) (.q (.assign rfl) (.q (.assign rfl) (.nil (.code ?_)))))))))
    refine .seq (.seq (.reg (.q (.move rfl) (.q (.notB rfl) (.nil (.code ?_))))))
    refine .tt (.seq (.reg (.q (.assign rfl) (.nil (.code ?_)))))
    refine .ret (.thR (.ret1 Try.results5 rfl fun w1 hz => ⟨rfl, hz.h.below⟩))
  · obtain ⟨q1, q2, q3, q4, q5, q6⟩ := okPl_out hok
    obtain ⟨U, rfl⟩ : ∃ n : Nat, U = (n : Int) := ⟨U.toNat, by omega⟩
    obtain ⟨_, hc0, hc1⟩ := valid_RnI q2 hR
    have hkn : 0 ≤ Int.tmod x1 ((U : Int) + 1) ∧ Int.tmod x1 ((U : Int) + 1) < (U : Int) + 1 := ⟨Int.tmod_nonneg _ hx1.1, Int.tmod_lt_of_pos _ (by omega)⟩
    obtain ⟨k, hk⟩ : ∃ k : Nat, Int.tmod x1 ((U : Int) + 1) = (k : Int) := ⟨(Int.tmod x1 ((U : Int) + 1)).toNat, (Int.toNat_of_nonneg hkn.1).symm⟩
    rw [hk] at hkn
    have hkU : k ≤ U := by omega
    have hvv := validS_out q2
    have hrl : rs.length = l.length := hvv.2.2.2.1
    refine .callA fn18 rfl (fun w hz => simulated_calls w _ _ l cores rs U (hl.below hz.h.below) (hr.below hz.h.below) hR hok) fun v23 L23 p23 => ?_
    obtain ⟨ov, mv, Lo, Lr, Lm, rfl, rfl, hS, hM, hlen, hmsb⟩ := p23
    refine .world ?_ (fun _ h => zperm List.perm_append_comm h)
    refine .q (.move rfl) (.q (.ext rfl rfl) (.q (.ext rfl rfl) (.q (.ext rfl rfl) (.q (.assign rfl) (.q (.assign rfl) (.q (.assign rfl) (.nil (.code ?_))))))))
    refine .seq (.seq (.reg (.q (.move rfl) (.q (.notB rfl) (.nil (.code ?_))))))
    refine .ff (.skip (.code ?_))
    refine .seq (.reg (.q (.move rfl) (.q (.conv (r := x1) Try.underlying5 Try.underlying3 rfl (IntWalk.i64_in _ (by omega))) (.q (.fld f44_3 rfl) (.q (.ldO o3 0 rfl rfl rfl) (.q (.add rfl rfl (IntWalk.i64_in _ (by omega))) (.q (.rem rfl rfl (by omega) hk) (.q (.assign rfl) (.nil (.code ?_))))))))))
    refine .seq (.reg (.q (.ldOA a44 0 rfl rfl rfl rfl) (.alloc z44 fun b9 => .stA a44 0 rfl rfl rfl rfl rfl rfl (.nil (.code ?_)))))
    refine .seq (.reg (.q (.move rfl) (.q (.fld f44_3 rfl) (.st o3 0 rfl rfl rfl rfl rfl (.nil (.code ?_))))))
    refine .seq (.reg (.q (.fld f44_2 rfl) (.st o42 0 rfl rfl rfl rfl rfl (.nil (.code ?_)))))
    refine .seq (.seq (.reg (.q (.fld f44_2 rfl) (.q (.ldO o42 1 rfl rfl rfl) (.q (.lenS s42.t rfl) (.q (.move rfl) (.nil (.code ?_))))))))
    refine .block (.lp (fun z : Nat × Value × List Blk × List Blk => [(2, .pointer (some ⟨b2, 0, none⟩)), (5, ov), (8, .int .i64 (k : Int)), (9, .pointer (some ⟨b9, 0, none⟩)), (40, .slice rA rs.length rc), (41, .int .i64 (rs.length : Int)), (42, .int .i64 (z.1 : Int))]) (fun z => (b9, .cells (plV (.slice lA l.length lc) cores z.2.1 (k : Int)).toArray 44 (0, 0)) :: (b2, .cells (plV (.slice lA l.length lc) cores (.slice rA rs.length rc) (U : Int)).toArray 44 (0, 0)) :: ((Lm ++ (Lo ++ Lr)) ++ (z.2.2.1 ++ z.2.2.2))) (fun z => z.1 ≤ rs.length ∧ SchO z.2.1 (cutR (k : Int) (rs.take z.1)) z.2.2.1 z.2.2.2) (fun z => rs.length - z.1) (0, .slice none 0 0, [], []) ⟨rfl, rfl, rfl, rfl, rfl, rfl, rfl, trivial⟩ (fun _ h => by rw [List.append_nil, List.append_nil]; exact h) ⟨Nat.zero_le _, ⟨[], rfl, OS.nil _ _, fun i h => absurd h (by simp)⟩⟩ fun ⟨i, qv, Lo2, Lr2⟩ hi0 => ?_)
    obtain ⟨hi1, hi2⟩ := hi0
    simp only at hi1 hi2
    obtain ⟨vs, hvl, hvO, hvR⟩ := id hi2
    obtain ⟨qA, qc, hqv⟩ := OS.form hvO
    subst hqv
    have hvs : vs.length = i := by rw [hvl, cut_len, List.length_take]; omega
    show WC _ _ _ _ (Z w w _ ((b9, .cells (plV (.slice lA l.length lc) cores (.slice qA vs.length qc) (k : Int)).toArray 44 (0, 0)) :: (b2, .cells (plV (.slice lA l.length lc) cores (.slice rA rs.length rc) (U : Int)).toArray 44 (0, 0)) :: ((Lm ++ (Lo ++ Lr)) ++ (Lo2 ++ Lr2)))) _
    refine .seq (.reg (.ltS rfl rfl (fun h43 => ?_) (fun h43 => ?_)))
    · have hi : i < rs.length := by omega
      obtain ⟨b, off, c, A2, c3, he, hcell, hrow⟩ := Rd2.at hr hi
      cases he
      have hrb := q6 i hi
      refine .nil (.code ?_)
      refine .seq (.tt (.skip (.code ?_)))
      refine .seq (.block (.seq (.reg (.q (.ix s42 rfl rfl (by omega)) (.q (.ldW o37 rfl hcell) (.q (.assign rfl) (.nil (.code ?_))))))))
      refine .seq (.reg (.q (.assign rfl) (.nil (.code ?_))))
      refine .seq (.seq (.reg (.q (.move rfl) (.q (.lenS s37.t rfl) (.q (.move rfl) (.nil (.code ?_)))))))
      refine .block (.lp (fun z : Nat × Value × List Blk => [(2, .pointer (some ⟨b2, 0, none⟩)), (5, ov), (8, .int .i64 (k : Int)), (9, .pointer (some ⟨b9, 0, none⟩)), (40, .slice (some ⟨b, off, none⟩) rs.length rc), (41, .int .i64 (rs.length : Int)), (42, .int .i64 (i : Int)), (12, z.2.1), (46, .slice A2 rs[i].length c3), (47, .int .i64 (rs[i].length : Int)), (48, .int .i64 (z.1 : Int))]) (fun z => (b9, .cells (plV (.slice lA l.length lc) cores (.slice qA vs.length qc) (k : Int)).toArray 44 (0, 0)) :: (b2, .cells (plV (.slice lA l.length lc) cores (.slice (some ⟨b, off, none⟩) rs.length rc) (U : Int)).toArray 44 (0, 0)) :: ((Lm ++ (Lo ++ Lr)) ++ (Lo2 ++ (Lr2 ++ z.2.2)))) (fun z => z.1 ≤ rs[i].length ∧ OS 3 1 z.2.1 (((rs[i].take z.1).filter fun x => decide (x < (k : Int))).flatMap eI) ((rs[i].take z.1).filter fun x => decide (x < (k : Int))).length z.2.2) (fun z => rs[i].length - z.1) (0, .slice none 0 0, []) ⟨rfl, rfl, rfl, rfl, rfl, rfl, rfl, rfl, rfl, rfl, rfl, trivial⟩ (fun _ h => by rw [List.append_nil]; exact h) ⟨Nat.zero_le _, OS.nil _ _⟩ fun ⟨j, wv, Lw⟩ hj0 => ?_)
      obtain ⟨hj1, hj2⟩ := hj0
      simp only at hj1 hj2
      have hfl : ((rs[i].take j).filter fun x => decide (x < (k : Int))).length ≤ 20 := by
        have := List.length_filter_le (fun x => decide (x < (k : Int))) (rs[i].take j)
        rw [List.length_take] at this
        omega
      show WC _ _ _ _ (Z w w _ ((b9, .cells (plV (.slice lA l.length lc) cores (.slice qA vs.length qc) (k : Int)).toArray 44 (0, 0)) :: (b2, .cells (plV (.slice lA l.length lc) cores (.slice (some ⟨b, off, none⟩) rs.length rc) (U : Int)).toArray 44 (0, 0)) :: ((Lm ++ (Lo ++ Lr)) ++ (Lo2 ++ (Lr2 ++ Lw))))) _
      refine .seq (.reg (.ltS rfl rfl (fun h49 => ?_) (fun h49 => ?_)))
      · have hj : j < rs[i].length := by omega
        obtain ⟨xb, xo, xc, hxe, hxr⟩ := Rd.at hrow hj
        cases hxe
        refine .nil (.code ?_)
        refine .seq (.tt (.skip (.code ?_)))
        refine .seq (.block (.seq (.reg (.q (.ix s37 rfl rfl (by omega)) (.q (.ldW (v := .int .i64 rs[i][j]) o3 rfl (by have := hxr 0 (by omega); exact this)) (.q (.assign rfl) (.nil (.code ?_))))))))
        refine .seq (.reg (.q (.move rfl) (.q (.move rfl) (.ltS rfl rfl (fun h54 => ?_) (fun h54 => ?_)))))
        · refine .nil (.code ?_)
          refine .tt (.reg (.q (.move rfl) (.q (.move rfl) (.bslice s37 rfl rfl rfl fun b57 => .app1 s37 (by omega) (by omega) rfl rfl hj2 (pkC (pkC (pkA (pkA (pkA (pkN _)))))) (by rfl) (show ∀ u ∈ [Value.int .i64 rs[i][j]], u.oneCell' = true by simp [Value.oneCell']) (by omega) fun v58 L58 o58 => (.q (.assign rfl) (.nil (.inbN (.code ?_))))))))
          refine .reg (.q (.add rfl rfl (IntWalk.i64_in _ (by omega))) (.q (.move rfl) (.nil (.rd (j + 1, v58, L58) ⟨rfl, rfl, rfl, rfl, rfl, rfl, rfl, rfl, rfl, rfl, rfl, trivial⟩ (fun _ h => rollA h) ⟨by simp only; omega, by simp only; rw [fil_snoc hj, if_pos h54]; exact OS.snoc o58⟩ (by simp only; omega)))))
        · refine .nil (.code ?_)
          refine .ff (.skip (.inbN (.code ?_)))
          refine .reg (.q (.add rfl rfl (IntWalk.i64_in _ (by omega))) (.q (.move rfl) (.nil (.rd (j + 1, wv, Lw) ⟨rfl, rfl, rfl, rfl, rfl, rfl, rfl, rfl, rfl, rfl, rfl, trivial⟩ (fun _ h => h) ⟨by simp only; omega, by simp only; rw [fil_snoc hj, if_neg (by omega), List.append_nil]; exact hj2⟩ (by simp only; omega)))))
      · have htk : rs[i].take j = rs[i] := List.take_of_length_le (by omega)
        rw [htk] at hj2
        obtain ⟨wA, wc, hwv⟩ := OS.form hj2
        subst hwv
        refine .nil (.code ?_)
        refine .seq (.ff (.exit (.thE (.thE (.inbX (.code ?_))))))
        refine .reg (.q (.fld f44_2 rfl) (.q (.ldO o42 0 rfl rfl rfl) (.q (.move rfl) (.bslice s42 rfl rfl rfl fun b63 => .app1 s42 (by omega) (by omega) rfl rfl hvO (pkC (pkC (pkA (.refl _)))) (by rfl) (show ∀ u ∈ [Value.slice wA _ wc], u.oneCell' = true by simp [Value.oneCell']) (by omega) fun v64 L64 o64 => (?_)))))
        obtain ⟨nA, nc, hnv⟩ := OS.form o64
        subst hnv
        refine .world ?_ (fun _ h => rollB h)
        refine .q (.fld f44_2 rfl) (.st o42 0 rfl rfl rfl rfl rfl (.nil (.inbN (.code ?_))))
        refine .reg (.q (.add rfl rfl (IntWalk.i64_in _ (by omega))) (.q (.move rfl) (.nil (.rd (i + 1, .slice nA (vs.length + 1) nc, L64, Lr2 ++ Lw) ⟨rfl, rfl, rfl, rfl, rfl, rfl, rfl, trivial⟩ (fun _ h => h) ⟨by simp only; omega, by simp only; rw [cut_snoc hi]; exact SchO.snoc hvl hvR o64 hj2⟩ (by simp only; omega)))))
    · have hcut : cutR (k : Int) (rs.take i) = cutR (k : Int) rs := by rw [List.take_of_length_le (by omega)]
      rw [hcut] at hi2
      have hcl : (cutR (k : Int) rs).length = rs.length := cut_len
      refine .nil (.code ?_)
      refine .seq (.ff (.exit (.thE (.thE (.inbX (.code ?_))))))
      refine .seq (.reg (.q (.ldOA a44 0 rfl rfl rfl rfl) (.callA fn18 rfl (fun w hz => simulated_calls w _ _ l cores (cutR (k : Int) rs) k (hl.below hz.h.below) (hi2.rd2 (by omega) (cut_row q6) hz (fun x hx => List.mem_cons_of_mem _ (List.mem_cons_of_mem _ (List.mem_append_right _ (List.mem_append_left _ hx)))) (fun x hx => List.mem_cons_of_mem _ (List.mem_cons_of_mem _ (List.mem_append_right _ (List.mem_append_right _ hx))))) (cut_in hR) (cut_ok hok hkU)) fun v69 L69 p69 => ?_)))
      obtain ⟨ov2, mv2, Lo3, Lr3, Lm3, rfl, rfl, hS2, hM2, hlen2, hmsb2⟩ := p69
      obtain ⟨oA, oc, hov2⟩ := SchO.form hS2
      subst hov2
      refine .q (.move rfl) (.q (.ext rfl rfl) (.q (.ext rfl rfl) (.q (.ext rfl rfl) (.q (.assign rfl) (.q (.assign rfl) (.q (.assign rfl) (.nil (.code ?_))))))))
      refine .seq (.seq (.reg (.q (.move rfl) (.q (.notB rfl) (.q (.move rfl) (.q (.move rfl) (.q (.lenS s45.t rfl) (.q (.move rfl) (.q (.cmp rfl rfl (neF (by omega))) (.q (.pickF rfl rfl) (.nil (.code ?_))))))))))))
      refine .ff (.skip (.code ?_))
      refine .seq (.seq (.reg (.q (.move rfl) (.q (.lenS s45.t rfl) (.q (.move rfl) (.nil (.code ?_)))))))
      refine .block (.lp (fun t : Nat => [(5, ov), (15, .slice oA (simOut l (cutR (k : Int) rs) cores k).length oc), (82, .int .i64 ((simOut l (cutR (k : Int) rs) cores k).length : Int)), (83, .int .i64 (t : Int))]) (fun _ => (Lm3 ++ (Lo3 ++ Lr3)) ++ ((b9, .cells (plV (.slice lA l.length lc) cores (.slice qA vs.length qc) (k : Int)).toArray 44 (0, 0)) :: (b2, .cells (plV (.slice lA l.length lc) cores (.slice rA rs.length rc) (U : Int)).toArray 44 (0, 0)) :: ((Lm ++ (Lo ++ Lr)) ++ (Lo2 ++ Lr2)))) (fun t => t ≤ k) (fun t => k - t) 0 ⟨rfl, rfl, rfl, rfl, trivial⟩ (fun _ h => h) (Nat.zero_le _) fun t ht0 => ?_)
      refine .seq (.reg (.ltS rfl rfl (fun h84 => ?_) (fun h84 => ?_)))
      · have ht : t < k := by omega
        obtain ⟨ub, uc, uA, uc2, hu1, hur⟩ := SchO.at hS2 (i := t) (by omega)
        obtain ⟨yb, yc, yA, yc2, hy1, hyr⟩ := SchO.at hS (i := t) (by omega)
        cases hu1
        subst hy1
        have hrowE : (simOut l (cutR (k : Int) rs) cores k)[t]'(by omega) = (simOut l rs cores U)[t]'(by omega) := by
          have h9 := cut_at hvv hkU ht
          rw [List.getElem?_eq_getElem (by omega), List.getElem?_eq_getElem (by omega)] at h9
          exact Option.some.inj h9
        have hrb := simRow_len _ (List.getElem_mem (show t < (simOut l rs cores U).length by omega))
        rw [hrowE] at hur
        refine .nil (.code ?_)
        refine .seq (.tt (.skip (.code ?_)))
        refine .seq (.block (.seq (.reg (.q (.move rfl) (.q (.assign rfl) (.nil (.code ?_)))))))
        refine .seq (.draw mix (by kernel_rfl) (fun _ h => h.drew) (.q (.move rfl) (.q (.move rfl) (.q (.ix s45 rfl rfl (by omega)) (.q (.ld o37 rfl (fun w1 hz => (hur _ _ w1 _ _ hz (fun x hx => List.mem_append_left _ (List.mem_append_right _ (List.mem_append_left _ hx)))).1)) (.q (.move rfl) (.q (.move rfl) (.q (.ix s45 rfl rfl (by omega)) (.q (.ld o37 rfl (fun w1 hz => (hyr _ _ w1 _ _ hz (fun x hx => List.mem_append_right _ (List.mem_cons_of_mem _ (List.mem_cons_of_mem _ (List.mem_append_left _ (List.mem_append_right _ (List.mem_append_left _ hx))))))).1)) (.q (.call fn19 rfl (fun w hz => ints41_calls w _ _ ((simOut l rs cores U)[t]'(by omega)) ((hur _ _ w _ _ hz (fun x hx => List.mem_append_left _ (List.mem_append_right _ (List.mem_append_left _ hx)))).2 (fun x hx => List.mem_append_left _ (List.mem_append_right _ (List.mem_append_right _ hx))) (by omega)) ((hyr _ _ w _ _ hz (fun x hx => List.mem_append_right _ (List.mem_cons_of_mem _ (List.mem_cons_of_mem _ (List.mem_append_left _ (List.mem_append_right _ (List.mem_append_left _ hx))))))).2 (fun x hx => List.mem_append_right _ (List.mem_cons_of_mem _ (List.mem_cons_of_mem _ (List.mem_append_left _ (List.mem_append_right _ (List.mem_append_right _ hx)))))) (by omega)))) (.q (.notB rfl) (.nil (.code ?_)))))))))))))
        refine .ff (.skip (.inbN (.code ?_)))
        refine .reg (.q (.add rfl rfl (IntWalk.i64_in _ (by omega))) (.q (.move rfl) (.nil (.rd (t + 1) ⟨rfl, rfl, rfl, rfl, trivial⟩ (fun _ h => h) (by omega) (by omega)))))
      · refine .nil (.code ?_)
        refine .seq (.ff (.exit (.thE (.thE (.inbX (.code ?_))))))
        refine .seq (.reg (.q (.assign rfl) (.nil (.code ?_))))
        refine .ret (.ret1 Try.results5 rfl fun w1 hz => ⟨rfl, hz.h.below⟩)

end Go.Proofs.Ytjccenbacjhglaa.S12
