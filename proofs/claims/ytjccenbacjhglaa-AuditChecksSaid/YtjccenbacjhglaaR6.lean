import Derived.Test.YtjccenbacjhglaaProg
import Derived.Test.YtjccenbacjhglaaK
import Derived.Test.YtjccenbacjhglaaM
import Derived.Test.YtjccenbacjhglaaM4
import Derived.Test.YtjccenbacjhglaaIS
import Derived.Test.YtjccenbacjhglaaM2
import Derived.Test.YtjccenbacjhglaaM5
import Derived.Test.YtjccenbacjhglaaPF
import Derived.Test.YtjccenbacjhglaaSO
import Derived.Test.YtjccenbacjhglaaAU
import Derived.Test.YtjccenbacjhglaaR1
import Derived.Test.YtjccenbacjhglaaR2
import Derived.Test.YtjccenbacjhglaaR3
import Derived.Test.YtjccenbacjhglaaRI
import Derived.Test.YtjccenbacjhglaaR4
import Derived.Test.YtjccenbacjhglaaR5
set_option linter.unusedVariables false
set_option linter.unusedSimpArgs false
set_option maxRecDepth 100000
set_option maxHeartbeats 4000000
namespace Go.Proofs.Ytjccenbacjhglaa.R6
open Go Go.Proofs Go.RowKit Go.Proofs.Ytjccenbacjhglaa.K Go.Proofs.Ytjccenbacjhglaa.M Go.Proofs.Ytjccenbacjhglaa.PF Go.Proofs.Ytjccenbacjhglaa.SO Go.Proofs.Ytjccenbacjhglaa.AU Go.Proofs.Ytjccenbacjhglaa.R1 Go.Proofs.Ytjccenbacjhglaa.R2 Go.Proofs.Ytjccenbacjhglaa.R3 Go.Proofs.Ytjccenbacjhglaa.R4 Go.Proofs.Ytjccenbacjhglaa.R5 Go.Proofs.Ytjccenbacjhglaa.EQ
theorem a82 : Ag Try.prog 82 6 := ⟨_, Try.underlying82, rfl, by kernel_rfl⟩
theorem f85_4 : Fld Try.prog 85 4 4 := ⟨_, _, Try.underlying85, rfl, rfl, 0, by kernel_rfl⟩
theorem f85_5 : Fld Try.prog 85 5 5 := ⟨_, _, Try.underlying85, rfl, rfl, 0, by kernel_rfl⟩
theorem fn32 : Fnc Try.prog 32 := ⟨by kernel_rfl⟩
theorem fn33 : Fnc Try.prog 33 := ⟨by kernel_rfl⟩
theorem fn34 : Fnc Try.prog 34 := ⟨by kernel_rfl⟩
theorem fn35 : Fnc Try.prog 35 := ⟨by kernel_rfl⟩
theorem fn36 : Fnc Try.prog 36 := ⟨by kernel_rfl⟩
theorem mix : Try.prog.follows .mixedOrders = true := by kernel_rfl
theorem o3 : One Try.prog 3 := ⟨_, Try.underlying3, rfl, by kernel_rfl⟩
theorem o32 : One Try.prog 32 := ⟨_, Try.underlying32, rfl, by kernel_rfl⟩
theorem s30 : Slc Try.prog 30 87 3 32 [.string ⟨#[]⟩, .int .i64 0, .int .i64 0] := ⟨Try.underlying30, by kernel_rfl, rfl⟩
theorem s32 : Slc Try.prog 32 82 6 48 [.int .i64 0, .int .i64 0, .int .i64 0, .int .i64 0, .int .u8 0, .int .i64 0] := ⟨Try.underlying32, by kernel_rfl, rfl⟩
theorem s83 : Slc Try.prog 83 119 6 48 [.int .i64 0, .int .i64 0, .int .i64 0, .int .i64 0, .int .i64 0, .bool false] := ⟨Try.underlying83, by kernel_rfl, rfl⟩
theorem st85 : Str Try.prog 85 [.slice none 0 0, .int .i64 0, .slice none 0 0, .int .i64 0, .int .i64 0, .slice none 0 0, .int .i64 0] #[(0, 1), (1, 1), (2, 1), (3, 1), (4, 1), (5, 1), (6, 1)] := ⟨⟨by kernel_rfl⟩, _, Try.underlying85, fun w => by kernel_rfl⟩

theorem flat_repl {α : Type} {enc : α → List Value} (n : Nat) (r : α) (z : List Value) (h : enc r = z) : (List.replicate n z).flatten = (List.replicate n r).flatMap enc := by
  subst h
  induction n with
  | zero => rfl
  | succ n ih => rw [List.replicate_succ, List.replicate_succ, List.flatten_cons, List.flatMap_cons, ih]
/-- What Check of the reference answers. -/
def chkV (o : Option (Int × Int)) : Value := match o with
  | some x => .tuple #[.int .i64 x.1, .int .i64 x.2, .bool true]
  | none => .tuple #[.int .i64 0, .int .i64 0, .bool false]
theorem rc0 {l : List Tk} {cores : Int} {tr : List Re} (h : validT l = false ∨ cores < 1 ∨ 4 < cores) : rCheck l cores tr = some (0, 0) := if_pos h
theorem rc1 {l : List Tk} {cores : Int} {tr : List Re} {x : Int × Int} (h0 : ¬ (validT l = false ∨ cores < 1 ∨ 4 < cores)) (h : (rExAll (rNew l cores) 0 tr).2 = some x) : rCheck l cores tr = some x := by
  unfold rCheck; rw [if_neg h0]; simp only [h]
theorem rc2 {l : List Tk} {cores : Int} (h0 : ¬ (validT l = false ∨ cores < 1 ∨ 4 < cores)) : rCheck l cores [] = none := by
  unfold rCheck; rw [if_neg h0]; rfl
theorem rc3 {l : List Tk} {cores : Int} {tr : List Re} {b : Rm} (h0 : ¬ (validT l = false ∨ cores < 1 ∨ 4 < cores)) (h : rExAll (rNew l cores) 0 tr = (b, none)) (hne : tr ≠ []) : rCheck l cores tr = if 0 < (rAdvance b b.slot 5).2 then some ((tr.length : Int), (rAdvance b b.slot 5).2) else if (rAdvance b b.slot 5).1.need ≠ [] then some ((tr.length : Int), 7) else none := by
  unfold rCheck; rw [if_neg h0]; simp only [h]; rw [if_neg hne]
theorem drop_cons {α : Type} {l : List α} {i : Nat} (h : i < l.length) : l.drop i = l[i] :: l.drop (i + 1) := (List.getElem_cons_drop h).symm
/-- How the end of a trace is judged. -/
def endV (n : Nat) (q : Rm × Int) : Option (Int × Int) := if 0 < q.2 then some ((n : Int), q.2) else if q.1.need ≠ [] then some ((n : Int), 7) else none

theorem rnew_calls (w : World) (A : Option Addr) (c : Nat) (l : List Tk) (cores : Int) (hn : l.length ≤ 1000000) : Calls Try.prog 33 #[.slice A l.length c, .int .i64 cores] w fun e w' => ∃ v L', e = .returned v ∧ Z w w [] L' w' ∧ ∃ M J, v = .pointer (some ⟨M, 0, none⟩) ∧ L' = BR M J (.slice A l.length c) (.slice none 0 0) [] (rNew l cores) := by
  refine enter (args := [_, _]) Try.func33 rfl rfl rfl (C := Z w w [] []) (Z.start (H.nil w)) ?_
  refine .seq (.reg (.q (.assign rfl) (.nil (.code ?_))))
  refine .seq (.reg (.q (.move rfl) (.q (.move rfl) (.q (.move rfl) (.q (.lenS s30.t rfl) (.mk s83 rfl rfl (by omega) (by omega) (by omega) fun b9 => (.q (.build st85 rfl rfl) (.box rfl fun b11 => .q (.assign rfl) (.nil (.code ?_))))))))))
  refine .ret (.ret1 Try.results33 rfl fun w1 hz => ⟨_, _, rfl, finR (Ln := []) hz (by show [Value.slice A l.length c, .int .i64 cores, .slice (some ⟨b9, 0, none⟩) l.length l.length, .int .i64 0, .int .i64 1, .slice none 0 0, .int .i64 (-1)] = _; simp [rmC, rNew]) ((flat_repl (enc := encRJ) l.length ⟨0, 0, 0, 0, 0, false⟩ _ rfl).trans (List.append_nil _).symm), _, _, rfl, rfl⟩)

theorem rcheck_calls (w : World) (lv tv : Value) (l : List Tk) (cores : Int) (tr : List Re) (hl : Rd encT 3 w lv l) (ht : Rd encRE 6 w tv tr) (h12 : l.length ≤ 12) (hlen : tr.length ≤ 1000000) : Calls Try.prog 12 #[lv, .int .i64 cores, tv] w fun e w' => e = .returned (chkV (rCheck l cores tr)) ∧ Z w w [] [] w' := by
  obtain ⟨lA, lc, rfl⟩ : ∃ A c, lv = .slice A l.length c := by obtain ⟨A, c, h, _⟩ := hl; exact ⟨A, c, h⟩
  obtain ⟨tA, tc, rfl⟩ : ∃ A c, tv = .slice A tr.length c := by obtain ⟨A, c, h, _⟩ := ht; exact ⟨A, c, h⟩
  refine enter (args := [_, _, _]) Try.func12 rfl rfl rfl (C := Z w w [] []) (Z.start (H.nil w)) ?_
  refine .seq (.reg (.q (.assign rfl) (.q (.assign rfl) (.q (.assign rfl) (.nil (.code ?_))))))
  refine .seq (.seq (.reg (.q (.move rfl) (.qB (.call fn32 rfl (fun w hz => valid41_calls w _ l (hl.below hz.h.below))) (fun h13 => ?_) (fun h13 => ?_)))))
  · have hv : validT l = true := h13
    refine .q (.notB rfl) (.q (.move rfl) (.q (.move rfl) (.ltS rfl rfl (fun h17 => ?_) (fun h17 => ?_))))
    · refine .q (.pickF rfl rfl) (.q (.move rfl) (.skip (.skip (.q (.pickT rfl rfl) (.nil (.code ?_))))))
      refine .tt (.seq (.reg (.q (.assign rfl) (.q (.assign rfl) (.q (.assign rfl) (.nil (.code ?_)))))))
      refine .ret (.thR (.ret3 Try.results12 rfl rfl rfl fun w1 hz => ⟨by rw [rc0 (by first | exact .inl hv | omega)]; rfl, hz.sublist (List.nil_sublist _)⟩))
    · refine .q (.pickF rfl rfl) (.q (.move rfl) (.q (.move rfl) (.gtS rfl rfl (fun h21 => ?_) (fun h21 => ?_))))
      · refine .q (.pickF rfl rfl) (.nil (.code ?_))
        refine .tt (.seq (.reg (.q (.assign rfl) (.q (.assign rfl) (.q (.assign rfl) (.nil (.code ?_)))))))
        refine .ret (.thR (.ret3 Try.results12 rfl rfl rfl fun w1 hz => ⟨by rw [rc0 (by first | exact .inl hv | omega)]; rfl, hz.sublist (List.nil_sublist _)⟩))
      · refine .q (.pickF rfl rfl) (.nil (.code ?_))
        refine .ff (.skip (.code ?_))
        refine .seq (.reg (.q (.move rfl) (.q (.move rfl) (.callA fn33 rfl (fun w hz => rnew_calls w _ _ l cores (by omega)) fun v25 L25 p25 => ?_))))
        obtain ⟨M, J, rfl, rfl⟩ := p25
        have hI0 := rNew_I hv h12 (by omega) (by omega)
        refine .q (.assign rfl) (.nil (.code ?_))
        refine .seq (.seq (.reg (.q (.assign rfl) (.nil (.code ?_)))))
        refine .block (.lp (fun s : Nat × Rm × Value × List Blk => [(0, .slice lA l.length lc), (1, .int .i64 cores), (2, .slice tA tr.length tc), (6, .int .i64 0), (7, .int .i64 0), (8, .bool false), (9, .pointer (some ⟨M, 0, none⟩)), (10, .int .i64 (s.1 : Int))]) (fun s => BR M J (.slice lA l.length lc) s.2.2.1 s.2.2.2 s.2.1) (fun s => s.1 ≤ tr.length ∧ RmI s.2.1 (s.1 : Int) ∧ DR s.2.2.1 s.2.1.need s.2.2.2 ∧ rExAll (rNew l cores) 0 tr = rExAll s.2.1 s.1 (tr.drop s.1) ∧ s.2.1.l = l) (fun s => tr.length - s.1) (0, rNew l cores, .slice none 0 0, []) ⟨rfl, rfl, rfl, rfl, rfl, rfl, rfl, rfl, trivial⟩ (fun _ h => by rw [List.append_nil] at h; exact h) ⟨Nat.zero_le _, hI0, DR.nil, rfl, rfl⟩ fun ⟨i, m1, nv1, Ln1⟩ hk => ?_)
        obtain ⟨hk1, hk2, hk3, hk4, hk5⟩ := hk
        simp only at hk1 hk2 hk3 hk4 hk5
        show WC _ _ _ _ (Z w w _ (BR M J (.slice lA l.length lc) nv1 Ln1 m1)) _
        refine .seq (.seq (.reg (.q (.move rfl) (.q (.move rfl) (.q (.lenS s32.t rfl) (.ltS rfl rfl (fun h29 => ?_) (fun h29 => ?_)))))))
        · have hi : i < tr.length := by omega
          obtain ⟨tb, to, tc2, hte, htr⟩ := Rd.at ht hi
          cases hte
          refine .nil (.code ?_)
          refine .tt (.skip (.code ?_))
          refine .seq (.block (.seq (.reg (.q (.move rfl) (.q (.move rfl) (.q (.move rfl) (.q (.ix s32 rfl rfl (by omega)) (.q (.ldWA a82 (cs := encRE tr[i]) rfl rfl fun j hj => htr j hj) (.callM (Lm := BR M J (.slice lA l.length lc) nv1 Ln1 m1) (Lr := []) fn34 rfl (pkN _) (fun w2 hH => rexamine_calls w w2 M J _ nv1 Ln1 m1 (i : Int) tr[i] hH (by rw [hk5]; exact hl) hk2 hk3) fun v37 L37 p37 => (?_))))))))))
          obtain ⟨rfl, hnext⟩ := p37
          have hnn := rExamine_nn (e := tr[i]) hk2
          refine .q (.assign rfl) (.nil (.code ?_))
          refine .seq (.reg (.q (.move rfl) (.gtS rfl rfl (fun h39 => ?_) (fun h39 => ?_))))
          · refine .nil (.code ?_)
            refine .tt (.seq (.reg (.q (.move rfl) (.q (.move rfl) (.q (.assign rfl) (.q (.assign rfl) (.q (.assign rfl) (.nil (.code ?_)))))))))
            refine .ret (.inbR (.thR (.thR (.inbR (.thR (.ret3 Try.results12 rfl rfl rfl fun w1 hz => ⟨by rw [rc1 (x := ((i : Int), (rExamine m1 tr[i]).2)) (show ¬ (validT l = false ∨ cores < 1 ∨ 4 < cores) by rw [hv]; simp; omega) (by rw [hk4, drop_cons hi, rExAll, if_pos (by omega)])]; rfl, hz.sublist (List.nil_sublist _)⟩))))))
          · have hz0 : (rExamine m1 tr[i]).2 = 0 := by omega
            obtain ⟨nv2, Ln2, rfl, hD2⟩ := hnext hz0
            obtain ⟨hI2, hl2⟩ := rExamine_I hk2 (by omega) hz0
            refine .nil (.code ?_)
            refine .ff (.skip (.inbN (.code ?_)))
            refine .reg (.q (.move rfl) (.q (.add rfl rfl (IntWalk.i64_in _ (by omega))) (.q (.assign rfl) (.nil (.rd (i + 1, (rExamine m1 tr[i]).1, nv2, Ln2) ⟨rfl, rfl, rfl, rfl, rfl, rfl, rfl, rfl, trivial⟩ (fun _ h => by rw [List.append_nil] at h; exact h) ⟨by simp only; omega, by simp only; rw [show ((i + 1 : Nat) : Int) = (i : Int) + 1 by omega]; exact hI2, hD2, by simp only; rw [hk4, drop_cons hi, rExAll, if_neg (by omega)], hl2.trans hk5⟩ (by simp only; omega))))))
        · have hil : i = tr.length := by omega
          have hall : rExAll (rNew l cores) 0 tr = (m1, none) := by rw [hk4, List.drop_of_length_le (by omega)]; rfl
          obtain ⟨p1, p2, p3, p4⟩ := And.intro hk2.p0 (And.intro hk2.p1 (And.intro hk2.s0 hk2.s1))
          refine .nil (.code ?_)
          refine .ff (.exit (.thE (.thE (.inbX (.code ?_)))))
          refine .seq (.block (.lp (fun s : Rm × Value × List Blk => [(0, .slice lA l.length lc), (1, .int .i64 cores), (2, .slice tA tr.length tc), (6, .int .i64 0), (7, .int .i64 0), (8, .bool false), (9, .pointer (some ⟨M, 0, none⟩))]) (fun s => BR M J (.slice lA l.length lc) s.2.1 s.2.2 s.1) (fun s => RmI s.1 (i : Int) ∧ DR s.2.1 s.1.need s.2.2 ∧ endV tr.length (rAdvance m1 m1.slot 5) = endV tr.length (rAdvance s.1 m1.slot 5) ∧ s.1.slot = m1.slot ∧ s.1.l = l) (fun s => (5 - s.1.phase).toNat) (m1, nv1, Ln1) ⟨rfl, rfl, rfl, rfl, rfl, rfl, rfl, trivial⟩ (fun _ h => h) ⟨hk2, hk3, rfl, rfl, hk5⟩ fun ⟨m2, nv3, Ln3⟩ hq => ?_))
          obtain ⟨hq1, hq2, hq3, hq4, hq5⟩ := hq
          simp only at hq1 hq2 hq3 hq4 hq5
          obtain ⟨dA, dc, rfl, hdc, hdr0⟩ := id hq2
          obtain ⟨r1, r2⟩ := And.intro hq1.p0 hq1.p1
          show WC _ _ _ _ (Z w w _ (BR M J (.slice lA l.length lc) (.slice dA m2.need.length dc) Ln3 m2)) _
          refine .seq (.seq (.reg (.q (.move rfl) (.q (.lenS s32.t rfl) (.gtS rfl rfl (fun h44 => ?_) (fun h44 => ?_))))))
          · have hne : tr ≠ [] := fun e => by rw [e] at h44; simp at h44
            have hcheck : rCheck l cores tr = endV tr.length (rAdvance m1 m1.slot 5) := rc3 (show ¬ (validT l = false ∨ cores < 1 ∨ 4 < cores) by rw [hv]; simp; omega) hall hne
            refine .nil (.code ?_)
            refine .tt (.skip (.code ?_))
            refine .block (.seq (.seq (.reg (.q (.move rfl) (.q (.nilP rfl) (.q (.fld f85_5 rfl) (.q (.ldO o32 0 rfl rfl rfl) (.q (.lenS s32.t rfl) (.gtS rfl rfl (fun h50 => ?_) (fun h50 => ?_))))))))))
            · refine .nil (.code ?_)
              refine .tt (.seq (.reg (.q (.move rfl) (.q (.lenS s32.t rfl) (.q (.move rfl) (.q (.nilP rfl) (.q (.fld f85_4 rfl) (.q (.ldO o3 0 rfl rfl rfl) (.q (.call fn35 rfl (fun w hz => rrule_calls w m2.phase (by omega) (by omega))) (.q (.assign rfl) (.q (.assign rfl) (.q (.assign rfl) (.nil (.code ?_))))))))))))))
              refine .ret (.thR (.inbR (.thR (.inbR (.thR (.ret3 Try.results12 rfl rfl rfl fun w1 hz => ⟨by rw [hcheck.trans (hq3.trans (show endV tr.length (rAdvance m2 m1.slot 5) = some ((tr.length : Int), m2.phase + 2) by
        by_cases h5 : m2.phase < 5
        · rw [rAdvance_due hq1 (Int.le_refl 5) (by omega) (by omega) (fun e => by rw [e] at h50; simp at h50), endV, if_pos (by simp only; omega)]
        · rw [rAdvance_done (by omega), endV, if_neg (show ¬ (0 : Int) < 0 by omega), if_pos (show m2.need ≠ [] from fun e => by rw [e] at h50; simp at h50), show m2.phase + 2 = 7 by omega]))]; rfl, hz.sublist (List.nil_sublist _)⟩))))))
            · have hnil : m2.need = [] := List.eq_nil_of_length_eq_zero (by omega)
              obtain ⟨n1, n2⟩ := rNext_at hq1
              refine .nil (.code ?_)
              refine .ff (.skip (.code ?_))
              refine .seq (.seq (.reg (.q (.move rfl) (.q (.nilP rfl) (.q (.fld f85_4 rfl) (.q (.ldO o3 0 rfl rfl rfl) (.eqS rfl rfl (fun h62 => ?_) (fun h62 => ?_))))))))
              · refine .nil (.code ?_)
                refine .tt (.seq (.reg (.q (.assign rfl) (.q (.assign rfl) (.q (.assign rfl) (.nil (.code ?_)))))))
                refine .ret (.thR (.inbR (.thR (.inbR (.thR (.ret3 Try.results12 rfl rfl rfl fun w1 hz => ⟨by rw [hcheck.trans (hq3.trans (show endV tr.length (rAdvance m2 m1.slot 5) = none by rw [rAdvance_done (by omega), endV, if_neg (show ¬ (0 : Int) < 0 by omega), if_neg (show ¬ m2.need ≠ [] by rw [hnil]; simp)]))]; rfl, hz.sublist (List.nil_sublist _)⟩))))))
              · obtain ⟨n3, n4⟩ := n1 (by omega)
                refine .nil (.code ?_)
                refine .ff (.skip (.code ?_))
                refine .reg (.q (.move rfl) (.callM (Lm := BR M J (.slice lA l.length lc) (.slice dA m2.need.length dc) Ln3 m2) (Lr := []) fn36 rfl (pkN _) (fun w2 hH => rnext_calls w w2 M J _ _ Ln3 m2 (i : Int) hH (by rw [hq5]; exact hl) hq1 (by omega)) fun v64 L64 p64 => (?_)))
                obtain ⟨nv4, Ln4, rfl, hD4⟩ := p64
                refine .nil (.inbN (.rd (rNext m2, nv4, Ln4) ⟨rfl, rfl, rfl, rfl, rfl, rfl, rfl, trivial⟩ (fun _ h => by rw [List.append_nil] at h; exact h) ⟨rNext_I hq1 (by omega), hD4, by rw [hq3, rAdvance_step hq1 (Int.le_refl 5) (by omega) (by omega) hnil], by simp only; omega, (rNext_l m2).trans hq5⟩ (by simp only; omega)))
          · refine .nil (.code ?_)
            refine .ff (.exit (.thE (.thE (.inbX (.code ?_)))))
            refine .seq (.reg (.q (.assign rfl) (.q (.assign rfl) (.q (.assign rfl) (.nil (.code ?_))))))
            refine .ret (.ret3 Try.results12 rfl rfl rfl fun w1 hz => ⟨by rw [show rCheck l cores tr = none by
        have e : tr = [] := List.eq_nil_of_length_eq_zero (by omega)
        subst e; exact rc2 (show ¬ (validT l = false ∨ cores < 1 ∨ 4 < cores) by rw [hv]; simp; omega)]; rfl, hz.sublist (List.nil_sublist _)⟩)
  · have hv : validT l = false := h13
    refine .q (.notB rfl) (.q (.move rfl) (.skip (.skip (.q (.pickT rfl rfl) (.q (.move rfl) (.skip (.skip (.q (.pickT rfl rfl) (.nil (.code ?_))))))))))
    refine .tt (.seq (.reg (.q (.assign rfl) (.q (.assign rfl) (.q (.assign rfl) (.nil (.code ?_)))))))
    refine .ret (.thR (.ret3 Try.results12 rfl rfl rfl fun w1 hz => ⟨by rw [rc0 (by first | exact .inl hv | omega)]; rfl, hz.sublist (List.nil_sublist _)⟩))

end Go.Proofs.Ytjccenbacjhglaa.R6
