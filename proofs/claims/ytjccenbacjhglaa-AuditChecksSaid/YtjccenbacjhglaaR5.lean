import Derived.Test.YtjccenbacjhglaaProg
import Derived.Test.YtjccenbacjhglaaK
import Derived.Test.YtjccenbacjhglaaM
import Derived.Test.YtjccenbacjhglaaM4
import Derived.Test.YtjccenbacjhglaaIS
import Derived.Test.YtjccenbacjhglaaM2
import Derived.Test.YtjccenbacjhglaaM5
import Derived.Test.YtjccenbacjhglaaPF
import Derived.Test.YtjccenbacjhglaaSO
import Derived.Test.YtjccenbacjhglaaAU
import Derived.Test.YtjccenbacjhglaaR1
import Derived.Test.YtjccenbacjhglaaR2
import Derived.Test.YtjccenbacjhglaaR3
import Derived.Test.YtjccenbacjhglaaRI
import Derived.Test.YtjccenbacjhglaaR4
set_option linter.unusedVariables false
set_option linter.unusedSimpArgs false
set_option maxRecDepth 100000
set_option maxHeartbeats 4000000
namespace Go.Proofs.Ytjccenbacjhglaa.R5
open Go Go.Proofs Go.RowKit Go.Proofs.Ytjccenbacjhglaa.K Go.Proofs.Ytjccenbacjhglaa.M Go.Proofs.Ytjccenbacjhglaa.PF Go.Proofs.Ytjccenbacjhglaa.SO Go.Proofs.Ytjccenbacjhglaa.AU Go.Proofs.Ytjccenbacjhglaa.R1 Go.Proofs.Ytjccenbacjhglaa.R2 Go.Proofs.Ytjccenbacjhglaa.R3 Go.Proofs.Ytjccenbacjhglaa.R4 Go.Proofs.Ytjccenbacjhglaa.EQ
theorem a82 : Ag Try.prog 82 6 := ⟨_, Try.underlying82, rfl, by kernel_rfl⟩
theorem a119 : Ag Try.prog 119 6 := ⟨_, Try.underlying119, rfl, by kernel_rfl⟩
theorem eq82 : EqS Try.prog 82 [.i64, .i64, .i64, .i64, .u8, .i64] := ⟨by kernel_rfl⟩
theorem f82_0 : Fld Try.prog 82 0 0 := ⟨_, _, Try.underlying82, rfl, rfl, 0, by kernel_rfl⟩
theorem f82_1 : Fld Try.prog 82 1 1 := ⟨_, _, Try.underlying82, rfl, rfl, 0, by kernel_rfl⟩
theorem f82_2 : Fld Try.prog 82 2 2 := ⟨_, _, Try.underlying82, rfl, rfl, 0, by kernel_rfl⟩
theorem f82_3 : Fld Try.prog 82 3 3 := ⟨_, _, Try.underlying82, rfl, rfl, 0, by kernel_rfl⟩
theorem f82_4 : Fld Try.prog 82 4 4 := ⟨_, _, Try.underlying82, rfl, rfl, 0, by kernel_rfl⟩
theorem f82_5 : Fld Try.prog 82 5 5 := ⟨_, _, Try.underlying82, rfl, rfl, 0, by kernel_rfl⟩
theorem f85_0 : Fld Try.prog 85 0 0 := ⟨_, _, Try.underlying85, rfl, rfl, 0, by kernel_rfl⟩
theorem f85_2 : Fld Try.prog 85 2 2 := ⟨_, _, Try.underlying85, rfl, rfl, 0, by kernel_rfl⟩
theorem f85_3 : Fld Try.prog 85 3 3 := ⟨_, _, Try.underlying85, rfl, rfl, 0, by kernel_rfl⟩
theorem f85_4 : Fld Try.prog 85 4 4 := ⟨_, _, Try.underlying85, rfl, rfl, 0, by kernel_rfl⟩
theorem f85_5 : Fld Try.prog 85 5 5 := ⟨_, _, Try.underlying85, rfl, rfl, 0, by kernel_rfl⟩
theorem f85_6 : Fld Try.prog 85 6 6 := ⟨_, _, Try.underlying85, rfl, rfl, 0, by kernel_rfl⟩
theorem f87_2 : Fld Try.prog 87 2 2 := ⟨_, _, Try.underlying87, rfl, rfl, 0, by kernel_rfl⟩
theorem f119_0 : Fld Try.prog 119 0 0 := ⟨_, _, Try.underlying119, rfl, rfl, 0, by kernel_rfl⟩
theorem f119_1 : Fld Try.prog 119 1 1 := ⟨_, _, Try.underlying119, rfl, rfl, 0, by kernel_rfl⟩
theorem f119_2 : Fld Try.prog 119 2 2 := ⟨_, _, Try.underlying119, rfl, rfl, 0, by kernel_rfl⟩
theorem f119_3 : Fld Try.prog 119 3 3 := ⟨_, _, Try.underlying119, rfl, rfl, 0, by kernel_rfl⟩
theorem f119_4 : Fld Try.prog 119 4 4 := ⟨_, _, Try.underlying119, rfl, rfl, 0, by kernel_rfl⟩
theorem f119_5 : Fld Try.prog 119 5 5 := ⟨_, _, Try.underlying119, rfl, rfl, 0, by kernel_rfl⟩
theorem fn35 : Fnc Try.prog 35 := ⟨by kernel_rfl⟩
theorem fn36 : Fnc Try.prog 36 := ⟨by kernel_rfl⟩
theorem fn52 : Fnc Try.prog 52 := ⟨by kernel_rfl⟩
theorem mix : Try.prog.follows .mixedOrders = true := by kernel_rfl
theorem o3 : One Try.prog 3 := ⟨_, Try.underlying3, rfl, by kernel_rfl⟩
theorem o4 : One Try.prog 4 := ⟨_, Try.underlying4, rfl, by kernel_rfl⟩
theorem o5 : One Try.prog 5 := ⟨_, Try.underlying5, rfl, by kernel_rfl⟩
theorem o30 : One Try.prog 30 := ⟨_, Try.underlying30, rfl, by kernel_rfl⟩
theorem o32 : One Try.prog 32 := ⟨_, Try.underlying32, rfl, by kernel_rfl⟩
theorem o83 : One Try.prog 83 := ⟨_, Try.underlying83, rfl, by kernel_rfl⟩
theorem s30 : Slc Try.prog 30 87 3 32 [.string ⟨#[]⟩, .int .i64 0, .int .i64 0] := ⟨Try.underlying30, by kernel_rfl, rfl⟩
theorem s32 : Slc Try.prog 32 82 6 48 [.int .i64 0, .int .i64 0, .int .i64 0, .int .i64 0, .int .u8 0, .int .i64 0] := ⟨Try.underlying32, by kernel_rfl, rfl⟩
theorem s83 : Slc Try.prog 83 119 6 48 [.int .i64 0, .int .i64 0, .int .i64 0, .int .i64 0, .int .i64 0, .bool false] := ⟨Try.underlying83, by kernel_rfl, rfl⟩
theorem st119 : Str Try.prog 119 [.int .i64 0, .int .i64 0, .int .i64 0, .int .i64 0, .int .i64 0, .bool false] #[(0, 1), (1, 1), (2, 1), (3, 1), (4, 1), (5, 1)] := ⟨⟨by kernel_rfl⟩, _, Try.underlying119, fun w => by kernel_rfl⟩
theorem rexamine_calls (w0 w : World) (M J : Nat) (lv nv : Value) (Ln : List Blk) (m : Rm) (K : Int) (e : Re) (hH : H w0 w (BR M J lv nv Ln m)) (hl : Rd encT 3 w0 lv m.l) (hI : RmI m K) (hD : DR nv m.need Ln) : Calls Try.prog 34 #[.pointer (some ⟨M, 0, none⟩), .agg (encRE e).toArray] w fun r w' => ∃ v L', r = .returned v ∧ Z w0 w (BR M J lv nv Ln m) L' w' ∧ v = .int .i64 (rExamine m e).2 ∧ ((rExamine m e).2 = 0 → ∃ nv' Ln', L' = BR M J lv nv' Ln' (rExamine m e).1 ∧ DR nv' (rExamine m e).1.need Ln') := by
  obtain ⟨f0, f5⟩ := phaseOf_bd e.k
  obtain ⟨q1, q2, q3, q4⟩ := And.intro hI.p0 (And.intro hI.p1 (And.intro hI.s0 hI.s1))
  have h12 := hI.n12
  have hnj := hI.nj
  obtain ⟨lA, lc, rfl⟩ : ∃ A c, lv = .slice A m.l.length c := by obtain ⟨A, c, h, _⟩ := hl; exact ⟨A, c, h⟩
  refine enter (args := [_, _]) Try.func34 rfl rfl rfl (C := Z w0 w (BR M J (.slice lA m.l.length lc) nv Ln m) (BR M J (.slice lA m.l.length lc) nv Ln m)) (Z.start hH) ?_
  refine .seq (.reg (.box rfl fun b3 => .q (.assign rfl) (.nil (.code ?_))))
  refine .seq (.reg (.q (.fld f82_4 rfl) (.q (.ldO o5 0 rfl rfl rfl) (.q (.call fn52 rfl (fun w hz => rphase_calls w e.k)) (.q (.assign rfl) (.nil (.code ?_)))))))
  refine .seq (.seq (.draw mix (by kernel_rfl) (fun _ h => h.drew) (.q (.fld f82_0 rfl) (.q (.ldO o3 0 rfl rfl rfl) (.q (.move rfl) (.q (.nilP rfl) (.q (.fld f85_3 rfl) (.q (.ldO o3 1 rfl rfl rfl) (.ltS rfl rfl (fun h16 => ?_) (fun h16 => ?_))))))))))
  · refine .q (.move rfl) (.skip (.skip (.skip (.q (.pickT rfl rfl) (.nil (.code ?_))))))
    refine .tt (.seq (.reg (.q (.assign rfl) (.nil (.code ?_)))))
    refine .ret (.thR (.ret1 Try.results34 rfl fun w1 hz => ⟨_, _, rfl, hz, by rw [rExamine_1 (by omega)], fun h => by rw [rExamine_1 (by omega)] at h; simp only at h; omega⟩))
  · refine .q (.move rfl) (.q (.fld f82_0 rfl) (.q (.ldO o3 0 rfl rfl rfl) (.gtS rfl rfl (fun h20 => ?_) (fun h20 => ?_))))
    · refine .q (.pickF rfl rfl) (.nil (.code ?_))
      refine .tt (.seq (.reg (.q (.assign rfl) (.nil (.code ?_)))))
      refine .ret (.thR (.ret1 Try.results34 rfl fun w1 hz => ⟨_, _, rfl, hz, by rw [rExamine_1 (by omega)], fun h => by rw [rExamine_1 (by omega)] at h; simp only at h; omega⟩))
    · refine .q (.pickF rfl rfl) (.nil (.code ?_))
      refine .ff (.skip (.code ?_))
      refine .seq (.seq (.reg (.q (.move rfl) (.eqS rfl rfl (fun h23 => ?_) (fun h23 => ?_)))))
      · refine .nil (.code ?_)
        refine .tt (.seq (.reg (.q (.assign rfl) (.nil (.code ?_)))))
        refine .ret (.thR (.ret1 Try.results34 rfl fun w1 hz => ⟨_, _, rfl, hz, by rw [rExamine_2 (by omega) (by omega) (by omega)], fun h => by rw [rExamine_2 (by omega) (by omega) (by omega)] at h; simp only at h; omega⟩))
      · refine .nil (.code ?_)
        refine .ff (.skip (.code ?_))
        refine .seq (.seq (.draw mix (by kernel_rfl) (fun _ h => h.drew) (.q (.fld f82_0 rfl) (.q (.ldO o3 0 rfl rfl rfl) (.q (.move rfl) (.q (.nilP rfl) (.q (.fld f85_3 rfl) (.q (.ldO o3 1 rfl rfl rfl) (.eqS rfl rfl (fun h30 => ?_) (fun h30 => ?_))))))))))
        · refine .q (.move rfl) (.q (.move rfl) (.q (.move rfl) (.q (.nilP rfl) (.q (.fld f85_4 rfl) (.q (.ldO o3 1 rfl rfl rfl) (.ltS rfl rfl (fun h37 => ?_) (fun h37 => ?_)))))))
          · refine .q (.pickT rfl rfl) (.nil (.code ?_))
            refine .tt (.seq (.reg (.q (.assign rfl) (.nil (.code ?_)))))
            refine .ret (.thR (.ret1 Try.results34 rfl fun w1 hz => ⟨_, _, rfl, hz, by rw [rExamine_1 (by omega)], fun h => by rw [rExamine_1 (by omega)] at h; simp only at h; omega⟩))
          · refine .q (.pickT rfl rfl) (.nil (.code ?_))
            refine .ff (.skip (.code ?_))
            refine .seq (.seq (.draw mix (by kernel_rfl) (fun _ h => h.drew) (.q (.fld f82_2 rfl) (.q (.ldO o3 0 rfl rfl rfl) (.ltS rfl rfl (fun h41 => ?_) (fun h41 => ?_))))))
            · refine .q (.move rfl) (.skip (.skip (.skip (.skip (.skip (.skip (.skip (.skip (.q (.pickT rfl rfl) (.nil (.code ?_)))))))))))
              refine .tt (.seq (.reg (.q (.assign rfl) (.nil (.code ?_)))))
              refine .ret (.thR (.ret1 Try.results34 rfl fun w1 hz => ⟨_, _, rfl, hz, by rw [rExamine_2 (by omega) (by omega) (by omega)], fun h => by rw [rExamine_2 (by omega) (by omega) (by omega)] at h; simp only at h; omega⟩))
            · refine .q (.move rfl) (.q (.fld f82_2 rfl) (.q (.ldO o3 0 rfl rfl rfl) (.q (.move rfl) (.q (.nilP rfl) (.q (.fld f85_0 rfl) (.q (.ldO o30 1 rfl rfl rfl) (.q (.lenS s30.t rfl) (.geS rfl rfl (fun h50 => ?_) (fun h50 => ?_)))))))))
              · refine .q (.pickF rfl rfl) (.nil (.code ?_))
                refine .tt (.seq (.reg (.q (.assign rfl) (.nil (.code ?_)))))
                refine .ret (.thR (.ret1 Try.results34 rfl fun w1 hz => ⟨_, _, rfl, hz, by rw [rExamine_2 (by omega) (by omega) (by omega)], fun h => by rw [rExamine_2 (by omega) (by omega) (by omega)] at h; simp only at h; omega⟩))
              · have ht0 : 0 ≤ e.t := h41
                have hx3 : rExamine m e = rxT m e := rExamine_3 (by omega) (by omega) (by omega)
                refine .q (.pickF rfl rfl) (.nil (.code ?_))
                refine .ff (.skip (.code ?_))
                refine .seq (.block (.lp (fun s : Rm × Value × List Blk => [(0, .pointer (some ⟨M, 0, none⟩)), (3, .pointer (some ⟨b3, 0, none⟩)), (4, .int .i64 0), (5, .int .i64 (phaseOf e.k))]) (fun s => (b3, .cells (encRE e).toArray 82 (0, 0)) :: BR M J (.slice lA m.l.length lc) s.2.1 s.2.2 s.1) (fun s => RmI s.1 K ∧ DR s.2.1 s.1.need s.2.2 ∧ rAdvance m e.s (phaseOf e.k) = rAdvance s.1 e.s (phaseOf e.k) ∧ s.1.slot ≤ e.s ∧ (s.1.slot = e.s → s.1.phase ≤ phaseOf e.k) ∧ s.1.l = m.l) (fun s => rAdvM s.1 e.s) (m, nv, Ln) ⟨rfl, rfl, rfl, rfl, trivial⟩ (fun _ h => h) ⟨hI, hD, rfl, (by omega : m.slot ≤ e.s), (fun _ => by omega : m.slot = e.s → m.phase ≤ phaseOf e.k), rfl⟩ fun ⟨m1, nv1, Ln1⟩ hq => ?_))
                obtain ⟨hq1, hq2, hq3, hq4, hq5, hq6⟩ := hq
                simp only at hq1 hq2 hq3 hq4 hq5 hq6
                obtain ⟨dA, dc, rfl, hdc, hdr0⟩ := id hq2
                obtain ⟨p1, p2, p3, p4⟩ := And.intro hq1.p0 (And.intro hq1.p1 (And.intro hq1.s0 hq1.s1))
                have hk0 := hq1.k0
                have hk1 := hq1.k1
                show WC _ _ _ _ (Z w0 w _ ((b3, .cells (encRE e).toArray 82 (0, 0)) :: BR M J (.slice lA m.l.length lc) (.slice dA m1.need.length dc) Ln1 m1)) _
                refine .seq (.seq (.draw mix (by kernel_rfl) (fun _ h => h.drew) (.q (.move rfl) (.q (.nilP rfl) (.q (.fld f85_3 rfl) (.q (.ldO o3 1 rfl rfl rfl) (.q (.fld f82_0 rfl) (.q (.ldO o3 0 rfl rfl rfl) (.ltS rfl rfl (fun h58 => ?_) (fun h58 => ?_))))))))))
                · refine .q (.move rfl) (.skip (.skip (.skip (.skip (.skip (.skip (.q (.pickT rfl rfl) (.nil (.code ?_)))))))))
                  refine .tt (.skip (.code ?_))
                  refine .block (.seq (.seq (.reg (.q (.move rfl) (.q (.nilP rfl) (.q (.fld f85_5 rfl) (.q (.ldO o32 1 rfl rfl rfl) (.q (.lenS s32.t rfl) (.gtS rfl rfl (fun h72 => ?_) (fun h72 => ?_))))))))))
                  · refine .nil (.code ?_)
                    refine .tt (.seq (.reg (.q (.move rfl) (.q (.nilP rfl) (.q (.fld f85_4 rfl) (.q (.ldO o3 1 rfl rfl rfl) (.q (.call fn35 rfl (fun w hz => rrule_calls w m1.phase (by omega) (by omega))) (.q (.assign rfl) (.nil (.code ?_))))))))))
                    refine .ret (.thR (.inbR (.thR (.inbR (.thR (.ret1 Try.results34 rfl fun w1 hz => ⟨_, _, rfl, hz, by rw [hx3, rxT_due (hq3.trans (rAdvance_due hq1 f5 hq4 (by omega) (fun e => by rw [e] at h72; simp at h72))) (by omega)], fun h => by rw [hx3, rxT_due (hq3.trans (rAdvance_due hq1 f5 hq4 (by omega) (fun e => by rw [e] at h72; simp at h72))) (by omega)] at h; simp only at h; omega⟩))))))
                  · have hnil : m1.need = [] := List.eq_nil_of_length_eq_zero (by omega)
                    obtain ⟨n1, n2⟩ := rNext_at hq1
                    have hst : (rNext m1).slot ≤ e.s ∧ ((rNext m1).slot = e.s → (rNext m1).phase ≤ phaseOf e.k) := by
                      by_cases h5' : m1.phase < 5
                      · obtain ⟨e1, e2⟩ := n1 h5'
                        omega
                      · obtain ⟨e1, e2⟩ := n2 (by omega)
                        omega
                    refine .nil (.code ?_)
                    refine .ff (.skip (.code ?_))
                    refine .reg (.q (.move rfl) (.callM (Lm := BR M J (.slice lA m.l.length lc) (.slice dA m1.need.length dc) Ln1 m1) (Lr := [(b3, .cells (encRE e).toArray 82 (0, 0))]) fn36 rfl (List.perm_append_singleton _ _).symm (fun w hH => rnext_calls w0 w M J _ _ Ln1 m1 K hH (by rw [hq6]; exact hl) hq1 (by omega)) fun v79 L79 p79 => (?_)))
                    obtain ⟨nv2, Ln2, rfl, hD2⟩ := p79
                    refine .nil (.inbN (.rd (rNext m1, nv2, Ln2) ⟨rfl, rfl, rfl, rfl, trivial⟩ (fun _ h => zperm (List.perm_append_singleton _ _) h) ⟨rNext_I hq1 (by omega), hD2, (by rw [hq3, rAdvance_step hq1 f5 hq4 (by omega) hnil] : rAdvance m e.s (phaseOf e.k) = rAdvance (rNext m1) e.s (phaseOf e.k)), hst.1, hst.2, (rNext_l m1).trans hq6⟩ (by show rAdvM (rNext m1) e.s < rAdvM m1 e.s; rw [rAdvM_next hq1 f5 hq4 (by omega)]; omega)))
                · refine .q (.move rfl) (.q (.move rfl) (.q (.nilP rfl) (.q (.fld f85_4 rfl) (.q (.ldO o3 1 rfl rfl rfl) (.q (.move rfl) (.ltS rfl rfl (fun h65 => ?_) (fun h65 => ?_)))))))
                  · refine .q (.pickF rfl rfl) (.nil (.code ?_))
                    refine .tt (.skip (.code ?_))
                    refine .block (.seq (.seq (.reg (.q (.move rfl) (.q (.nilP rfl) (.q (.fld f85_5 rfl) (.q (.ldO o32 1 rfl rfl rfl) (.q (.lenS s32.t rfl) (.gtS rfl rfl (fun h72 => ?_) (fun h72 => ?_))))))))))
                    · refine .nil (.code ?_)
                      refine .tt (.seq (.reg (.q (.move rfl) (.q (.nilP rfl) (.q (.fld f85_4 rfl) (.q (.ldO o3 1 rfl rfl rfl) (.q (.call fn35 rfl (fun w hz => rrule_calls w m1.phase (by omega) (by omega))) (.q (.assign rfl) (.nil (.code ?_))))))))))
                      refine .ret (.thR (.inbR (.thR (.inbR (.thR (.ret1 Try.results34 rfl fun w1 hz => ⟨_, _, rfl, hz, by rw [hx3, rxT_due (hq3.trans (rAdvance_due hq1 f5 hq4 (by omega) (fun e => by rw [e] at h72; simp at h72))) (by omega)], fun h => by rw [hx3, rxT_due (hq3.trans (rAdvance_due hq1 f5 hq4 (by omega) (fun e => by rw [e] at h72; simp at h72))) (by omega)] at h; simp only at h; omega⟩))))))
                    · have hnil : m1.need = [] := List.eq_nil_of_length_eq_zero (by omega)
                      obtain ⟨n1, n2⟩ := rNext_at hq1
                      have hst : (rNext m1).slot ≤ e.s ∧ ((rNext m1).slot = e.s → (rNext m1).phase ≤ phaseOf e.k) := by
                        by_cases h5' : m1.phase < 5
                        · obtain ⟨e1, e2⟩ := n1 h5'
                          omega
                        · obtain ⟨e1, e2⟩ := n2 (by omega)
                          omega
                      refine .nil (.code ?_)
                      refine .ff (.skip (.code ?_))
                      refine .reg (.q (.move rfl) (.callM (Lm := BR M J (.slice lA m.l.length lc) (.slice dA m1.need.length dc) Ln1 m1) (Lr := [(b3, .cells (encRE e).toArray 82 (0, 0))]) fn36 rfl (List.perm_append_singleton _ _).symm (fun w hH => rnext_calls w0 w M J _ _ Ln1 m1 K hH (by rw [hq6]; exact hl) hq1 (by omega)) fun v79 L79 p79 => (?_)))
                      obtain ⟨nv2, Ln2, rfl, hD2⟩ := p79
                      refine .nil (.inbN (.rd (rNext m1, nv2, Ln2) ⟨rfl, rfl, rfl, rfl, trivial⟩ (fun _ h => zperm (List.perm_append_singleton _ _) h) ⟨rNext_I hq1 (by omega), hD2, (by rw [hq3, rAdvance_step hq1 f5 hq4 (by omega) hnil] : rAdvance m e.s (phaseOf e.k) = rAdvance (rNext m1) e.s (phaseOf e.k)), hst.1, hst.2, (rNext_l m1).trans hq6⟩ (by show rAdvM (rNext m1) e.s < rAdvM m1 e.s; rw [rAdvM_next hq1 f5 hq4 (by omega)]; omega)))
                  · have hdn : ¬ (m1.slot < e.s ∨ m1.phase < phaseOf e.k) := by omega
                    have hdone : rAdvance m e.s (phaseOf e.k) = (m1, 0) := hq3.trans (rAdvance_done hdn)
                    have hes : m1.slot = e.s := by omega
                    have hep : m1.phase = phaseOf e.k := by omega
                    have hll : m1.l.length = m.l.length := by rw [hq6]
                    have hij : e.t.toNat < m1.js.length := by have := hq1.nj; omega
                    have hil : e.t.toNat < m.l.length := by omega
                    have hjs := List.getElem?_eq_getElem hij
                    obtain ⟨b1', b2', b3', b4', b5', b6', b7', b8', b9', b10'⟩ := hq1.job _ _ hjs
                    have htk := okT_bd (hI.tk hil)
                    obtain ⟨k1, k2, k3⟩ := htk
                    obtain ⟨lb, loff, lc2, hle, hlc⟩ := Rd.at hl hil
                    cases hle
                    have hper : rPer m1 e.t.toNat = m.l[e.t.toNat].p := by unfold rPer; rw [hq6, List.getElem?_eq_getElem hil]; rfl
                    refine .q (.pickF rfl rfl) (.nil (.code ?_))
                    refine .ff (.exit (.thE (.thE (.inbX (.code ?_)))))
                    refine .seq (.draw mix (by kernel_rfl) (fun _ h => h.drew) (.q (.move rfl) (.q (.nilP rfl) (.q (.fld f85_2 rfl) (.q (.ldO o83 1 rfl rfl rfl) (.q (.fld f82_2 rfl) (.q (.ldO (v := .int .i64 ((e.t.toNat : Nat) : Int)) o3 0 rfl rfl (by rw [Int.toNat_of_nonneg ht0]; rfl)) (.q (.ix s83 rfl rfl (by omega)) (.q (.assign rfl) (.nil (.code ?_)))))))))))
                    refine .seq (.seq (.reg (.q (.move rfl) (.nil (.code ?_)))))
                    refine .block (.seq (.reg (.eqS rfl rfl (fun h138 => ?_) (fun h138 => ?_))))
                    · have hp2 := h138
                      refine .q (.assign rfl) (.nil (.code ?_))
                      refine .tt (.seq (.seq (.draw mix (by kernel_rfl) (fun _ h => h.drew) (.q (.fld f82_2 rfl) (.q (.ldO o3 0 rfl rfl rfl) (.q (.move rfl) (.q (.nilP rfl) (.q (.fld f85_6 rfl) (.q (.ldO o3 1 rfl rfl rfl) (.leS rfl rfl (fun h145 => ?_) (fun h145 => ?_)))))))))))
                      · have happ : rApply m1 e = none := rApply_2n hjs hp2 (.inl h145)
                        refine .q (.move rfl) (.skip (.skip (.skip (.skip (.q (.pickT rfl rfl) (.q (.move rfl) (.skip (.skip (.skip (.skip (.skip (.skip (.skip (.skip (.skip (.skip (.skip (.skip (.skip (.skip (.skip (.skip (.skip (.skip (.skip (.skip (.skip (.skip (.skip (.skip (.q (.pickT rfl rfl) (.q (.move rfl) (.skip (.skip (.skip (.skip (.skip (.skip (.skip (.q (.pickT rfl rfl) (.q (.move rfl) (.skip (.skip (.skip (.q (.pickT rfl rfl) (.q (.move rfl) (.skip (.skip (.skip (.q (.pickT rfl rfl) (.nil (.code ?_))))))))))))))))))))))))))))))))))))))))))))))))))))
                        refine .tt (.seq (.reg (.q (.assign rfl) (.nil (.code ?_)))))
                        refine .ret (.thR (.inbR (.thR (.ret1 Try.results34 rfl fun w1 hz => ⟨_, _, rfl, hz, by rw [hx3, rxT_no hdone happ]; show _ = Value.int .i64 (phaseOf e.k + 2); rw [hp2]; rfl, fun h => by rw [hx3, rxT_no hdone happ] at h; simp only at h; omega⟩))))
                      · refine .q (.move rfl) (.q (.move rfl) (.q (.nilP rfl) (.q (.fld f119_5 rfl) (?_))))
                        rcases hact : m1.js[e.t.toNat].act with _ | _
                        · refine .q (.ldO (v := .bool false) o4 2 rfl rfl ((jget hij (q := 5) (by omega)).trans (show some (Value.bool m1.js[e.t.toNat].act) = some (.bool false) by rw [hact]))) (.q (.pickF rfl rfl) (.q (.move rfl) (.q (.move rfl) (.q (.nilP rfl) (.q (.fld f119_0 rfl) (.q (.ldO (v := .int .i64 m1.js[e.t.toNat].cnt) o3 2 rfl rfl (jget hij (q := 0) (by omega))) (.gtS rfl rfl (fun h157 => ?_) (fun h157 => ?_))))))))
                          · refine .q (.move rfl) (.q (.fld f82_0 rfl) (.q (.ldO o3 0 rfl rfl rfl) (.q (.move rfl) (.q (.nilP rfl) (.q (.fld f119_1 rfl) (.q (.ldO (v := .int .i64 m1.js[e.t.toNat].rel) o3 2 rfl rfl (jget hij (q := 1) (by omega))) (.q (.sub rfl rfl (IntWalk.i64_in _ (by omega))) (.q (.move rfl) (.q (.nilP rfl) (.q (.fld f85_0 rfl) (.q (.ldO o30 1 rfl rfl rfl) (.q (.fld f82_2 rfl) (.q (.ldO (v := .int .i64 ((e.t.toNat : Nat) : Int)) o3 0 rfl rfl (by rw [Int.toNat_of_nonneg ht0]; rfl)) (.q (.ix s30 rfl rfl (by omega)) (.q (.fld f87_2 rfl) (.q (.ldW o3 rfl (hlc 2 (by omega))) (.ltS rfl rfl (fun h175 => ?_) (fun h175 => ?_))))))))))))))))))
                            · have happ : rApply m1 e = none := rApply_2n hjs hp2 (.inr (.inr (.inl (by rw [hper]; omega))))
                              refine .q (.pickT rfl rfl) (.q (.pickF rfl rfl) (.q (.move rfl) (.skip (.skip (.skip (.skip (.skip (.skip (.skip (.q (.pickT rfl rfl) (.q (.move rfl) (.skip (.skip (.skip (.q (.pickT rfl rfl) (.q (.move rfl) (.skip (.skip (.skip (.q (.pickT rfl rfl) (.nil (.code ?_))))))))))))))))))))))
                              refine .tt (.seq (.reg (.q (.assign rfl) (.nil (.code ?_)))))
                              refine .ret (.thR (.inbR (.thR (.ret1 Try.results34 rfl fun w1 hz => ⟨_, _, rfl, hz, by rw [hx3, rxT_no hdone happ]; show _ = Value.int .i64 (phaseOf e.k + 2); rw [hp2]; rfl, fun h => by rw [hx3, rxT_no hdone happ] at h; simp only at h; omega⟩))))
                            · refine .q (.pickT rfl rfl) (.q (.pickF rfl rfl) (.q (.move rfl) (.q (.fld f82_3 rfl) (.q (.ldO o3 0 rfl rfl rfl) (.q (.move rfl) (.q (.nilP rfl) (.q (.fld f119_0 rfl) (.q (.ldO (v := .int .i64 m1.js[e.t.toNat].cnt) o3 2 rfl rfl (jget hij (q := 0) (by omega))) (.neS rfl rfl (fun h185 => ?_) (fun h185 => ?_))))))))))
                              · have happ : rApply m1 e = none := rApply_2n hjs hp2 (.inr (.inr (.inr (.inl h185))))
                                refine .q (.pickF rfl rfl) (.q (.move rfl) (.skip (.skip (.skip (.q (.pickT rfl rfl) (.q (.move rfl) (.skip (.skip (.skip (.q (.pickT rfl rfl) (.nil (.code ?_))))))))))))
                                refine .tt (.seq (.reg (.q (.assign rfl) (.nil (.code ?_)))))
                                refine .ret (.thR (.inbR (.thR (.ret1 Try.results34 rfl fun w1 hz => ⟨_, _, rfl, hz, by rw [hx3, rxT_no hdone happ]; show _ = Value.int .i64 (phaseOf e.k + 2); rw [hp2]; rfl, fun h => by rw [hx3, rxT_no hdone happ] at h; simp only at h; omega⟩))))
                              · refine .q (.pickF rfl rfl) (.q (.move rfl) (.q (.fld f82_1 rfl) (.q (.ldO o3 0 rfl rfl rfl) (.neS rfl rfl (fun h190 => ?_) (fun h190 => ?_)))))
                                · have happ : rApply m1 e = none := rApply_2n hjs hp2 (.inr (.inr (.inr (.inr (.inl h190)))))
                                  refine .q (.pickF rfl rfl) (.q (.move rfl) (.skip (.skip (.skip (.q (.pickT rfl rfl) (.nil (.code ?_)))))))
                                  refine .tt (.seq (.reg (.q (.assign rfl) (.nil (.code ?_)))))
                                  refine .ret (.thR (.inbR (.thR (.ret1 Try.results34 rfl fun w1 hz => ⟨_, _, rfl, hz, by rw [hx3, rxT_no hdone happ]; show _ = Value.int .i64 (phaseOf e.k + 2); rw [hp2]; rfl, fun h => by rw [hx3, rxT_no hdone happ] at h; simp only at h; omega⟩))))
                                · refine .q (.pickF rfl rfl) (.q (.move rfl) (.q (.fld f82_5 rfl) (.q (.ldO o3 0 rfl rfl rfl) (.neS rfl rfl (fun h195 => ?_) (fun h195 => ?_)))))
                                  · have happ : rApply m1 e = none := rApply_2n hjs hp2 (.inr (.inr (.inr (.inr (.inr h195)))))
                                    refine .q (.pickF rfl rfl) (.nil (.code ?_))
                                    refine .tt (.seq (.reg (.q (.assign rfl) (.nil (.code ?_)))))
                                    refine .ret (.thR (.inbR (.thR (.ret1 Try.results34 rfl fun w1 hz => ⟨_, _, rfl, hz, by rw [hx3, rxT_no hdone happ]; show _ = Value.int .i64 (phaseOf e.k + 2); rw [hp2]; rfl, fun h => by rw [hx3, rxT_no hdone happ] at h; simp only at h; omega⟩))))
                                  · obtain ⟨b1, hb1⟩ : ∃ x : Rm, x = { m1 with last := e.t, js := m1.js.set e.t.toNat ⟨m1.js[e.t.toNat].cnt + 1, e.s, 0, 0, 0, true⟩ } := ⟨_, rfl⟩
                                    have happ : rApply m1 e = some b1 := by rw [hb1]; exact rApply_2y hjs hp2 hact (by rw [hper]; omega)
                                    refine .q (.pickF rfl rfl) (.nil (.code ?_))
                                    refine .ff (.skip (.code ?_))
                                    refine .seq (.reg (.q (.move rfl) (.q (.fld f82_2 rfl) (.q (.ldO o3 0 rfl rfl rfl) (.q (.nilP rfl) (.q (.fld f85_6 rfl) (.st o3 1 rfl rfl rfl rfl rfl (.nil (.code ?_)))))))))
                                    refine .drawT mix 9 (by kernel_rfl) (fun _ h => h.drew) (.q (.move rfl) (.q (.move rfl) (.q (.nilP rfl) (.q (.fld f119_0 rfl) (.q (.ldO (v := .int .i64 m1.js[e.t.toNat].cnt) o3 2 rfl rfl (jget hij (q := 0) (by omega))) (.q (.add rfl rfl (IntWalk.i64_in _ (by omega))) (.q (.fld f82_0 rfl) (.q (.ldO o3 0 rfl rfl rfl) (.q (.build st119 rfl rfl) (.tail (.q (.nilP rfl) (.stR (enc := encRJ) (u := ⟨m1.js[e.t.toNat].cnt + 1, e.s, 0, 0, 0, true⟩) a119 encRJ_len 2 rfl rfl rfl rfl hij (.nil (.inbN (.code ?_)))))))))))))))
                                    refine .seq (.reg (.q (.assign rfl) (.nil (.code ?_))))
                                    refine .ret (.ret1 Try.results34 rfl fun w1 hz => ⟨_, BR M J (.slice (some ⟨lb, loff, none⟩) m.l.length lc) (.slice dA m1.need.length dc) Ln1 b1, rfl, finR (drp hz) (by subst hb1; simp [rmC]) (by subst hb1; first | rfl | simp only [List.set_set]), by rw [hx3, rxT_yes hdone happ], fun _ => by rw [hx3, rxT_yes hdone happ]; exact ⟨_, _, rfl, by subst hb1; exact hq2⟩⟩)
                          · refine .q (.move rfl) (.skip (.skip (.skip (.skip (.skip (.skip (.skip (.skip (.skip (.skip (.skip (.skip (.skip (.skip (.skip (.skip (.skip (.q (.pickF rfl rfl) (.q (.pickF rfl rfl) (.q (.move rfl) (.q (.fld f82_3 rfl) (.q (.ldO o3 0 rfl rfl rfl) (.q (.move rfl) (.q (.nilP rfl) (.q (.fld f119_0 rfl) (.q (.ldO (v := .int .i64 m1.js[e.t.toNat].cnt) o3 2 rfl rfl (jget hij (q := 0) (by omega))) (.neS rfl rfl (fun h185 => ?_) (fun h185 => ?_))))))))))))))))))))))))))))
                            · have happ : rApply m1 e = none := rApply_2n hjs hp2 (.inr (.inr (.inr (.inl h185))))
                              refine .q (.pickF rfl rfl) (.q (.move rfl) (.skip (.skip (.skip (.q (.pickT rfl rfl) (.q (.move rfl) (.skip (.skip (.skip (.q (.pickT rfl rfl) (.nil (.code ?_))))))))))))
                              refine .tt (.seq (.reg (.q (.assign rfl) (.nil (.code ?_)))))
                              refine .ret (.thR (.inbR (.thR (.ret1 Try.results34 rfl fun w1 hz => ⟨_, _, rfl, hz, by rw [hx3, rxT_no hdone happ]; show _ = Value.int .i64 (phaseOf e.k + 2); rw [hp2]; rfl, fun h => by rw [hx3, rxT_no hdone happ] at h; simp only at h; omega⟩))))
                            · refine .q (.pickF rfl rfl) (.q (.move rfl) (.q (.fld f82_1 rfl) (.q (.ldO o3 0 rfl rfl rfl) (.neS rfl rfl (fun h190 => ?_) (fun h190 => ?_)))))
                              · have happ : rApply m1 e = none := rApply_2n hjs hp2 (.inr (.inr (.inr (.inr (.inl h190)))))
                                refine .q (.pickF rfl rfl) (.q (.move rfl) (.skip (.skip (.skip (.q (.pickT rfl rfl) (.nil (.code ?_)))))))
                                refine .tt (.seq (.reg (.q (.assign rfl) (.nil (.code ?_)))))
                                refine .ret (.thR (.inbR (.thR (.ret1 Try.results34 rfl fun w1 hz => ⟨_, _, rfl, hz, by rw [hx3, rxT_no hdone happ]; show _ = Value.int .i64 (phaseOf e.k + 2); rw [hp2]; rfl, fun h => by rw [hx3, rxT_no hdone happ] at h; simp only at h; omega⟩))))
                              · refine .q (.pickF rfl rfl) (.q (.move rfl) (.q (.fld f82_5 rfl) (.q (.ldO o3 0 rfl rfl rfl) (.neS rfl rfl (fun h195 => ?_) (fun h195 => ?_)))))
                                · have happ : rApply m1 e = none := rApply_2n hjs hp2 (.inr (.inr (.inr (.inr (.inr h195)))))
                                  refine .q (.pickF rfl rfl) (.nil (.code ?_))
                                  refine .tt (.seq (.reg (.q (.assign rfl) (.nil (.code ?_)))))
                                  refine .ret (.thR (.inbR (.thR (.ret1 Try.results34 rfl fun w1 hz => ⟨_, _, rfl, hz, by rw [hx3, rxT_no hdone happ]; show _ = Value.int .i64 (phaseOf e.k + 2); rw [hp2]; rfl, fun h => by rw [hx3, rxT_no hdone happ] at h; simp only at h; omega⟩))))
                                · obtain ⟨b1, hb1⟩ : ∃ x : Rm, x = { m1 with last := e.t, js := m1.js.set e.t.toNat ⟨m1.js[e.t.toNat].cnt + 1, e.s, 0, 0, 0, true⟩ } := ⟨_, rfl⟩
                                  have happ : rApply m1 e = some b1 := by rw [hb1]; exact rApply_2y hjs hp2 hact (by rw [hper]; omega)
                                  refine .q (.pickF rfl rfl) (.nil (.code ?_))
                                  refine .ff (.skip (.code ?_))
                                  refine .seq (.reg (.q (.move rfl) (.q (.fld f82_2 rfl) (.q (.ldO o3 0 rfl rfl rfl) (.q (.nilP rfl) (.q (.fld f85_6 rfl) (.st o3 1 rfl rfl rfl rfl rfl (.nil (.code ?_)))))))))
                                  refine .drawT mix 9 (by kernel_rfl) (fun _ h => h.drew) (.q (.move rfl) (.q (.move rfl) (.q (.nilP rfl) (.q (.fld f119_0 rfl) (.q (.ldO (v := .int .i64 m1.js[e.t.toNat].cnt) o3 2 rfl rfl (jget hij (q := 0) (by omega))) (.q (.add rfl rfl (IntWalk.i64_in _ (by omega))) (.q (.fld f82_0 rfl) (.q (.ldO o3 0 rfl rfl rfl) (.q (.build st119 rfl rfl) (.tail (.q (.nilP rfl) (.stR (enc := encRJ) (u := ⟨m1.js[e.t.toNat].cnt + 1, e.s, 0, 0, 0, true⟩) a119 encRJ_len 2 rfl rfl rfl rfl hij (.nil (.inbN (.code ?_)))))))))))))))
                                  refine .seq (.reg (.q (.assign rfl) (.nil (.code ?_))))
                                  refine .ret (.ret1 Try.results34 rfl fun w1 hz => ⟨_, BR M J (.slice (some ⟨lb, loff, none⟩) m.l.length lc) (.slice dA m1.need.length dc) Ln1 b1, rfl, finR (drp hz) (by subst hb1; simp [rmC]) (by subst hb1; first | rfl | simp only [List.set_set]), by rw [hx3, rxT_yes hdone happ], fun _ => by rw [hx3, rxT_yes hdone happ]; exact ⟨_, _, rfl, by subst hb1; exact hq2⟩⟩)
                        · have happ : rApply m1 e = none := rApply_2n hjs hp2 (.inr (.inl hact))
                          refine .q (.ldO (v := .bool true) o4 2 rfl rfl ((jget hij (q := 5) (by omega)).trans (show some (Value.bool m1.js[e.t.toNat].act) = some (.bool true) by rw [hact]))) (.q (.pickF rfl rfl) (.q (.move rfl) (.skip (.skip (.skip (.skip (.skip (.skip (.skip (.skip (.skip (.skip (.skip (.skip (.skip (.skip (.skip (.skip (.skip (.skip (.skip (.skip (.skip (.skip (.skip (.skip (.q (.pickT rfl rfl) (.q (.move rfl) (.skip (.skip (.skip (.skip (.skip (.skip (.skip (.q (.pickT rfl rfl) (.q (.move rfl) (.skip (.skip (.skip (.q (.pickT rfl rfl) (.q (.move rfl) (.skip (.skip (.skip (.q (.pickT rfl rfl) (.nil (.code ?_))))))))))))))))))))))))))))))))))))))))))))))))
                          refine .tt (.seq (.reg (.q (.assign rfl) (.nil (.code ?_)))))
                          refine .ret (.thR (.inbR (.thR (.ret1 Try.results34 rfl fun w1 hz => ⟨_, _, rfl, hz, by rw [hx3, rxT_no hdone happ]; show _ = Value.int .i64 (phaseOf e.k + 2); rw [hp2]; rfl, fun h => by rw [hx3, rxT_no hdone happ] at h; simp only at h; omega⟩))))
                    · refine .q (.assign rfl) (.nil (.code ?_))
                      refine .ff (.seq (.reg (.eqS rfl rfl (fun h213 => ?_) (fun h213 => ?_))))
                      · have hp4 := h213
                        refine .q (.assign rfl) (.nil (.code ?_))
                        refine .tt (.seq (.seq (.draw mix (by kernel_rfl) (fun _ h => h.drew) (.q (.move rfl) (.q (.nilP rfl) (.q (.fld f119_5 rfl) (?_)))))))
                        rcases hact : m1.js[e.t.toNat].act with _ | _
                        · have happ : rApply m1 e = none := rApply_4n hjs hp4 (.inl hact)
                          refine .q (.ldO (v := .bool false) o4 2 rfl rfl ((jget hij (q := 5) (by omega)).trans (show some (Value.bool m1.js[e.t.toNat].act) = some (.bool false) by rw [hact]))) (.q (.notB rfl) (.q (.move rfl) (.skip (.skip (.skip (.skip (.skip (.skip (.skip (.skip (.q (.pickT rfl rfl) (.q (.move rfl) (.skip (.skip (.skip (.skip (.skip (.q (.pickT rfl rfl) (.q (.move rfl) (.skip (.skip (.skip (.skip (.skip (.skip (.skip (.q (.pickT rfl rfl) (.q (.move rfl) (.skip (.skip (.skip (.skip (.skip (.skip (.skip (.q (.pickT rfl rfl) (.q (.move rfl) (.skip (.skip (.skip (.skip (.skip (.skip (.skip (.skip (.q (.pickT rfl rfl) (.nil (.code ?_))))))))))))))))))))))))))))))))))))))))))))))))
                          refine .tt (.seq (.reg (.q (.assign rfl) (.nil (.code ?_)))))
                          refine .ret (.thR (.inbR (.thR (.ret1 Try.results34 rfl fun w1 hz => ⟨_, _, rfl, hz, by rw [hx3, rxT_no hdone happ]; show _ = Value.int .i64 (phaseOf e.k + 2); rw [hp4]; rfl, fun h => by rw [hx3, rxT_no hdone happ] at h; simp only at h; omega⟩))))
                        · refine .q (.ldO (v := .bool true) o4 2 rfl rfl ((jget hij (q := 5) (by omega)).trans (show some (Value.bool m1.js[e.t.toNat].act) = some (.bool true) by rw [hact]))) (.q (.notB rfl) (.q (.move rfl) (.q (.fld f82_3 rfl) (.q (.ldO o3 0 rfl rfl rfl) (.q (.move rfl) (.q (.nilP rfl) (.q (.fld f119_0 rfl) (.q (.ldO (v := .int .i64 m1.js[e.t.toNat].cnt) o3 2 rfl rfl (jget hij (q := 0) (by omega))) (.q (.sub rfl rfl (IntWalk.i64_in _ (by omega))) (.neS rfl rfl (fun h227 => ?_) (fun h227 => ?_)))))))))))
                          · have happ : rApply m1 e = none := rApply_4n hjs hp4 (.inr (.inl h227))
                            refine .q (.pickF rfl rfl) (.q (.move rfl) (.skip (.skip (.skip (.skip (.skip (.q (.pickT rfl rfl) (.q (.move rfl) (.skip (.skip (.skip (.skip (.skip (.skip (.skip (.q (.pickT rfl rfl) (.q (.move rfl) (.skip (.skip (.skip (.skip (.skip (.skip (.skip (.q (.pickT rfl rfl) (.q (.move rfl) (.skip (.skip (.skip (.skip (.skip (.skip (.skip (.skip (.q (.pickT rfl rfl) (.nil (.code ?_)))))))))))))))))))))))))))))))))))))
                            refine .tt (.seq (.reg (.q (.assign rfl) (.nil (.code ?_)))))
                            refine .ret (.thR (.inbR (.thR (.ret1 Try.results34 rfl fun w1 hz => ⟨_, _, rfl, hz, by rw [hx3, rxT_no hdone happ]; show _ = Value.int .i64 (phaseOf e.k + 2); rw [hp4]; rfl, fun h => by rw [hx3, rxT_no hdone happ] at h; simp only at h; omega⟩))))
                          · refine .q (.pickF rfl rfl) (.q (.move rfl) (.q (.move rfl) (.q (.nilP rfl) (.q (.fld f119_2 rfl) (.q (.ldO (v := .int .i64 m1.js[e.t.toNat].runs) o3 2 rfl rfl (jget hij (q := 2) (by omega))) (.eqS rfl rfl (fun h234 => ?_) (fun h234 => ?_)))))))
                            · have happ : rApply m1 e = none := rApply_4n hjs hp4 (.inr (.inr (.inl h234)))
                              refine .q (.pickF rfl rfl) (.q (.move rfl) (.skip (.skip (.skip (.skip (.skip (.skip (.skip (.q (.pickT rfl rfl) (.q (.move rfl) (.skip (.skip (.skip (.skip (.skip (.skip (.skip (.q (.pickT rfl rfl) (.q (.move rfl) (.skip (.skip (.skip (.skip (.skip (.skip (.skip (.skip (.q (.pickT rfl rfl) (.nil (.code ?_))))))))))))))))))))))))))))))
                              refine .tt (.seq (.reg (.q (.assign rfl) (.nil (.code ?_)))))
                              refine .ret (.thR (.inbR (.thR (.ret1 Try.results34 rfl fun w1 hz => ⟨_, _, rfl, hz, by rw [hx3, rxT_no hdone happ]; show _ = Value.int .i64 (phaseOf e.k + 2); rw [hp4]; rfl, fun h => by rw [hx3, rxT_no hdone happ] at h; simp only at h; omega⟩))))
                            · refine .q (.pickF rfl rfl) (.q (.move rfl) (.q (.move rfl) (.q (.nilP rfl) (.q (.fld f119_3 rfl) (.q (.ldO (v := .int .i64 m1.js[e.t.toNat].slot) o3 2 rfl rfl (jget hij (q := 3) (by omega))) (.q (.fld f82_0 rfl) (.q (.ldO o3 0 rfl rfl rfl) (.neS rfl rfl (fun h243 => ?_) (fun h243 => ?_)))))))))
                              · have happ : rApply m1 e = none := rApply_4n hjs hp4 (.inr (.inr (.inr (.inl h243))))
                                refine .q (.pickF rfl rfl) (.q (.move rfl) (.skip (.skip (.skip (.skip (.skip (.skip (.skip (.q (.pickT rfl rfl) (.q (.move rfl) (.skip (.skip (.skip (.skip (.skip (.skip (.skip (.skip (.q (.pickT rfl rfl) (.nil (.code ?_)))))))))))))))))))))
                                refine .tt (.seq (.reg (.q (.assign rfl) (.nil (.code ?_)))))
                                refine .ret (.thR (.inbR (.thR (.ret1 Try.results34 rfl fun w1 hz => ⟨_, _, rfl, hz, by rw [hx3, rxT_no hdone happ]; show _ = Value.int .i64 (phaseOf e.k + 2); rw [hp4]; rfl, fun h => by rw [hx3, rxT_no hdone happ] at h; simp only at h; omega⟩))))
                              · refine .q (.pickF rfl rfl) (.q (.move rfl) (.q (.move rfl) (.q (.nilP rfl) (.q (.fld f119_4 rfl) (.q (.ldO (v := .int .i64 m1.js[e.t.toNat].core) o3 2 rfl rfl (jget hij (q := 4) (by omega))) (.q (.fld f82_1 rfl) (.q (.ldO o3 0 rfl rfl rfl) (.neS rfl rfl (fun h252 => ?_) (fun h252 => ?_)))))))))
                                · have happ : rApply m1 e = none := rApply_4n hjs hp4 (.inr (.inr (.inr (.inr (.inl h252)))))
                                  refine .q (.pickF rfl rfl) (.q (.move rfl) (.skip (.skip (.skip (.skip (.skip (.skip (.skip (.skip (.q (.pickT rfl rfl) (.nil (.code ?_))))))))))))
                                  refine .tt (.seq (.reg (.q (.assign rfl) (.nil (.code ?_)))))
                                  refine .ret (.thR (.inbR (.thR (.ret1 Try.results34 rfl fun w1 hz => ⟨_, _, rfl, hz, by rw [hx3, rxT_no hdone happ]; show _ = Value.int .i64 (phaseOf e.k + 2); rw [hp4]; rfl, fun h => by rw [hx3, rxT_no hdone happ] at h; simp only at h; omega⟩))))
                                · refine .q (.pickF rfl rfl) (.q (.move rfl) (.q (.fld f82_4 rfl) (.q (.ldO o5 0 rfl rfl rfl) (.eqS rfl rfl (fun h257 => ?_) (fun h257 => ?_)))))
                                  · refine .q (.move rfl) (.q (.fld f82_5 rfl) (.q (.ldO o3 0 rfl rfl rfl) (.neS rfl rfl (fun h261 => ?_) (fun h261 => ?_))))
                                    · have happ : rApply m1 e = none := rApply_4n hjs hp4 (.inr (.inr (.inr (.inr (.inr ⟨h257, h261⟩)))))
                                      refine .q (.pickT rfl rfl) (.q (.pickF rfl rfl) (.nil (.code ?_)))
                                      refine .tt (.seq (.reg (.q (.assign rfl) (.nil (.code ?_)))))
                                      refine .ret (.thR (.inbR (.thR (.ret1 Try.results34 rfl fun w1 hz => ⟨_, _, rfl, hz, by rw [hx3, rxT_no hdone happ]; show _ = Value.int .i64 (phaseOf e.k + 2); rw [hp4]; rfl, fun h => by rw [hx3, rxT_no hdone happ] at h; simp only at h; omega⟩))))
                                    · obtain ⟨b1, hb1⟩ : ∃ x : Rm, x = { m1 with js := m1.js.set e.t.toNat { m1.js[e.t.toNat] with act := decide (e.k = 7) } } := ⟨_, rfl⟩
                                      have happ : rApply m1 e = some b1 := by rw [hb1]; exact rApply_4y hjs hp4 hact (by omega)
                                      refine .q (.pickT rfl rfl) (.q (.pickF rfl rfl) (.nil (.code ?_)))
                                      refine .ff (.skip (.code ?_))
                                      refine .reg (.q (.move rfl) (.q (.fld f82_4 rfl) (.q (.ldO o5 0 rfl rfl rfl) (.q (.cmp rfl rfl rfl) (.q (.nilP rfl) (.q (.fld f119_5 rfl) (.st o4 2 rfl rfl rfl rfl (jlt hij (by omega)) (?_))))))))
                                      rw [jset (r := { m1.js[e.t.toNat] with act := decide (e.k = 7) }) hij (by omega) rfl]
                                      refine .nil (.inbN (.code ?_))
                                      refine .seq (.reg (.q (.assign rfl) (.nil (.code ?_))))
                                      refine .ret (.ret1 Try.results34 rfl fun w1 hz => ⟨_, BR M J (.slice (some ⟨lb, loff, none⟩) m.l.length lc) (.slice dA m1.need.length dc) Ln1 b1, rfl, finR (drp hz) (by subst hb1; simp [rmC]) (by subst hb1; first | rfl | simp only [List.set_set]), by rw [hx3, rxT_yes hdone happ], fun _ => by rw [hx3, rxT_yes hdone happ]; exact ⟨_, _, rfl, by subst hb1; exact hq2⟩⟩)
                                  · obtain ⟨b1, hb1⟩ : ∃ x : Rm, x = { m1 with js := m1.js.set e.t.toNat { m1.js[e.t.toNat] with act := decide (e.k = 7) } } := ⟨_, rfl⟩
                                    have happ : rApply m1 e = some b1 := by rw [hb1]; exact rApply_4y hjs hp4 hact (by omega)
                                    refine .q (.move rfl) (.skip (.skip (.skip (.q (.pickF rfl rfl) (.q (.pickF rfl rfl) (.nil (.code ?_)))))))
                                    refine .ff (.skip (.code ?_))
                                    refine .reg (.q (.move rfl) (.q (.fld f82_4 rfl) (.q (.ldO o5 0 rfl rfl rfl) (.q (.cmp rfl rfl rfl) (.q (.nilP rfl) (.q (.fld f119_5 rfl) (.st o4 2 rfl rfl rfl rfl (jlt hij (by omega)) (?_))))))))
                                    rw [jset (r := { m1.js[e.t.toNat] with act := decide (e.k = 7) }) hij (by omega) rfl]
                                    refine .nil (.inbN (.code ?_))
                                    refine .seq (.reg (.q (.assign rfl) (.nil (.code ?_))))
                                    refine .ret (.ret1 Try.results34 rfl fun w1 hz => ⟨_, BR M J (.slice (some ⟨lb, loff, none⟩) m.l.length lc) (.slice dA m1.need.length dc) Ln1 b1, rfl, finR (drp hz) (by subst hb1; simp [rmC]) (by subst hb1; first | rfl | simp only [List.set_set]), by rw [hx3, rxT_yes hdone happ], fun _ => by rw [hx3, rxT_yes hdone happ]; exact ⟨_, _, rfl, by subst hb1; exact hq2⟩⟩)
                      · have hp2n : phaseOf e.k ≠ 2 := h138
                        have hp4n : phaseOf e.k ≠ 4 := h213
                        refine .q (.assign rfl) (.nil (.code ?_))
                        refine .ff (.seq (.seq (.draw mix (by kernel_rfl) (fun _ h => h.drew) (.q (.move rfl) (.q (.nilP rfl) (.q (.fld f85_5 rfl) (.q (.ldO o32 1 rfl rfl rfl) (?_))))))))
                        rcases hnd : m1.need with _ | ⟨d, ds⟩
                        · have happ : rApply m1 e = none := rApply_n hjs hp2n hp4n hnd
                          refine .q (.lenS s32.t rfl) (.q (.cmp rfl rfl (eqT (by simp))) (.q (.move rfl) (.skip (.skip (.skip (.skip (.skip (.skip (.skip (.skip (.q (.pickT rfl rfl) (.nil (.code ?_)))))))))))))
                          refine .tt (.seq (.reg (.q (.move rfl) (.q (.call fn35 rfl (fun w hz => rrule_calls w (phaseOf e.k) f0 f5)) (.q (.assign rfl) (.nil (.code ?_)))))))
                          refine .ret (.thR (.inbR (.thR (.ret1 Try.results34 rfl fun w1 hz => ⟨_, _, rfl, hz, by rw [hx3, rxT_no hdone happ], fun h => by rw [hx3, rxT_no hdone happ] at h; simp only at h; omega⟩))))
                        · rw [hnd] at hdc hdr0
                          obtain ⟨db, doff, cells, rfl, rfl, hdr⟩ := hdr0.resolve_left (by simp)
                          refine .q (.lenS s32.t rfl) (.q (.cmp rfl rfl (eqF (by simp; omega))) (.q (.move rfl) (.q (.move rfl) (.q (.nilP rfl) (.q (.fld f85_5 rfl) (.q (.ldO o32 1 rfl rfl rfl) (.q (.ix (j := 0) s32 rfl rfl (by simp)) (.q (.ldA a82 (cs := encRE d) rfl rfl (fun w1 hz q hq => by rw [cellA (hz.h.has (db, .cells cells 82 (0, 0)) (by simp [BR]))]; exact hdr 0 (by simp) q hq)) (.q (.ldOA a82 0 rfl rfl rfl rfl) (.qB (.neS eq82 (us := [d.s, d.c, d.t, d.j, d.k, d.v]) (vs := [e.s, e.c, e.t, e.j, e.k, e.v]) rfl rfl rfl rfl (reNe d e)) (fun h102 => ?_) (fun h102 => ?_)))))))))))
                          · have happ : rApply m1 e = none := (rApply_d hjs hp2n hp4n hnd).trans (if_pos (of_decide_eq_true h102))
                            refine .q (.pickF rfl rfl) (.nil (.code ?_))
                            refine .tt (.seq (.reg (.q (.move rfl) (.q (.call fn35 rfl (fun w hz => rrule_calls w (phaseOf e.k) f0 f5)) (.q (.assign rfl) (.nil (.code ?_)))))))
                            refine .ret (.thR (.inbR (.thR (.ret1 Try.results34 rfl fun w1 hz => ⟨_, _, rfl, hz, by rw [hx3, rxT_no hdone happ], fun h => by rw [hx3, rxT_no hdone happ] at h; simp only at h; omega⟩))))
                          · refine .q (.pickF rfl rfl) (.nil (.code ?_))
                            refine .ff (.skip (.code ?_))
                            refine .seq (.reg (.q (.move rfl) (.q (.move rfl) (.q (.nilP rfl) (.q (.fld f85_5 rfl) (.q (.ldO o32 1 rfl rfl rfl) (.q (.slLo (j := 1) s32 rfl rfl (by simp) hdc) (.q (.nilP rfl) (.q (.fld f85_5 rfl) (.st o32 1 rfl rfl rfl rfl rfl (.nil (.code ?_))))))))))))
                            refine .seq (.reg (.q (.move rfl) (.eqS rfl rfl (fun h115 => ?_) (fun h115 => ?_))))
                            · obtain ⟨b1, hb1⟩ : ∃ x : Rm, x = { m1 with need := ds, js := m1.js.set e.t.toNat { m1.js[e.t.toNat] with runs := m1.js[e.t.toNat].runs + 1, slot := e.s, core := e.c } } := ⟨_, rfl⟩
                              have happ : rApply m1 e = some b1 := by rw [hb1]; exact (rApply_d hjs hp2n hp4n hnd).trans ((if_neg (of_decide_eq_false h102)).trans (if_pos h115))
                              refine .nil (.code ?_)
                              refine .tt (.drawS (F := Z w0 w _ [(b3, .cells (encRE e).toArray 82 (0, 0))]) mix [] [] [0, 1, 2, 3, 4, 5, 8, 9, 10, 11] (.one 6 (.one 7 (.one 12 (.one 13 (.one 14 (.one 15 (.one 16 (.one 17 (.one 18 (.one 19 (.one 20 .nil))))))))))) (by kernel_rfl) (fun _ h => h.drew) (fun _ h => h.sublist (.cons_cons _ (List.nil_sublist _))) (.toS (.q (.move rfl) (.q (.move rfl) (.q (.move rfl) (.q (.move rfl) (.q (.nilP rfl) (.q (.fld f119_2 rfl) (.q (.fld f82_0 rfl) (.q (.ldO o3 0 rfl rfl rfl) (.q (.fld f82_1 rfl) (.q (.ldO o3 0 rfl rfl rfl) (.toT (.step rfl (.q (.ldO (v := .int .i64 m1.js[e.t.toNat].runs) o3 2 rfl rfl (jget hij (q := 2) (by omega))) (.nil (.tk (fun _ h => h.sublist (.cons_cons _ (List.nil_sublist _))) (.step rfl (.q (.add rfl rfl (IntWalk.i64_in _ (by omega))) (.nil (.tk (fun _ h => h.sublist (.cons_cons _ (List.nil_sublist _))) (.step rfl (.q (.nilP rfl) (.nil (.tk (fun _ h => h.sublist (.cons_cons _ (List.nil_sublist _))) (.step rfl (.q (.fld f119_2 rfl) (.nil (.tk (fun _ h => h.sublist (.cons_cons _ (List.nil_sublist _))) (.step rfl (.st o3 2 rfl rfl rfl rfl (jlt hij (by omega)) (?_))))))))))))))))))))))))))))))))
                              rw [jset (r := { m1.js[e.t.toNat] with runs := m1.js[e.t.toNat].runs + 1 }) hij (by omega) rfl]
                              refine .nil (.tk (fun _ h => h.sublist (.cons_cons _ (List.nil_sublist _))) (.step rfl (.q (.nilP rfl) (.nil (.tk (fun _ h => h.sublist (.cons_cons _ (List.nil_sublist _))) (.step rfl (.q (.fld f119_3 rfl) (.nil (.tk (fun _ h => h.sublist (.cons_cons _ (List.nil_sublist _))) (.step rfl (.st o3 2 rfl rfl rfl rfl (jlt (by simpa using hij) (by omega)) (?_))))))))))))
                              rw [jset (r := { m1.js[e.t.toNat] with runs := m1.js[e.t.toNat].runs + 1, slot := e.s }) (by simpa using hij) (by omega) (by rw [List.getElem_set_self]; rfl)]
                              refine .nil (.tk (fun _ h => h.sublist (.cons_cons _ (List.nil_sublist _))) (.step rfl (.q (.nilP rfl) (.nil (.tk (fun _ h => h.sublist (.cons_cons _ (List.nil_sublist _))) (.step rfl (.q (.fld f119_4 rfl) (.nil (.tk (fun _ h => h.sublist (.cons_cons _ (List.nil_sublist _))) (.step rfl (.st o3 2 rfl rfl rfl rfl (jlt (by simpa using hij) (by omega)) (?_))))))))))))
                              rw [jset (r := { m1.js[e.t.toNat] with runs := m1.js[e.t.toNat].runs + 1, slot := e.s, core := e.c }) (by simpa using hij) (by omega) (by rw [List.getElem_set_self]; rfl)]
                              refine .nil (.tk (fun _ h => h.sublist (.cons_cons _ (List.nil_sublist _))) (.nil (.inbN (.code ?_))))
                              refine .seq (.reg (.q (.assign rfl) (.nil (.code ?_))))
                              refine .ret (.ret1 Try.results34 rfl fun w1 hz => ⟨_, BR M J (.slice (some ⟨lb, loff, none⟩) m.l.length lc) (.slice (some ⟨db, doff + (if dc = 1 then 0 else 1 * 6), none⟩) ((d :: ds).length - 1) (dc - 1)) [(db, .cells cells 82 (0, 0))] b1, rfl, finR (drp hz) (by subst hb1; simp [rmC]) (by subst hb1; first | rfl | simp only [List.set_set]), by rw [hx3, rxT_yes hdone happ], fun _ => by rw [hx3, rxT_yes hdone happ]; exact ⟨_, _, rfl, by subst hb1; exact DR.tl hdc hdr⟩⟩)
                            · obtain ⟨b1, hb1⟩ : ∃ x : Rm, x = { m1 with need := ds, js := m1.js.set e.t.toNat { m1.js[e.t.toNat] with act := false } } := ⟨_, rfl⟩
                              have happ : rApply m1 e = some b1 := by rw [hb1]; exact (rApply_d hjs hp2n hp4n hnd).trans ((if_neg (of_decide_eq_false h102)).trans (if_neg h115))
                              refine .nil (.code ?_)
                              refine .ff (.reg (.q (.move rfl) (.q (.nilP rfl) (.q (.fld f119_5 rfl) (.st o4 2 rfl rfl rfl rfl (jlt hij (by omega)) (?_))))))
                              rw [jset (r := { m1.js[e.t.toNat] with act := false }) hij (by omega) rfl]
                              refine .nil (.inbN (.code ?_))
                              refine .seq (.reg (.q (.assign rfl) (.nil (.code ?_))))
                              refine .ret (.ret1 Try.results34 rfl fun w1 hz => ⟨_, BR M J (.slice (some ⟨lb, loff, none⟩) m.l.length lc) (.slice (some ⟨db, doff + (if dc = 1 then 0 else 1 * 6), none⟩) ((d :: ds).length - 1) (dc - 1)) [(db, .cells cells 82 (0, 0))] b1, rfl, finR (drp hz) (by subst hb1; simp [rmC]) (by subst hb1; first | rfl | simp only [List.set_set]), by rw [hx3, rxT_yes hdone happ], fun _ => by rw [hx3, rxT_yes hdone happ]; exact ⟨_, _, rfl, by subst hb1; exact DR.tl hdc hdr⟩⟩)
        · refine .q (.move rfl) (.skip (.skip (.skip (.skip (.skip (.skip (.q (.pickF rfl rfl) (.nil (.code ?_)))))))))
          refine .ff (.skip (.code ?_))
          refine .seq (.seq (.draw mix (by kernel_rfl) (fun _ h => h.drew) (.q (.fld f82_2 rfl) (.q (.ldO o3 0 rfl rfl rfl) (.ltS rfl rfl (fun h41 => ?_) (fun h41 => ?_))))))
          · refine .q (.move rfl) (.skip (.skip (.skip (.skip (.skip (.skip (.skip (.skip (.q (.pickT rfl rfl) (.nil (.code ?_)))))))))))
            refine .tt (.seq (.reg (.q (.assign rfl) (.nil (.code ?_)))))
            refine .ret (.thR (.ret1 Try.results34 rfl fun w1 hz => ⟨_, _, rfl, hz, by rw [rExamine_2 (by omega) (by omega) (by omega)], fun h => by rw [rExamine_2 (by omega) (by omega) (by omega)] at h; simp only at h; omega⟩))
          · refine .q (.move rfl) (.q (.fld f82_2 rfl) (.q (.ldO o3 0 rfl rfl rfl) (.q (.move rfl) (.q (.nilP rfl) (.q (.fld f85_0 rfl) (.q (.ldO o30 1 rfl rfl rfl) (.q (.lenS s30.t rfl) (.geS rfl rfl (fun h50 => ?_) (fun h50 => ?_)))))))))
            · refine .q (.pickF rfl rfl) (.nil (.code ?_))
              refine .tt (.seq (.reg (.q (.assign rfl) (.nil (.code ?_)))))
              refine .ret (.thR (.ret1 Try.results34 rfl fun w1 hz => ⟨_, _, rfl, hz, by rw [rExamine_2 (by omega) (by omega) (by omega)], fun h => by rw [rExamine_2 (by omega) (by omega) (by omega)] at h; simp only at h; omega⟩))
            · have ht0 : 0 ≤ e.t := h41
              have hx3 : rExamine m e = rxT m e := rExamine_3 (by omega) (by omega) (by omega)
              refine .q (.pickF rfl rfl) (.nil (.code ?_))
              refine .ff (.skip (.code ?_))
              refine .seq (.block (.lp (fun s : Rm × Value × List Blk => [(0, .pointer (some ⟨M, 0, none⟩)), (3, .pointer (some ⟨b3, 0, none⟩)), (4, .int .i64 0), (5, .int .i64 (phaseOf e.k))]) (fun s => (b3, .cells (encRE e).toArray 82 (0, 0)) :: BR M J (.slice lA m.l.length lc) s.2.1 s.2.2 s.1) (fun s => RmI s.1 K ∧ DR s.2.1 s.1.need s.2.2 ∧ rAdvance m e.s (phaseOf e.k) = rAdvance s.1 e.s (phaseOf e.k) ∧ s.1.slot ≤ e.s ∧ (s.1.slot = e.s → s.1.phase ≤ phaseOf e.k) ∧ s.1.l = m.l) (fun s => rAdvM s.1 e.s) (m, nv, Ln) ⟨rfl, rfl, rfl, rfl, trivial⟩ (fun _ h => h) ⟨hI, hD, rfl, (by omega : m.slot ≤ e.s), (fun _ => by omega : m.slot = e.s → m.phase ≤ phaseOf e.k), rfl⟩ fun ⟨m1, nv1, Ln1⟩ hq => ?_))
              obtain ⟨hq1, hq2, hq3, hq4, hq5, hq6⟩ := hq
              simp only at hq1 hq2 hq3 hq4 hq5 hq6
              obtain ⟨dA, dc, rfl, hdc, hdr0⟩ := id hq2
              obtain ⟨p1, p2, p3, p4⟩ := And.intro hq1.p0 (And.intro hq1.p1 (And.intro hq1.s0 hq1.s1))
              have hk0 := hq1.k0
              have hk1 := hq1.k1
              show WC _ _ _ _ (Z w0 w _ ((b3, .cells (encRE e).toArray 82 (0, 0)) :: BR M J (.slice lA m.l.length lc) (.slice dA m1.need.length dc) Ln1 m1)) _
              refine .seq (.seq (.draw mix (by kernel_rfl) (fun _ h => h.drew) (.q (.move rfl) (.q (.nilP rfl) (.q (.fld f85_3 rfl) (.q (.ldO o3 1 rfl rfl rfl) (.q (.fld f82_0 rfl) (.q (.ldO o3 0 rfl rfl rfl) (.ltS rfl rfl (fun h58 => ?_) (fun h58 => ?_))))))))))
              · refine .q (.move rfl) (.skip (.skip (.skip (.skip (.skip (.skip (.q (.pickT rfl rfl) (.nil (.code ?_)))))))))
                refine .tt (.skip (.code ?_))
                refine .block (.seq (.seq (.reg (.q (.move rfl) (.q (.nilP rfl) (.q (.fld f85_5 rfl) (.q (.ldO o32 1 rfl rfl rfl) (.q (.lenS s32.t rfl) (.gtS rfl rfl (fun h72 => ?_) (fun h72 => ?_))))))))))
                · refine .nil (.code ?_)
                  refine .tt (.seq (.reg (.q (.move rfl) (.q (.nilP rfl) (.q (.fld f85_4 rfl) (.q (.ldO o3 1 rfl rfl rfl) (.q (.call fn35 rfl (fun w hz => rrule_calls w m1.phase (by omega) (by omega))) (.q (.assign rfl) (.nil (.code ?_))))))))))
                  refine .ret (.thR (.inbR (.thR (.inbR (.thR (.ret1 Try.results34 rfl fun w1 hz => ⟨_, _, rfl, hz, by rw [hx3, rxT_due (hq3.trans (rAdvance_due hq1 f5 hq4 (by omega) (fun e => by rw [e] at h72; simp at h72))) (by omega)], fun h => by rw [hx3, rxT_due (hq3.trans (rAdvance_due hq1 f5 hq4 (by omega) (fun e => by rw [e] at h72; simp at h72))) (by omega)] at h; simp only at h; omega⟩))))))
                · have hnil : m1.need = [] := List.eq_nil_of_length_eq_zero (by omega)
                  obtain ⟨n1, n2⟩ := rNext_at hq1
                  have hst : (rNext m1).slot ≤ e.s ∧ ((rNext m1).slot = e.s → (rNext m1).phase ≤ phaseOf e.k) := by
                    by_cases h5' : m1.phase < 5
                    · obtain ⟨e1, e2⟩ := n1 h5'
                      omega
                    · obtain ⟨e1, e2⟩ := n2 (by omega)
                      omega
                  refine .nil (.code ?_)
                  refine .ff (.skip (.code ?_))
                  refine .reg (.q (.move rfl) (.callM (Lm := BR M J (.slice lA m.l.length lc) (.slice dA m1.need.length dc) Ln1 m1) (Lr := [(b3, .cells (encRE e).toArray 82 (0, 0))]) fn36 rfl (List.perm_append_singleton _ _).symm (fun w hH => rnext_calls w0 w M J _ _ Ln1 m1 K hH (by rw [hq6]; exact hl) hq1 (by omega)) fun v79 L79 p79 => (?_)))
                  obtain ⟨nv2, Ln2, rfl, hD2⟩ := p79
                  refine .nil (.inbN (.rd (rNext m1, nv2, Ln2) ⟨rfl, rfl, rfl, rfl, trivial⟩ (fun _ h => zperm (List.perm_append_singleton _ _) h) ⟨rNext_I hq1 (by omega), hD2, (by rw [hq3, rAdvance_step hq1 f5 hq4 (by omega) hnil] : rAdvance m e.s (phaseOf e.k) = rAdvance (rNext m1) e.s (phaseOf e.k)), hst.1, hst.2, (rNext_l m1).trans hq6⟩ (by show rAdvM (rNext m1) e.s < rAdvM m1 e.s; rw [rAdvM_next hq1 f5 hq4 (by omega)]; omega)))
              · refine .q (.move rfl) (.q (.move rfl) (.q (.nilP rfl) (.q (.fld f85_4 rfl) (.q (.ldO o3 1 rfl rfl rfl) (.q (.move rfl) (.ltS rfl rfl (fun h65 => ?_) (fun h65 => ?_)))))))
                · refine .q (.pickF rfl rfl) (.nil (.code ?_))
                  refine .tt (.skip (.code ?_))
                  refine .block (.seq (.seq (.reg (.q (.move rfl) (.q (.nilP rfl) (.q (.fld f85_5 rfl) (.q (.ldO o32 1 rfl rfl rfl) (.q (.lenS s32.t rfl) (.gtS rfl rfl (fun h72 => ?_) (fun h72 => ?_))))))))))
                  · refine .nil (.code ?_)
                    refine .tt (.seq (.reg (.q (.move rfl) (.q (.nilP rfl) (.q (.fld f85_4 rfl) (.q (.ldO o3 1 rfl rfl rfl) (.q (.call fn35 rfl (fun w hz => rrule_calls w m1.phase (by omega) (by omega))) (.q (.assign rfl) (.nil (.code ?_))))))))))
                    refine .ret (.thR (.inbR (.thR (.inbR (.thR (.ret1 Try.results34 rfl fun w1 hz => ⟨_, _, rfl, hz, by rw [hx3, rxT_due (hq3.trans (rAdvance_due hq1 f5 hq4 (by omega) (fun e => by rw [e] at h72; simp at h72))) (by omega)], fun h => by rw [hx3, rxT_due (hq3.trans (rAdvance_due hq1 f5 hq4 (by omega) (fun e => by rw [e] at h72; simp at h72))) (by omega)] at h; simp only at h; omega⟩))))))
                  · have hnil : m1.need = [] := List.eq_nil_of_length_eq_zero (by omega)
                    obtain ⟨n1, n2⟩ := rNext_at hq1
                    have hst : (rNext m1).slot ≤ e.s ∧ ((rNext m1).slot = e.s → (rNext m1).phase ≤ phaseOf e.k) := by
                      by_cases h5' : m1.phase < 5
                      · obtain ⟨e1, e2⟩ := n1 h5'
                        omega
                      · obtain ⟨e1, e2⟩ := n2 (by omega)
                        omega
                    refine .nil (.code ?_)
                    refine .ff (.skip (.code ?_))
                    refine .reg (.q (.move rfl) (.callM (Lm := BR M J (.slice lA m.l.length lc) (.slice dA m1.need.length dc) Ln1 m1) (Lr := [(b3, .cells (encRE e).toArray 82 (0, 0))]) fn36 rfl (List.perm_append_singleton _ _).symm (fun w hH => rnext_calls w0 w M J _ _ Ln1 m1 K hH (by rw [hq6]; exact hl) hq1 (by omega)) fun v79 L79 p79 => (?_)))
                    obtain ⟨nv2, Ln2, rfl, hD2⟩ := p79
                    refine .nil (.inbN (.rd (rNext m1, nv2, Ln2) ⟨rfl, rfl, rfl, rfl, trivial⟩ (fun _ h => zperm (List.perm_append_singleton _ _) h) ⟨rNext_I hq1 (by omega), hD2, (by rw [hq3, rAdvance_step hq1 f5 hq4 (by omega) hnil] : rAdvance m e.s (phaseOf e.k) = rAdvance (rNext m1) e.s (phaseOf e.k)), hst.1, hst.2, (rNext_l m1).trans hq6⟩ (by show rAdvM (rNext m1) e.s < rAdvM m1 e.s; rw [rAdvM_next hq1 f5 hq4 (by omega)]; omega)))
                · have hdn : ¬ (m1.slot < e.s ∨ m1.phase < phaseOf e.k) := by omega
                  have hdone : rAdvance m e.s (phaseOf e.k) = (m1, 0) := hq3.trans (rAdvance_done hdn)
                  have hes : m1.slot = e.s := by omega
                  have hep : m1.phase = phaseOf e.k := by omega
                  have hll : m1.l.length = m.l.length := by rw [hq6]
                  have hij : e.t.toNat < m1.js.length := by have := hq1.nj; omega
                  have hil : e.t.toNat < m.l.length := by omega
                  have hjs := List.getElem?_eq_getElem hij
                  obtain ⟨b1', b2', b3', b4', b5', b6', b7', b8', b9', b10'⟩ := hq1.job _ _ hjs
                  have htk := okT_bd (hI.tk hil)
                  obtain ⟨k1, k2, k3⟩ := htk
                  obtain ⟨lb, loff, lc2, hle, hlc⟩ := Rd.at hl hil
                  cases hle
                  have hper : rPer m1 e.t.toNat = m.l[e.t.toNat].p := by unfold rPer; rw [hq6, List.getElem?_eq_getElem hil]; rfl
                  refine .q (.pickF rfl rfl) (.nil (.code ?_))
                  refine .ff (.exit (.thE (.thE (.inbX (.code ?_)))))
                  refine .seq (.draw mix (by kernel_rfl) (fun _ h => h.drew) (.q (.move rfl) (.q (.nilP rfl) (.q (.fld f85_2 rfl) (.q (.ldO o83 1 rfl rfl rfl) (.q (.fld f82_2 rfl) (.q (.ldO (v := .int .i64 ((e.t.toNat : Nat) : Int)) o3 0 rfl rfl (by rw [Int.toNat_of_nonneg ht0]; rfl)) (.q (.ix s83 rfl rfl (by omega)) (.q (.assign rfl) (.nil (.code ?_)))))))))))
                  refine .seq (.seq (.reg (.q (.move rfl) (.nil (.code ?_)))))
                  refine .block (.seq (.reg (.eqS rfl rfl (fun h138 => ?_) (fun h138 => ?_))))
                  · have hp2 := h138
                    refine .q (.assign rfl) (.nil (.code ?_))
                    refine .tt (.seq (.seq (.draw mix (by kernel_rfl) (fun _ h => h.drew) (.q (.fld f82_2 rfl) (.q (.ldO o3 0 rfl rfl rfl) (.q (.move rfl) (.q (.nilP rfl) (.q (.fld f85_6 rfl) (.q (.ldO o3 1 rfl rfl rfl) (.leS rfl rfl (fun h145 => ?_) (fun h145 => ?_)))))))))))
                    · have happ : rApply m1 e = none := rApply_2n hjs hp2 (.inl h145)
                      refine .q (.move rfl) (.skip (.skip (.skip (.skip (.q (.pickT rfl rfl) (.q (.move rfl) (.skip (.skip (.skip (.skip (.skip (.skip (.skip (.skip (.skip (.skip (.skip (.skip (.skip (.skip (.skip (.skip (.skip (.skip (.skip (.skip (.skip (.skip (.skip (.skip (.q (.pickT rfl rfl) (.q (.move rfl) (.skip (.skip (.skip (.skip (.skip (.skip (.skip (.q (.pickT rfl rfl) (.q (.move rfl) (.skip (.skip (.skip (.q (.pickT rfl rfl) (.q (.move rfl) (.skip (.skip (.skip (.q (.pickT rfl rfl) (.nil (.code ?_))))))))))))))))))))))))))))))))))))))))))))))))))))
                      refine .tt (.seq (.reg (.q (.assign rfl) (.nil (.code ?_)))))
                      refine .ret (.thR (.inbR (.thR (.ret1 Try.results34 rfl fun w1 hz => ⟨_, _, rfl, hz, by rw [hx3, rxT_no hdone happ]; show _ = Value.int .i64 (phaseOf e.k + 2); rw [hp2]; rfl, fun h => by rw [hx3, rxT_no hdone happ] at h; simp only at h; omega⟩))))
                    · refine .q (.move rfl) (.q (.move rfl) (.q (.nilP rfl) (.q (.fld f119_5 rfl) (?_))))
                      rcases hact : m1.js[e.t.toNat].act with _ | _
                      · refine .q (.ldO (v := .bool false) o4 2 rfl rfl ((jget hij (q := 5) (by omega)).trans (show some (Value.bool m1.js[e.t.toNat].act) = some (.bool false) by rw [hact]))) (.q (.pickF rfl rfl) (.q (.move rfl) (.q (.move rfl) (.q (.nilP rfl) (.q (.fld f119_0 rfl) (.q (.ldO (v := .int .i64 m1.js[e.t.toNat].cnt) o3 2 rfl rfl (jget hij (q := 0) (by omega))) (.gtS rfl rfl (fun h157 => ?_) (fun h157 => ?_))))))))
                        · refine .q (.move rfl) (.q (.fld f82_0 rfl) (.q (.ldO o3 0 rfl rfl rfl) (.q (.move rfl) (.q (.nilP rfl) (.q (.fld f119_1 rfl) (.q (.ldO (v := .int .i64 m1.js[e.t.toNat].rel) o3 2 rfl rfl (jget hij (q := 1) (by omega))) (.q (.sub rfl rfl (IntWalk.i64_in _ (by omega))) (.q (.move rfl) (.q (.nilP rfl) (.q (.fld f85_0 rfl) (.q (.ldO o30 1 rfl rfl rfl) (.q (.fld f82_2 rfl) (.q (.ldO (v := .int .i64 ((e.t.toNat : Nat) : Int)) o3 0 rfl rfl (by rw [Int.toNat_of_nonneg ht0]; rfl)) (.q (.ix s30 rfl rfl (by omega)) (.q (.fld f87_2 rfl) (.q (.ldW o3 rfl (hlc 2 (by omega))) (.ltS rfl rfl (fun h175 => ?_) (fun h175 => ?_))))))))))))))))))
                          · have happ : rApply m1 e = none := rApply_2n hjs hp2 (.inr (.inr (.inl (by rw [hper]; omega))))
                            refine .q (.pickT rfl rfl) (.q (.pickF rfl rfl) (.q (.move rfl) (.skip (.skip (.skip (.skip (.skip (.skip (.skip (.q (.pickT rfl rfl) (.q (.move rfl) (.skip (.skip (.skip (.q (.pickT rfl rfl) (.q (.move rfl) (.skip (.skip (.skip (.q (.pickT rfl rfl) (.nil (.code ?_))))))))))))))))))))))
                            refine .tt (.seq (.reg (.q (.assign rfl) (.nil (.code ?_)))))
                            refine .ret (.thR (.inbR (.thR (.ret1 Try.results34 rfl fun w1 hz => ⟨_, _, rfl, hz, by rw [hx3, rxT_no hdone happ]; show _ = Value.int .i64 (phaseOf e.k + 2); rw [hp2]; rfl, fun h => by rw [hx3, rxT_no hdone happ] at h; simp only at h; omega⟩))))
                          · refine .q (.pickT rfl rfl) (.q (.pickF rfl rfl) (.q (.move rfl) (.q (.fld f82_3 rfl) (.q (.ldO o3 0 rfl rfl rfl) (.q (.move rfl) (.q (.nilP rfl) (.q (.fld f119_0 rfl) (.q (.ldO (v := .int .i64 m1.js[e.t.toNat].cnt) o3 2 rfl rfl (jget hij (q := 0) (by omega))) (.neS rfl rfl (fun h185 => ?_) (fun h185 => ?_))))))))))
                            · have happ : rApply m1 e = none := rApply_2n hjs hp2 (.inr (.inr (.inr (.inl h185))))
                              refine .q (.pickF rfl rfl) (.q (.move rfl) (.skip (.skip (.skip (.q (.pickT rfl rfl) (.q (.move rfl) (.skip (.skip (.skip (.q (.pickT rfl rfl) (.nil (.code ?_))))))))))))
                              refine .tt (.seq (.reg (.q (.assign rfl) (.nil (.code ?_)))))
                              refine .ret (.thR (.inbR (.thR (.ret1 Try.results34 rfl fun w1 hz => ⟨_, _, rfl, hz, by rw [hx3, rxT_no hdone happ]; show _ = Value.int .i64 (phaseOf e.k + 2); rw [hp2]; rfl, fun h => by rw [hx3, rxT_no hdone happ] at h; simp only at h; omega⟩))))
                            · refine .q (.pickF rfl rfl) (.q (.move rfl) (.q (.fld f82_1 rfl) (.q (.ldO o3 0 rfl rfl rfl) (.neS rfl rfl (fun h190 => ?_) (fun h190 => ?_)))))
                              · have happ : rApply m1 e = none := rApply_2n hjs hp2 (.inr (.inr (.inr (.inr (.inl h190)))))
                                refine .q (.pickF rfl rfl) (.q (.move rfl) (.skip (.skip (.skip (.q (.pickT rfl rfl) (.nil (.code ?_)))))))
                                refine .tt (.seq (.reg (.q (.assign rfl) (.nil (.code ?_)))))
                                refine .ret (.thR (.inbR (.thR (.ret1 Try.results34 rfl fun w1 hz => ⟨_, _, rfl, hz, by rw [hx3, rxT_no hdone happ]; show _ = Value.int .i64 (phaseOf e.k + 2); rw [hp2]; rfl, fun h => by rw [hx3, rxT_no hdone happ] at h; simp only at h; omega⟩))))
                              · refine .q (.pickF rfl rfl) (.q (.move rfl) (.q (.fld f82_5 rfl) (.q (.ldO o3 0 rfl rfl rfl) (.neS rfl rfl (fun h195 => ?_) (fun h195 => ?_)))))
                                · have happ : rApply m1 e = none := rApply_2n hjs hp2 (.inr (.inr (.inr (.inr (.inr h195)))))
                                  refine .q (.pickF rfl rfl) (.nil (.code ?_))
                                  refine .tt (.seq (.reg (.q (.assign rfl) (.nil (.code ?_)))))
                                  refine .ret (.thR (.inbR (.thR (.ret1 Try.results34 rfl fun w1 hz => ⟨_, _, rfl, hz, by rw [hx3, rxT_no hdone happ]; show _ = Value.int .i64 (phaseOf e.k + 2); rw [hp2]; rfl, fun h => by rw [hx3, rxT_no hdone happ] at h; simp only at h; omega⟩))))
                                · obtain ⟨b1, hb1⟩ : ∃ x : Rm, x = { m1 with last := e.t, js := m1.js.set e.t.toNat ⟨m1.js[e.t.toNat].cnt + 1, e.s, 0, 0, 0, true⟩ } := ⟨_, rfl⟩
                                  have happ : rApply m1 e = some b1 := by rw [hb1]; exact rApply_2y hjs hp2 hact (by rw [hper]; omega)
                                  refine .q (.pickF rfl rfl) (.nil (.code ?_))
                                  refine .ff (.skip (.code ?_))
                                  refine .seq (.reg (.q (.move rfl) (.q (.fld f82_2 rfl) (.q (.ldO o3 0 rfl rfl rfl) (.q (.nilP rfl) (.q (.fld f85_6 rfl) (.st o3 1 rfl rfl rfl rfl rfl (.nil (.code ?_)))))))))
                                  refine .drawT mix 9 (by kernel_rfl) (fun _ h => h.drew) (.q (.move rfl) (.q (.move rfl) (.q (.nilP rfl) (.q (.fld f119_0 rfl) (.q (.ldO (v := .int .i64 m1.js[e.t.toNat].cnt) o3 2 rfl rfl (jget hij (q := 0) (by omega))) (.q (.add rfl rfl (IntWalk.i64_in _ (by omega))) (.q (.fld f82_0 rfl) (.q (.ldO o3 0 rfl rfl rfl) (.q (.build st119 rfl rfl) (.tail (.q (.nilP rfl) (.stR (enc := encRJ) (u := ⟨m1.js[e.t.toNat].cnt + 1, e.s, 0, 0, 0, true⟩) a119 encRJ_len 2 rfl rfl rfl rfl hij (.nil (.inbN (.code ?_)))))))))))))))
                                  refine .seq (.reg (.q (.assign rfl) (.nil (.code ?_))))
                                  refine .ret (.ret1 Try.results34 rfl fun w1 hz => ⟨_, BR M J (.slice (some ⟨lb, loff, none⟩) m.l.length lc) (.slice dA m1.need.length dc) Ln1 b1, rfl, finR (drp hz) (by subst hb1; simp [rmC]) (by subst hb1; first | rfl | simp only [List.set_set]), by rw [hx3, rxT_yes hdone happ], fun _ => by rw [hx3, rxT_yes hdone happ]; exact ⟨_, _, rfl, by subst hb1; exact hq2⟩⟩)
                        · refine .q (.move rfl) (.skip (.skip (.skip (.skip (.skip (.skip (.skip (.skip (.skip (.skip (.skip (.skip (.skip (.skip (.skip (.skip (.skip (.q (.pickF rfl rfl) (.q (.pickF rfl rfl) (.q (.move rfl) (.q (.fld f82_3 rfl) (.q (.ldO o3 0 rfl rfl rfl) (.q (.move rfl) (.q (.nilP rfl) (.q (.fld f119_0 rfl) (.q (.ldO (v := .int .i64 m1.js[e.t.toNat].cnt) o3 2 rfl rfl (jget hij (q := 0) (by omega))) (.neS rfl rfl (fun h185 => ?_) (fun h185 => ?_))))))))))))))))))))))))))))
                          · have happ : rApply m1 e = none := rApply_2n hjs hp2 (.inr (.inr (.inr (.inl h185))))
                            refine .q (.pickF rfl rfl) (.q (.move rfl) (.skip (.skip (.skip (.q (.pickT rfl rfl) (.q (.move rfl) (.skip (.skip (.skip (.q (.pickT rfl rfl) (.nil (.code ?_))))))))))))
                            refine .tt (.seq (.reg (.q (.assign rfl) (.nil (.code ?_)))))
                            refine .ret (.thR (.inbR (.thR (.ret1 Try.results34 rfl fun w1 hz => ⟨_, _, rfl, hz, by rw [hx3, rxT_no hdone happ]; show _ = Value.int .i64 (phaseOf e.k + 2); rw [hp2]; rfl, fun h => by rw [hx3, rxT_no hdone happ] at h; simp only at h; omega⟩))))
                          · refine .q (.pickF rfl rfl) (.q (.move rfl) (.q (.fld f82_1 rfl) (.q (.ldO o3 0 rfl rfl rfl) (.neS rfl rfl (fun h190 => ?_) (fun h190 => ?_)))))
                            · have happ : rApply m1 e = none := rApply_2n hjs hp2 (.inr (.inr (.inr (.inr (.inl h190)))))
                              refine .q (.pickF rfl rfl) (.q (.move rfl) (.skip (.skip (.skip (.q (.pickT rfl rfl) (.nil (.code ?_)))))))
                              refine .tt (.seq (.reg (.q (.assign rfl) (.nil (.code ?_)))))
                              refine .ret (.thR (.inbR (.thR (.ret1 Try.results34 rfl fun w1 hz => ⟨_, _, rfl, hz, by rw [hx3, rxT_no hdone happ]; show _ = Value.int .i64 (phaseOf e.k + 2); rw [hp2]; rfl, fun h => by rw [hx3, rxT_no hdone happ] at h; simp only at h; omega⟩))))
                            · refine .q (.pickF rfl rfl) (.q (.move rfl) (.q (.fld f82_5 rfl) (.q (.ldO o3 0 rfl rfl rfl) (.neS rfl rfl (fun h195 => ?_) (fun h195 => ?_)))))
                              · have happ : rApply m1 e = none := rApply_2n hjs hp2 (.inr (.inr (.inr (.inr (.inr h195)))))
                                refine .q (.pickF rfl rfl) (.nil (.code ?_))
                                refine .tt (.seq (.reg (.q (.assign rfl) (.nil (.code ?_)))))
                                refine .ret (.thR (.inbR (.thR (.ret1 Try.results34 rfl fun w1 hz => ⟨_, _, rfl, hz, by rw [hx3, rxT_no hdone happ]; show _ = Value.int .i64 (phaseOf e.k + 2); rw [hp2]; rfl, fun h => by rw [hx3, rxT_no hdone happ] at h; simp only at h; omega⟩))))
                              · obtain ⟨b1, hb1⟩ : ∃ x : Rm, x = { m1 with last := e.t, js := m1.js.set e.t.toNat ⟨m1.js[e.t.toNat].cnt + 1, e.s, 0, 0, 0, true⟩ } := ⟨_, rfl⟩
                                have happ : rApply m1 e = some b1 := by rw [hb1]; exact rApply_2y hjs hp2 hact (by rw [hper]; omega)
                                refine .q (.pickF rfl rfl) (.nil (.code ?_))
                                refine .ff (.skip (.code ?_))
                                refine .seq (.reg (.q (.move rfl) (.q (.fld f82_2 rfl) (.q (.ldO o3 0 rfl rfl rfl) (.q (.nilP rfl) (.q (.fld f85_6 rfl) (.st o3 1 rfl rfl rfl rfl rfl (.nil (.code ?_)))))))))
                                refine .drawT mix 9 (by kernel_rfl) (fun _ h => h.drew) (.q (.move rfl) (.q (.move rfl) (.q (.nilP rfl) (.q (.fld f119_0 rfl) (.q (.ldO (v := .int .i64 m1.js[e.t.toNat].cnt) o3 2 rfl rfl (jget hij (q := 0) (by omega))) (.q (.add rfl rfl (IntWalk.i64_in _ (by omega))) (.q (.fld f82_0 rfl) (.q (.ldO o3 0 rfl rfl rfl) (.q (.build st119 rfl rfl) (.tail (.q (.nilP rfl) (.stR (enc := encRJ) (u := ⟨m1.js[e.t.toNat].cnt + 1, e.s, 0, 0, 0, true⟩) a119 encRJ_len 2 rfl rfl rfl rfl hij (.nil (.inbN (.code ?_)))))))))))))))
                                refine .seq (.reg (.q (.assign rfl) (.nil (.code ?_))))
                                refine .ret (.ret1 Try.results34 rfl fun w1 hz => ⟨_, BR M J (.slice (some ⟨lb, loff, none⟩) m.l.length lc) (.slice dA m1.need.length dc) Ln1 b1, rfl, finR (drp hz) (by subst hb1; simp [rmC]) (by subst hb1; first | rfl | simp only [List.set_set]), by rw [hx3, rxT_yes hdone happ], fun _ => by rw [hx3, rxT_yes hdone happ]; exact ⟨_, _, rfl, by subst hb1; exact hq2⟩⟩)
                      · have happ : rApply m1 e = none := rApply_2n hjs hp2 (.inr (.inl hact))
                        refine .q (.ldO (v := .bool true) o4 2 rfl rfl ((jget hij (q := 5) (by omega)).trans (show some (Value.bool m1.js[e.t.toNat].act) = some (.bool true) by rw [hact]))) (.q (.pickF rfl rfl) (.q (.move rfl) (.skip (.skip (.skip (.skip (.skip (.skip (.skip (.skip (.skip (.skip (.skip (.skip (.skip (.skip (.skip (.skip (.skip (.skip (.skip (.skip (.skip (.skip (.skip (.skip (.q (.pickT rfl rfl) (.q (.move rfl) (.skip (.skip (.skip (.skip (.skip (.skip (.skip (.q (.pickT rfl rfl) (.q (.move rfl) (.skip (.skip (.skip (.q (.pickT rfl rfl) (.q (.move rfl) (.skip (.skip (.skip (.q (.pickT rfl rfl) (.nil (.code ?_))))))))))))))))))))))))))))))))))))))))))))))))
                        refine .tt (.seq (.reg (.q (.assign rfl) (.nil (.code ?_)))))
                        refine .ret (.thR (.inbR (.thR (.ret1 Try.results34 rfl fun w1 hz => ⟨_, _, rfl, hz, by rw [hx3, rxT_no hdone happ]; show _ = Value.int .i64 (phaseOf e.k + 2); rw [hp2]; rfl, fun h => by rw [hx3, rxT_no hdone happ] at h; simp only at h; omega⟩))))
                  · refine .q (.assign rfl) (.nil (.code ?_))
                    refine .ff (.seq (.reg (.eqS rfl rfl (fun h213 => ?_) (fun h213 => ?_))))
                    · have hp4 := h213
                      refine .q (.assign rfl) (.nil (.code ?_))
                      refine .tt (.seq (.seq (.draw mix (by kernel_rfl) (fun _ h => h.drew) (.q (.move rfl) (.q (.nilP rfl) (.q (.fld f119_5 rfl) (?_)))))))
                      rcases hact : m1.js[e.t.toNat].act with _ | _
                      · have happ : rApply m1 e = none := rApply_4n hjs hp4 (.inl hact)
                        refine .q (.ldO (v := .bool false) o4 2 rfl rfl ((jget hij (q := 5) (by omega)).trans (show some (Value.bool m1.js[e.t.toNat].act) = some (.bool false) by rw [hact]))) (.q (.notB rfl) (.q (.move rfl) (.skip (.skip (.skip (.skip (.skip (.skip (.skip (.skip (.q (.pickT rfl rfl) (.q (.move rfl) (.skip (.skip (.skip (.skip (.skip (.q (.pickT rfl rfl) (.q (.move rfl) (.skip (.skip (.skip (.skip (.skip (.skip (.skip (.q (.pickT rfl rfl) (.q (.move rfl) (.skip (.skip (.skip (.skip (.skip (.skip (.skip (.q (.pickT rfl rfl) (.q (.move rfl) (.skip (.skip (.skip (.skip (.skip (.skip (.skip (.skip (.q (.pickT rfl rfl) (.nil (.code ?_))))))))))))))))))))))))))))))))))))))))))))))))
                        refine .tt (.seq (.reg (.q (.assign rfl) (.nil (.code ?_)))))
                        refine .ret (.thR (.inbR (.thR (.ret1 Try.results34 rfl fun w1 hz => ⟨_, _, rfl, hz, by rw [hx3, rxT_no hdone happ]; show _ = Value.int .i64 (phaseOf e.k + 2); rw [hp4]; rfl, fun h => by rw [hx3, rxT_no hdone happ] at h; simp only at h; omega⟩))))
                      · refine .q (.ldO (v := .bool true) o4 2 rfl rfl ((jget hij (q := 5) (by omega)).trans (show some (Value.bool m1.js[e.t.toNat].act) = some (.bool true) by rw [hact]))) (.q (.notB rfl) (.q (.move rfl) (.q (.fld f82_3 rfl) (.q (.ldO o3 0 rfl rfl rfl) (.q (.move rfl) (.q (.nilP rfl) (.q (.fld f119_0 rfl) (.q (.ldO (v := .int .i64 m1.js[e.t.toNat].cnt) o3 2 rfl rfl (jget hij (q := 0) (by omega))) (.q (.sub rfl rfl (IntWalk.i64_in _ (by omega))) (.neS rfl rfl (fun h227 => ?_) (fun h227 => ?_)))))))))))
                        · have happ : rApply m1 e = none := rApply_4n hjs hp4 (.inr (.inl h227))
                          refine .q (.pickF rfl rfl) (.q (.move rfl) (.skip (.skip (.skip (.skip (.skip (.q (.pickT rfl rfl) (.q (.move rfl) (.skip (.skip (.skip (.skip (.skip (.skip (.skip (.q (.pickT rfl rfl) (.q (.move rfl) (.skip (.skip (.skip (.skip (.skip (.skip (.skip (.q (.pickT rfl rfl) (.q (.move rfl) (.skip (.skip (.skip (.skip (.skip (.skip (.skip (.skip (.q (.pickT rfl rfl) (.nil (.code ?_)))))))))))))))))))))))))))))))))))))
                          refine .tt (.seq (.reg (.q (.assign rfl) (.nil (.code ?_)))))
                          refine .ret (.thR (.inbR (.thR (.ret1 Try.results34 rfl fun w1 hz => ⟨_, _, rfl, hz, by rw [hx3, rxT_no hdone happ]; show _ = Value.int .i64 (phaseOf e.k + 2); rw [hp4]; rfl, fun h => by rw [hx3, rxT_no hdone happ] at h; simp only at h; omega⟩))))
                        · refine .q (.pickF rfl rfl) (.q (.move rfl) (.q (.move rfl) (.q (.nilP rfl) (.q (.fld f119_2 rfl) (.q (.ldO (v := .int .i64 m1.js[e.t.toNat].runs) o3 2 rfl rfl (jget hij (q := 2) (by omega))) (.eqS rfl rfl (fun h234 => ?_) (fun h234 => ?_)))))))
                          · have happ : rApply m1 e = none := rApply_4n hjs hp4 (.inr (.inr (.inl h234)))
                            refine .q (.pickF rfl rfl) (.q (.move rfl) (.skip (.skip (.skip (.skip (.skip (.skip (.skip (.q (.pickT rfl rfl) (.q (.move rfl) (.skip (.skip (.skip (.skip (.skip (.skip (.skip (.q (.pickT rfl rfl) (.q (.move rfl) (.skip (.skip (.skip (.skip (.skip (.skip (.skip (.skip (.q (.pickT rfl rfl) (.nil (.code ?_))))))))))))))))))))))))))))))
                            refine .tt (.seq (.reg (.q (.assign rfl) (.nil (.code ?_)))))
                            refine .ret (.thR (.inbR (.thR (.ret1 Try.results34 rfl fun w1 hz => ⟨_, _, rfl, hz, by rw [hx3, rxT_no hdone happ]; show _ = Value.int .i64 (phaseOf e.k + 2); rw [hp4]; rfl, fun h => by rw [hx3, rxT_no hdone happ] at h; simp only at h; omega⟩))))
                          · refine .q (.pickF rfl rfl) (.q (.move rfl) (.q (.move rfl) (.q (.nilP rfl) (.q (.fld f119_3 rfl) (.q (.ldO (v := .int .i64 m1.js[e.t.toNat].slot) o3 2 rfl rfl (jget hij (q := 3) (by omega))) (.q (.fld f82_0 rfl) (.q (.ldO o3 0 rfl rfl rfl) (.neS rfl rfl (fun h243 => ?_) (fun h243 => ?_)))))))))
                            · have happ : rApply m1 e = none := rApply_4n hjs hp4 (.inr (.inr (.inr (.inl h243))))
                              refine .q (.pickF rfl rfl) (.q (.move rfl) (.skip (.skip (.skip (.skip (.skip (.skip (.skip (.q (.pickT rfl rfl) (.q (.move rfl) (.skip (.skip (.skip (.skip (.skip (.skip (.skip (.skip (.q (.pickT rfl rfl) (.nil (.code ?_)))))))))))))))))))))
                              refine .tt (.seq (.reg (.q (.assign rfl) (.nil (.code ?_)))))
                              refine .ret (.thR (.inbR (.thR (.ret1 Try.results34 rfl fun w1 hz => ⟨_, _, rfl, hz, by rw [hx3, rxT_no hdone happ]; show _ = Value.int .i64 (phaseOf e.k + 2); rw [hp4]; rfl, fun h => by rw [hx3, rxT_no hdone happ] at h; simp only at h; omega⟩))))
                            · refine .q (.pickF rfl rfl) (.q (.move rfl) (.q (.move rfl) (.q (.nilP rfl) (.q (.fld f119_4 rfl) (.q (.ldO (v := .int .i64 m1.js[e.t.toNat].core) o3 2 rfl rfl (jget hij (q := 4) (by omega))) (.q (.fld f82_1 rfl) (.q (.ldO o3 0 rfl rfl rfl) (.neS rfl rfl (fun h252 => ?_) (fun h252 => ?_)))))))))
                              · have happ : rApply m1 e = none := rApply_4n hjs hp4 (.inr (.inr (.inr (.inr (.inl h252)))))
                                refine .q (.pickF rfl rfl) (.q (.move rfl) (.skip (.skip (.skip (.skip (.skip (.skip (.skip (.skip (.q (.pickT rfl rfl) (.nil (.code ?_))))))))))))
                                refine .tt (.seq (.reg (.q (.assign rfl) (.nil (.code ?_)))))
                                refine .ret (.thR (.inbR (.thR (.ret1 Try.results34 rfl fun w1 hz => ⟨_, _, rfl, hz, by rw [hx3, rxT_no hdone happ]; show _ = Value.int .i64 (phaseOf e.k + 2); rw [hp4]; rfl, fun h => by rw [hx3, rxT_no hdone happ] at h; simp only at h; omega⟩))))
                              · refine .q (.pickF rfl rfl) (.q (.move rfl) (.q (.fld f82_4 rfl) (.q (.ldO o5 0 rfl rfl rfl) (.eqS rfl rfl (fun h257 => ?_) (fun h257 => ?_)))))
                                · refine .q (.move rfl) (.q (.fld f82_5 rfl) (.q (.ldO o3 0 rfl rfl rfl) (.neS rfl rfl (fun h261 => ?_) (fun h261 => ?_))))
                                  · have happ : rApply m1 e = none := rApply_4n hjs hp4 (.inr (.inr (.inr (.inr (.inr ⟨h257, h261⟩)))))
                                    refine .q (.pickT rfl rfl) (.q (.pickF rfl rfl) (.nil (.code ?_)))
                                    refine .tt (.seq (.reg (.q (.assign rfl) (.nil (.code ?_)))))
                                    refine .ret (.thR (.inbR (.thR (.ret1 Try.results34 rfl fun w1 hz => ⟨_, _, rfl, hz, by rw [hx3, rxT_no hdone happ]; show _ = Value.int .i64 (phaseOf e.k + 2); rw [hp4]; rfl, fun h => by rw [hx3, rxT_no hdone happ] at h; simp only at h; omega⟩))))
                                  · obtain ⟨b1, hb1⟩ : ∃ x : Rm, x = { m1 with js := m1.js.set e.t.toNat { m1.js[e.t.toNat] with act := decide (e.k = 7) } } := ⟨_, rfl⟩
                                    have happ : rApply m1 e = some b1 := by rw [hb1]; exact rApply_4y hjs hp4 hact (by omega)
                                    refine .q (.pickT rfl rfl) (.q (.pickF rfl rfl) (.nil (.code ?_)))
                                    refine .ff (.skip (.code ?_))
                                    refine .reg (.q (.move rfl) (.q (.fld f82_4 rfl) (.q (.ldO o5 0 rfl rfl rfl) (.q (.cmp rfl rfl rfl) (.q (.nilP rfl) (.q (.fld f119_5 rfl) (.st o4 2 rfl rfl rfl rfl (jlt hij (by omega)) (?_))))))))
                                    rw [jset (r := { m1.js[e.t.toNat] with act := decide (e.k = 7) }) hij (by omega) rfl]
                                    refine .nil (.inbN (.code ?_))
                                    refine .seq (.reg (.q (.assign rfl) (.nil (.code ?_))))
                                    refine .ret (.ret1 Try.results34 rfl fun w1 hz => ⟨_, BR M J (.slice (some ⟨lb, loff, none⟩) m.l.length lc) (.slice dA m1.need.length dc) Ln1 b1, rfl, finR (drp hz) (by subst hb1; simp [rmC]) (by subst hb1; first | rfl | simp only [List.set_set]), by rw [hx3, rxT_yes hdone happ], fun _ => by rw [hx3, rxT_yes hdone happ]; exact ⟨_, _, rfl, by subst hb1; exact hq2⟩⟩)
                                · obtain ⟨b1, hb1⟩ : ∃ x : Rm, x = { m1 with js := m1.js.set e.t.toNat { m1.js[e.t.toNat] with act := decide (e.k = 7) } } := ⟨_, rfl⟩
                                  have happ : rApply m1 e = some b1 := by rw [hb1]; exact rApply_4y hjs hp4 hact (by omega)
                                  refine .q (.move rfl) (.skip (.skip (.skip (.q (.pickF rfl rfl) (.q (.pickF rfl rfl) (.nil (.code ?_)))))))
                                  refine .ff (.skip (.code ?_))
                                  refine .reg (.q (.move rfl) (.q (.fld f82_4 rfl) (.q (.ldO o5 0 rfl rfl rfl) (.q (.cmp rfl rfl rfl) (.q (.nilP rfl) (.q (.fld f119_5 rfl) (.st o4 2 rfl rfl rfl rfl (jlt hij (by omega)) (?_))))))))
                                  rw [jset (r := { m1.js[e.t.toNat] with act := decide (e.k = 7) }) hij (by omega) rfl]
                                  refine .nil (.inbN (.code ?_))
                                  refine .seq (.reg (.q (.assign rfl) (.nil (.code ?_))))
                                  refine .ret (.ret1 Try.results34 rfl fun w1 hz => ⟨_, BR M J (.slice (some ⟨lb, loff, none⟩) m.l.length lc) (.slice dA m1.need.length dc) Ln1 b1, rfl, finR (drp hz) (by subst hb1; simp [rmC]) (by subst hb1; first | rfl | simp only [List.set_set]), by rw [hx3, rxT_yes hdone happ], fun _ => by rw [hx3, rxT_yes hdone happ]; exact ⟨_, _, rfl, by subst hb1; exact hq2⟩⟩)
                    · have hp2n : phaseOf e.k ≠ 2 := h138
                      have hp4n : phaseOf e.k ≠ 4 := h213
                      refine .q (.assign rfl) (.nil (.code ?_))
                      refine .ff (.seq (.seq (.draw mix (by kernel_rfl) (fun _ h => h.drew) (.q (.move rfl) (.q (.nilP rfl) (.q (.fld f85_5 rfl) (.q (.ldO o32 1 rfl rfl rfl) (?_))))))))
                      rcases hnd : m1.need with _ | ⟨d, ds⟩
                      · have happ : rApply m1 e = none := rApply_n hjs hp2n hp4n hnd
                        refine .q (.lenS s32.t rfl) (.q (.cmp rfl rfl (eqT (by simp))) (.q (.move rfl) (.skip (.skip (.skip (.skip (.skip (.skip (.skip (.skip (.q (.pickT rfl rfl) (.nil (.code ?_)))))))))))))
                        refine .tt (.seq (.reg (.q (.move rfl) (.q (.call fn35 rfl (fun w hz => rrule_calls w (phaseOf e.k) f0 f5)) (.q (.assign rfl) (.nil (.code ?_)))))))
                        refine .ret (.thR (.inbR (.thR (.ret1 Try.results34 rfl fun w1 hz => ⟨_, _, rfl, hz, by rw [hx3, rxT_no hdone happ], fun h => by rw [hx3, rxT_no hdone happ] at h; simp only at h; omega⟩))))
                      · rw [hnd] at hdc hdr0
                        obtain ⟨db, doff, cells, rfl, rfl, hdr⟩ := hdr0.resolve_left (by simp)
                        refine .q (.lenS s32.t rfl) (.q (.cmp rfl rfl (eqF (by simp; omega))) (.q (.move rfl) (.q (.move rfl) (.q (.nilP rfl) (.q (.fld f85_5 rfl) (.q (.ldO o32 1 rfl rfl rfl) (.q (.ix (j := 0) s32 rfl rfl (by simp)) (.q (.ldA a82 (cs := encRE d) rfl rfl (fun w1 hz q hq => by rw [cellA (hz.h.has (db, .cells cells 82 (0, 0)) (by simp [BR]))]; exact hdr 0 (by simp) q hq)) (.q (.ldOA a82 0 rfl rfl rfl rfl) (.qB (.neS eq82 (us := [d.s, d.c, d.t, d.j, d.k, d.v]) (vs := [e.s, e.c, e.t, e.j, e.k, e.v]) rfl rfl rfl rfl (reNe d e)) (fun h102 => ?_) (fun h102 => ?_)))))))))))
                        · have happ : rApply m1 e = none := (rApply_d hjs hp2n hp4n hnd).trans (if_pos (of_decide_eq_true h102))
                          refine .q (.pickF rfl rfl) (.nil (.code ?_))
                          refine .tt (.seq (.reg (.q (.move rfl) (.q (.call fn35 rfl (fun w hz => rrule_calls w (phaseOf e.k) f0 f5)) (.q (.assign rfl) (.nil (.code ?_)))))))
                          refine .ret (.thR (.inbR (.thR (.ret1 Try.results34 rfl fun w1 hz => ⟨_, _, rfl, hz, by rw [hx3, rxT_no hdone happ], fun h => by rw [hx3, rxT_no hdone happ] at h; simp only at h; omega⟩))))
                        · refine .q (.pickF rfl rfl) (.nil (.code ?_))
                          refine .ff (.skip (.code ?_))
                          refine .seq (.reg (.q (.move rfl) (.q (.move rfl) (.q (.nilP rfl) (.q (.fld f85_5 rfl) (.q (.ldO o32 1 rfl rfl rfl) (.q (.slLo (j := 1) s32 rfl rfl (by simp) hdc) (.q (.nilP rfl) (.q (.fld f85_5 rfl) (.st o32 1 rfl rfl rfl rfl rfl (.nil (.code ?_))))))))))))
                          refine .seq (.reg (.q (.move rfl) (.eqS rfl rfl (fun h115 => ?_) (fun h115 => ?_))))
                          · obtain ⟨b1, hb1⟩ : ∃ x : Rm, x = { m1 with need := ds, js := m1.js.set e.t.toNat { m1.js[e.t.toNat] with runs := m1.js[e.t.toNat].runs + 1, slot := e.s, core := e.c } } := ⟨_, rfl⟩
                            have happ : rApply m1 e = some b1 := by rw [hb1]; exact (rApply_d hjs hp2n hp4n hnd).trans ((if_neg (of_decide_eq_false h102)).trans (if_pos h115))
                            refine .nil (.code ?_)
                            refine .tt (.drawS (F := Z w0 w _ [(b3, .cells (encRE e).toArray 82 (0, 0))]) mix [] [] [0, 1, 2, 3, 4, 5, 8, 9, 10, 11] (.one 6 (.one 7 (.one 12 (.one 13 (.one 14 (.one 15 (.one 16 (.one 17 (.one 18 (.one 19 (.one 20 .nil))))))))))) (by kernel_rfl) (fun _ h => h.drew) (fun _ h => h.sublist (.cons_cons _ (List.nil_sublist _))) (.toS (.q (.move rfl) (.q (.move rfl) (.q (.move rfl) (.q (.move rfl) (.q (.nilP rfl) (.q (.fld f119_2 rfl) (.q (.fld f82_0 rfl) (.q (.ldO o3 0 rfl rfl rfl) (.q (.fld f82_1 rfl) (.q (.ldO o3 0 rfl rfl rfl) (.toT (.step rfl (.q (.ldO (v := .int .i64 m1.js[e.t.toNat].runs) o3 2 rfl rfl (jget hij (q := 2) (by omega))) (.nil (.tk (fun _ h => h.sublist (.cons_cons _ (List.nil_sublist _))) (.step rfl (.q (.add rfl rfl (IntWalk.i64_in _ (by omega))) (.nil (.tk (fun _ h => h.sublist (.cons_cons _ (List.nil_sublist _))) (.step rfl (.q (.nilP rfl) (.nil (.tk (fun _ h => h.sublist (.cons_cons _ (List.nil_sublist _))) (.step rfl (.q (.fld f119_2 rfl) (.nil (.tk (fun _ h => h.sublist (.cons_cons _ (List.nil_sublist _))) (.step rfl (.st o3 2 rfl rfl rfl rfl (jlt hij (by omega)) (?_))))))))))))))))))))))))))))))))
                            rw [jset (r := { m1.js[e.t.toNat] with runs := m1.js[e.t.toNat].runs + 1 }) hij (by omega) rfl]
                            refine .nil (.tk (fun _ h => h.sublist (.cons_cons _ (List.nil_sublist _))) (.step rfl (.q (.nilP rfl) (.nil (.tk (fun _ h => h.sublist (.cons_cons _ (List.nil_sublist _))) (.step rfl (.q (.fld f119_3 rfl) (.nil (.tk (fun _ h => h.sublist (.cons_cons _ (List.nil_sublist _))) (.step rfl (.st o3 2 rfl rfl rfl rfl (jlt (by simpa using hij) (by omega)) (?_))))))))))))
                            rw [jset (r := { m1.js[e.t.toNat] with runs := m1.js[e.t.toNat].runs + 1, slot := e.s }) (by simpa using hij) (by omega) (by rw [List.getElem_set_self]; rfl)]
                            refine .nil (.tk (fun _ h => h.sublist (.cons_cons _ (List.nil_sublist _))) (.step rfl (.q (.nilP rfl) (.nil (.tk (fun _ h => h.sublist (.cons_cons _ (List.nil_sublist _))) (.step rfl (.q (.fld f119_4 rfl) (.nil (.tk (fun _ h => h.sublist (.cons_cons _ (List.nil_sublist _))) (.step rfl (.st o3 2 rfl rfl rfl rfl (jlt (by simpa using hij) (by omega)) (?_))))))))))))
                            rw [jset (r := { m1.js[e.t.toNat] with runs := m1.js[e.t.toNat].runs + 1, slot := e.s, core := e.c }) (by simpa using hij) (by omega) (by rw [List.getElem_set_self]; rfl)]
                            refine .nil (.tk (fun _ h => h.sublist (.cons_cons _ (List.nil_sublist _))) (.nil (.inbN (.code ?_))))
                            refine .seq (.reg (.q (.assign rfl) (.nil (.code ?_))))
                            refine .ret (.ret1 Try.results34 rfl fun w1 hz => ⟨_, BR M J (.slice (some ⟨lb, loff, none⟩) m.l.length lc) (.slice (some ⟨db, doff + (if dc = 1 then 0 else 1 * 6), none⟩) ((d :: ds).length - 1) (dc - 1)) [(db, .cells cells 82 (0, 0))] b1, rfl, finR (drp hz) (by subst hb1; simp [rmC]) (by subst hb1; first | rfl | simp only [List.set_set]), by rw [hx3, rxT_yes hdone happ], fun _ => by rw [hx3, rxT_yes hdone happ]; exact ⟨_, _, rfl, by subst hb1; exact DR.tl hdc hdr⟩⟩)
                          · obtain ⟨b1, hb1⟩ : ∃ x : Rm, x = { m1 with need := ds, js := m1.js.set e.t.toNat { m1.js[e.t.toNat] with act := false } } := ⟨_, rfl⟩
                            have happ : rApply m1 e = some b1 := by rw [hb1]; exact (rApply_d hjs hp2n hp4n hnd).trans ((if_neg (of_decide_eq_false h102)).trans (if_neg h115))
                            refine .nil (.code ?_)
                            refine .ff (.reg (.q (.move rfl) (.q (.nilP rfl) (.q (.fld f119_5 rfl) (.st o4 2 rfl rfl rfl rfl (jlt hij (by omega)) (?_))))))
                            rw [jset (r := { m1.js[e.t.toNat] with act := false }) hij (by omega) rfl]
                            refine .nil (.inbN (.code ?_))
                            refine .seq (.reg (.q (.assign rfl) (.nil (.code ?_))))
                            refine .ret (.ret1 Try.results34 rfl fun w1 hz => ⟨_, BR M J (.slice (some ⟨lb, loff, none⟩) m.l.length lc) (.slice (some ⟨db, doff + (if dc = 1 then 0 else 1 * 6), none⟩) ((d :: ds).length - 1) (dc - 1)) [(db, .cells cells 82 (0, 0))] b1, rfl, finR (drp hz) (by subst hb1; simp [rmC]) (by subst hb1; first | rfl | simp only [List.set_set]), by rw [hx3, rxT_yes hdone happ], fun _ => by rw [hx3, rxT_yes hdone happ]; exact ⟨_, _, rfl, by subst hb1; exact DR.tl hdc hdr⟩⟩)

end Go.Proofs.Ytjccenbacjhglaa.R5
