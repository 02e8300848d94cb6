import Derived.Test.YtjccenbacjhglaaProg
import Derived.Test.YtjccenbacjhglaaK
import Derived.Test.YtjccenbacjhglaaM
import Derived.Test.YtjccenbacjhglaaIS
import Derived.Test.YtjccenbacjhglaaM2
import Derived.Test.YtjccenbacjhglaaMS
import Derived.Test.YtjccenbacjhglaaPF
import Derived.Test.YtjccenbacjhglaaSO
import Derived.Test.YtjccenbacjhglaaAU
import Derived.Test.YtjccenbacjhglaaR1
import Derived.Test.YtjccenbacjhglaaR2
import Derived.Test.YtjccenbacjhglaaR3
import Derived.Test.YtjccenbacjhglaaS1
import Derived.Test.YtjccenbacjhglaaS2
import Derived.Test.YtjccenbacjhglaaS3
import Derived.Test.YtjccenbacjhglaaS4
import Derived.Test.YtjccenbacjhglaaS5
import Derived.Test.YtjccenbacjhglaaS6
import Derived.Test.YtjccenbacjhglaaS7
set_option linter.unusedVariables false
set_option linter.unusedSimpArgs false
set_option maxRecDepth 100000
set_option maxHeartbeats 1000000
namespace Go.Proofs.Ytjccenbacjhglaa.S8
open Go Go.Proofs Go.RowKit Go.Proofs.Ytjccenbacjhglaa.K Go.Proofs.Ytjccenbacjhglaa.M Go.Proofs.Ytjccenbacjhglaa.PF Go.Proofs.Ytjccenbacjhglaa.SO Go.Proofs.Ytjccenbacjhglaa.AU Go.Proofs.Ytjccenbacjhglaa.R1 Go.Proofs.Ytjccenbacjhglaa.R2 Go.Proofs.Ytjccenbacjhglaa.R3 Go.Proofs.Ytjccenbacjhglaa.S1 Go.Proofs.Ytjccenbacjhglaa.S2 Go.Proofs.Ytjccenbacjhglaa.S3 Go.Proofs.Ytjccenbacjhglaa.S4 Go.Proofs.Ytjccenbacjhglaa.S5 Go.Proofs.Ytjccenbacjhglaa.S6 Go.Proofs.Ytjccenbacjhglaa.S7
theorem f96_3 : Fld Try.prog 96 3 3 := ⟨_, _, Try.underlying96, rfl, rfl, 0, by kernel_rfl⟩
theorem f96_4 : Fld Try.prog 96 4 4 := ⟨_, _, Try.underlying96, rfl, rfl, 0, by kernel_rfl⟩
theorem fn41 : Fnc Try.prog 41 := ⟨by kernel_rfl⟩
theorem fn42 : Fnc Try.prog 42 := ⟨by kernel_rfl⟩
theorem fn43 : Fnc Try.prog 43 := ⟨by kernel_rfl⟩
theorem fn44 : Fnc Try.prog 44 := ⟨by kernel_rfl⟩
theorem mix : Try.prog.follows .mixedOrders = true := by kernel_rfl
theorem o3 : One Try.prog 3 := ⟨_, Try.underlying3, rfl, by kernel_rfl⟩
theorem o37 : One Try.prog 37 := ⟨_, Try.underlying37, rfl, by kernel_rfl⟩
theorem o46 : One Try.prog 46 := ⟨_, Try.underlying46, rfl, by kernel_rfl⟩
theorem s22 : Slc Try.prog 22 62 3 32 [.string ⟨#[]⟩, .int .i64 0, .int .i64 0] := ⟨Try.underlying22, by kernel_rfl, rfl⟩
theorem s37 : Slc Try.prog 37 3 1 8 [.int .i64 0] := ⟨Try.underlying37, by kernel_rfl, rfl⟩
theorem s42 : Slc Try.prog 42 37 1 24 [.slice none 0 0] := ⟨Try.underlying42, by kernel_rfl, rfl⟩
theorem s45 : Slc Try.prog 45 37 1 24 [.slice none 0 0] := ⟨Try.underlying45, by kernel_rfl, rfl⟩

/-- A given schedule's states. -/
def stTo (l : List Tk) (rs sch : List (List Int)) : Nat → Rn
  | 0 => newS l.length
  | n + 1 => match sch[n]? with
    | some run => runS (beginS l rs (n : Int) (stTo l rs sch n)) run
    | none => stTo l rs sch n
theorem stTo_next {l : List Tk} {rs sch : List (List Int)} {n : Nat} (h : n < sch.length) : stTo l rs sch (n + 1) = runS (beginS l rs (n : Int) (stTo l rs sch n)) sch[n] := by
  rw [stTo, List.getElem?_eq_getElem h]

theorem check46_calls (w : World) (lv rv sv : Value) (l : List Tk) (cores : Int) (rs sch : List (List Int)) (hl : Rd encT 3 w lv l) (hr : Rd2 w rv rs) (hS : Rd2 w sv sch) (hR : inI rs) (hv : validS l cores rs = true) (h12 : l.length ≤ 12) (hU : sch.length ≤ 1000) (hgood : ∀ n (h : n < sch.length), GoodRun l rs (beginS l rs (n : Int) (stTo l rs sch n)) sch[n] (n : Int) cores) : Calls Try.prog 22 #[lv, .int .i64 cores, rv, sv] w fun e w' => ∃ v L', e = .returned v ∧ Z w w [] L' w' ∧ ∃ mv, v = .tuple #[mv, .int .i64 0] ∧ OS 99 3 mv ((beginS l rs (sch.length : Int) (stTo l rs sch sch.length)).ms.flatMap encM) (beginS l rs (sch.length : Int) (stTo l rs sch sch.length)).ms.length L' := by
  obtain ⟨lA, lc, rfl⟩ : ∃ A c, lv = .slice A l.length c := by obtain ⟨A, c, h, _⟩ := hl; exact ⟨A, c, h⟩
  obtain ⟨rA, rc, rfl⟩ := hr.len
  obtain ⟨sA, sc, rfl⟩ := hS.len
  obtain ⟨hI0, hc0, hc1⟩ := valid_RnI hv hR
  refine enter (args := [_, _, _, _]) Try.func22 rfl rfl rfl (C := Z w w [] []) (Z.start (H.nil w)) ?_
  refine .seq (.reg (.q (.assign rfl) (.q (.assign rfl) (.nil (.code ?_)))))
  refine .seq (.seq (.reg (.q (.move rfl) (.q (.move rfl) (.q (.move rfl) (.q (.call (v := .bool true) fn41 rfl (fun w hz => by have h9 := svalid_calls w _ _ l cores rs (hl.below hz.h.below) (hr.below hz.h.below) hR; rw [hv] at h9; exact h9)) (.q (.notB rfl) (.nil (.code ?_)))))))))
  refine .ff (.skip (.code ?_))
  refine .seq (.seq (.reg (.q (.move rfl) (.q (.lenS s45.t rfl) (.q (.cmp rfl rfl (gtF (by omega))) (.nil (.code ?_)))))))
  refine .ff (.skip (.code ?_))
  refine .seq (.reg (.q (.move rfl) (.q (.move rfl) (.callA fn42 rfl (fun w hz => newRunner_calls w _ _ _ l.length rs.length _ (by omega)) fun v26 L26 p26 => ?_))))
  obtain ⟨R, J, D, rfl, rfl⟩ := p26
  refine .q (.assign rfl) (.nil (.code ?_))
  refine .seq (.seq (.reg (.q (.move rfl) (.q (.lenS s45.t rfl) (.q (.move rfl) (.nil (.code ?_)))))))
  refine .block (.lp (fun z : Nat × Rn × Value × List Blk => [(1, .int .i64 cores), (3, .slice sA sch.length sc), (10, .pointer (some ⟨R, 0, none⟩)), (27, .slice sA sch.length sc), (28, .int .i64 (sch.length : Int)), (29, .int .i64 (z.1 : Int))]) (fun z => BN R J D (.slice lA l.length lc) (.slice rA rs.length rc) z.2.2.1 l.length z.2.2.2 z.2.1) (fun z => z.1 ≤ sch.length ∧ z.2.1 = stTo l rs sch z.1 ∧ RnI l rs z.2.1 (12 * z.1) (40 * z.1) ∧ OS 99 3 z.2.2.1 (z.2.1.ms.flatMap encM) z.2.1.ms.length z.2.2.2) (fun z => sch.length - z.1) (0, newS l.length, .slice none 0 0, []) ⟨rfl, rfl, rfl, rfl, rfl, rfl, trivial⟩ (fun _ h => by rw [List.append_nil] at h; exact h) ⟨Nat.zero_le _, rfl, hI0, OS.nil _ _⟩ fun ⟨n, s, mv, Lm⟩ hk => ?_)
  obtain ⟨hk1, hk2, hk3, hk4⟩ := hk
  simp only at hk1 hk2 hk3 hk4
  show WC _ _ _ _ (Z w w _ (BN R J D (.slice lA l.length lc) (.slice rA rs.length rc) mv l.length Lm s)) _
  refine .seq (.reg (.ltS rfl rfl (fun h30 => ?_) (fun h30 => ?_)))
  · have hn : n < sch.length := by omega
    obtain ⟨sb, so, sc2, uA, uc, hse, hcell, hrow⟩ := Rd2.at hS hn
    cases hse
    obtain ⟨run, hrun⟩ : ∃ x, x = sch[n] := ⟨_, rfl⟩
    have hgn := hgood n hn
    rw [← hk2] at hgn
    rw [← hrun] at hcell hrow hgn
    refine .nil (.code ?_)
    refine .seq (.tt (.skip (.code ?_)))
    refine .seq (.block (.seq (.reg (.q (.move rfl) (.q (.ix s45 rfl rfl (by omega)) (.q (.ldW o37 rfl hcell) (.q (.assign rfl) (.q (.assign rfl) (.nil (.code ?_))))))))))
    refine .seq (.reg (.q (.move rfl) (.q (.move rfl) (.callM (Lm := BN R J D (.slice lA l.length lc) (.slice rA rs.length rc) mv l.length Lm s) (Lr := []) fn43 rfl (pkN _) (fun w1 hH => begin_calls w w1 R J D _ _ mv Lm l rs s (12 * n) (40 * n) (n : Int) hH hl hr hk3 hk4 (by omega) (by omega) (by omega)) fun v36 L36 p36 => (?_)))))
    obtain ⟨mv1, Lm1, rfl, hO1, hI1⟩ := p36
    obtain ⟨s1, hs1⟩ : ∃ x, x = beginS l rs (n : Int) s := ⟨_, rfl⟩
    rw [← hs1] at hO1 hI1 hgn ⊢
    have hload := hgn.load
    refine .world (C' := Z w w _ (BN R J D (.slice lA l.length lc) (.slice rA rs.length rc) mv1 l.length Lm1 s1)) ?_ (fun _ h => by rw [List.append_nil] at h; exact h)
    refine .nil (.code ?_)
    refine .seq (.seq (.reg (.q (.move rfl) (.q (.move rfl) (.q (.move rfl) (.q (.move rfl) (.q (.call fn44 rfl (fun w hz => check_calls w R J D _ _ mv1 l rs s1 (12 * n) (40 * n + 40) ⟨hz.has (i := 0) rfl, hz.has (i := 1) rfl, hz.has (i := 2) rfl⟩ (hl.below hz.h.below) (hr.below hz.h.below) hI1 _ run (n : Int) cores (hrow.below hz.h.below) hgn)) (.q (.assign rfl) (.nil (.code ?_))))))))))
    refine .seq (.reg (.q (.move rfl) (.q (.cmp rfl rfl (neF (rfl))) (.nil (.code ?_)))))
    refine .ff (.skip (.code ?_))
    refine .seq (.reg (.q (.move rfl) (.q (.lenS s37.t rfl) (.q (.move rfl) (.nil (.code ?_))))))
    refine .block (.lp (fun z : Nat × List Int => [(1, .int .i64 cores), (3, .slice (some ⟨sb, so, none⟩) sch.length sc), (10, .pointer (some ⟨R, 0, none⟩)), (27, .slice (some ⟨sb, so, none⟩) sch.length sc), (28, .int .i64 (sch.length : Int)), (29, .int .i64 (n : Int)), (45, .slice uA run.length uc), (46, .int .i64 (run.length : Int)), (47, .int .i64 (z.1 : Int))]) (fun z => BN R J D (.slice lA l.length lc) (.slice rA rs.length rc) mv1 l.length Lm1 { s1 with done := z.2 }) (fun z => z.1 ≤ run.length ∧ z.2 = (run.take z.1).foldl tick s1.done ∧ ∀ i, 0 ≤ atI z.2 i ∧ atI z.2 i ≤ (12 * n + z.1 : Nat)) (fun z => run.length - z.1) (0, s1.done) ⟨rfl, rfl, rfl, rfl, rfl, rfl, rfl, rfl, rfl, trivial⟩ (fun _ h => h) ⟨Nat.zero_le _, rfl, hI1.done⟩ fun ⟨q, d⟩ hq => ?_)
    obtain ⟨hq1, hq2, hq3⟩ := hq
    simp only at hq1 hq2 hq3
    have hdl : d.length = l.length := by rw [hq2, ticks_len]; exact hI1.nd
    show WC _ _ _ _ (Z w w _ (BN R J D (.slice lA l.length lc) (.slice rA rs.length rc) mv1 l.length Lm1 { s1 with done := d })) _
    refine .seq (.reg (.ltS rfl rfl (fun h48 => ?_) (fun h48 => ?_)))
    · have hqr : q < run.length := by omega
      obtain ⟨xb, xo, xc, hxe, hxr⟩ := Rd.at hrow hqr
      cases hxe
      obtain ⟨he0, he1, _⟩ := hgn.form q hqr
      have hid : run[q].toNat < d.length := by omega
      have hdb := hq3 run[q].toNat
      refine .nil (.code ?_)
      refine .seq (.tt (.skip (.code ?_)))
      refine .seq (.block (.seq (.reg (.q (.ix s37 rfl rfl (by omega)) (.q (.ldW (v := .int .i64 ((run[q].toNat : Nat) : Int)) o3 rfl (by rw [Int.toNat_of_nonneg he0]; have := hxr 0 (by omega); exact this)) (.q (.assign rfl) (.nil (.code ?_))))))))
      refine .reg (.q (.move rfl) (.q (.nilP rfl) (.q (.fld f96_3 rfl) (.q (.ldO o37 0 rfl rfl rfl) (.q (.move rfl) (.q (.ix s37 rfl rfl (by omega)) (.q (.ldO (v := .int .i64 (atI d run[q].toNat)) o3 2 rfl rfl (by rw [Nat.zero_add, Nat.mul_one]; show (d.map intV)[run[q].toNat]? = _; rw [List.getElem?_map, atI, List.getElem?_eq_getElem hid]; rfl)) (.q (.add rfl rfl (IntWalk.i64_in _ (by omega))) (.q (.ix s37 rfl rfl (by omega)) (.st o3 2 rfl rfl rfl rfl (by show Nat.blt _ (d.map intV).length = true; simp [Nat.blt_eq]; omega) (?_)))))))))))
      rw [S3.int_set]
      refine .nil (.inbN (.code ?_))
      refine .reg (.q (.add rfl rfl (IntWalk.i64_in _ (by omega))) (.q (.move rfl) (.nil (.rd (q + 1, tick d run[q]) ⟨rfl, rfl, rfl, rfl, rfl, rfl, rfl, rfl, rfl, trivial⟩ (fun _ h => h) ⟨by simp only; omega, by simp only; rw [fold_snoc hqr, ← hq2], fun i => by have := hq3 i; simp only; rw [tick_at]; split <;> omega⟩ (by simp only; omega)))))
    · have hdE : d = run.foldl tick s1.done := by rw [hq2, List.take_of_length_le (by omega)]
      subst hdE
      refine .nil (.code ?_)
      refine .seq (.ff (.exit (.thE (.thE (.inbX (.inbN (.code ?_)))))))
      refine .reg (.q (.add rfl rfl (IntWalk.i64_in _ (by omega))) (.q (.move rfl) (.nil (.rd (n + 1, runS s1 run, mv1, Lm1) ⟨rfl, rfl, rfl, rfl, rfl, rfl, trivial⟩ (fun _ h => h) ⟨by simp only; omega, by simp only; rw [stTo_next hn, ← hk2, ← hs1, ← hrun], run_I hI1 (by omega) (by omega), hO1⟩ (by simp only; omega)))))
  · refine .nil (.code ?_)
    refine .seq (.ff (.exit (.thE (.thE (.inbX (.code ?_))))))
    refine .seq (.reg (.q (.move rfl) (.q (.move rfl) (.q (.lenS s45.t rfl) (.callM (Lm := BN R J D (.slice lA l.length lc) (.slice rA rs.length rc) mv l.length Lm s) (Lr := []) fn43 rfl (pkN _) (fun w1 hH => begin_calls w w1 R J D _ _ mv Lm l rs s (12 * n) (40 * n) (sch.length : Int) hH hl hr hk3 hk4 (by omega) (by omega) (by omega)) fun v65 L65 p65 => (?_))))))
    obtain ⟨mv1, Lm1, rfl, hO1, hI1⟩ := p65
    have hnU : n = sch.length := by omega
    subst hnU
    refine .world (C' := Z w w _ (BN R J D (.slice lA l.length lc) (.slice rA rs.length rc) mv1 l.length Lm1 (beginS l rs (sch.length : Int) s))) ?_ (fun _ h => by rw [List.append_nil] at h; exact h)
    refine .nil (.code ?_)
    refine .seq (.reg (.q (.move rfl) (.q (.nilP rfl) (.q (.fld f96_4 rfl) (.q (.ldO o46 0 rfl rfl rfl) (.q (.assign rfl) (.q (.assign rfl) (.nil (.code ?_)))))))))
    refine .ret (.ret2 Try.results22 rfl rfl fun w1 hz => ⟨_, _, rfl, hz.sublist (.cons _ (.cons _ (.cons _ (List.Sublist.refl _)))), mv1, rfl, by rw [← hk2]; exact hO1⟩)

end Go.Proofs.Ytjccenbacjhglaa.S8
