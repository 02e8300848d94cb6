import Derived.Test.YtjccenbacjhglaaProg
import Derived.Test.YtjccenbacjhglaaK
import Derived.Test.YtjccenbacjhglaaM
import Derived.Test.YtjccenbacjhglaaIS
import Derived.Test.YtjccenbacjhglaaM2
import Derived.Test.YtjccenbacjhglaaMS
import Derived.Test.YtjccenbacjhglaaPF
import Derived.Test.YtjccenbacjhglaaSO
import Derived.Test.YtjccenbacjhglaaAU
import Derived.Test.YtjccenbacjhglaaR1
import Derived.Test.YtjccenbacjhglaaR2
import Derived.Test.YtjccenbacjhglaaR3
import Derived.Test.YtjccenbacjhglaaS1
import Derived.Test.YtjccenbacjhglaaS2
import Derived.Test.YtjccenbacjhglaaS3
import Derived.Test.YtjccenbacjhglaaS4
import Derived.Test.YtjccenbacjhglaaS5
import Derived.Test.YtjccenbacjhglaaS6
import Derived.Test.YtjccenbacjhglaaS7
import Derived.Test.YtjccenbacjhglaaS8
import Derived.Test.YtjccenbacjhglaaS9
import Derived.Test.YtjccenbacjhglaaS10
import Derived.Test.YtjccenbacjhglaaSP
import Derived.Test.YtjccenbacjhglaaS11
set_option linter.unusedVariables false
set_option linter.unusedSimpArgs false
set_option maxRecDepth 100000
set_option maxHeartbeats 1000000
namespace Go.Proofs.Ytjccenbacjhglaa.S13
open Go Go.Proofs Go.RowKit Go.Proofs.Ytjccenbacjhglaa.K Go.Proofs.Ytjccenbacjhglaa.M Go.Proofs.Ytjccenbacjhglaa.PF Go.Proofs.Ytjccenbacjhglaa.SO Go.Proofs.Ytjccenbacjhglaa.AU Go.Proofs.Ytjccenbacjhglaa.R1 Go.Proofs.Ytjccenbacjhglaa.R2 Go.Proofs.Ytjccenbacjhglaa.R3 Go.Proofs.Ytjccenbacjhglaa.S1 Go.Proofs.Ytjccenbacjhglaa.S2 Go.Proofs.Ytjccenbacjhglaa.S3 Go.Proofs.Ytjccenbacjhglaa.S4 Go.Proofs.Ytjccenbacjhglaa.S5 Go.Proofs.Ytjccenbacjhglaa.S6 Go.Proofs.Ytjccenbacjhglaa.S7 Go.Proofs.Ytjccenbacjhglaa.S8 Go.Proofs.Ytjccenbacjhglaa.S9 Go.Proofs.Ytjccenbacjhglaa.S10 Go.Proofs.Ytjccenbacjhglaa.SP Go.Proofs.Ytjccenbacjhglaa.S11
theorem a44 : Ag Try.prog 44 4 := ⟨_, Try.underlying44, rfl, by kernel_rfl⟩
theorem f44_0 : Fld Try.prog 44 0 0 := ⟨_, _, Try.underlying44, rfl, rfl, 0, by kernel_rfl⟩
theorem fn17 : Fnc Try.prog 17 := ⟨by kernel_rfl⟩
theorem fn18 : Fnc Try.prog 18 := ⟨by kernel_rfl⟩
theorem fn20 : Fnc Try.prog 20 := ⟨by kernel_rfl⟩
theorem fn21 : Fnc Try.prog 21 := ⟨by kernel_rfl⟩
theorem mix : Try.prog.follows .mixedOrders = true := by kernel_rfl
theorem o22 : One Try.prog 22 := ⟨_, Try.underlying22, rfl, by kernel_rfl⟩
theorem o37 : One Try.prog 37 := ⟨_, Try.underlying37, rfl, by kernel_rfl⟩
theorem s22 : Slc Try.prog 22 62 3 32 [.string ⟨#[]⟩, .int .i64 0, .int .i64 0] := ⟨Try.underlying22, by kernel_rfl, rfl⟩
theorem s37 : Slc Try.prog 37 3 1 8 [.int .i64 0] := ⟨Try.underlying37, by kernel_rfl, rfl⟩
theorem s42 : Slc Try.prog 42 37 1 24 [.slice none 0 0] := ⟨Try.underlying42, by kernel_rfl, rfl⟩
theorem s45 : Slc Try.prog 45 37 1 24 [.slice none 0 0] := ⟨Try.underlying45, by kernel_rfl, rfl⟩

section
variable {P : Program} {n : Nat} {C : World → Prop} {S : SS} {d : Option Nat} {ty : TypeId} {pos : String} {af : Array Edge} {g : Option (Nat × Bool)}
theorem maxI {x y : Operand} {ts : Array TypeId} {k : IntKind} {i j r : Int} (hx : ev S x = some (.int k i)) (hy : ev S y = some (.int k j)) (hr : max i j = r) : QOp P n C S ⟨d, .call { callee := .builtin .max, args := #[x, y], argTypes := ts }, ty, pos, af, g⟩ (.int k r) :=
  .of fun a w hs hC => by
    have hr' : (if i < j then j else i) = r := by rw [← hr, Int.max_def]; split <;> split <;> omega
    simp [execOp, resolve, invoke, builtin, hs.eval hx, hs.eval hy, Builtin.max_, Builtin.max2, hr']
end
theorem preL_next {sch : List (List Int)} {task : Int} {t : Nat} (h : t < sch.length) : preL sch task (t + 1) = (if task ∈ sch[t] ∧ (preL sch task t).2 = true ∧ task ∉ (sch[t - 1]?).getD [] then (preL sch task t).1 + 1 else (preL sch task t).1, (preL sch task t).2 || decide (task ∈ sch[t])) := by
  rw [preL, List.getElem?_eq_getElem h]
theorem preL_bd {sch : List (List Int)} {task : Int} : ∀ (t : Nat), t ≤ sch.length → 0 ≤ (preL sch task t).1 ∧ (preL sch task t).1 ≤ t ∧ ((preL sch task t).2 = true → 0 < t)
  | 0, _ => ⟨Int.le_refl _, Int.le_refl _, fun h => by cases h⟩
  | t + 1, h => by
    obtain ⟨h1, h2, h3⟩ := preL_bd (sch := sch) (task := task) t (by omega)
    rw [preL_next (show t < sch.length by omega)]
    refine ⟨?_, ?_, fun _ => by omega⟩
    · simp only; split <;> omega
    · simp only; split <;> omega
theorem runs_next {sch : List (List Int)} {task : Int} {t : Nat} (h : t < sch.length) : runsIn sch task (t + 1) = if task ∈ sch[t] then runsIn sch task t + 1 else runsIn sch task t := by
  rw [runsIn, List.getElem?_eq_getElem h]

theorem slotsPreempts_calls (w : World) (lv rv sv : Value) (l : List Tk) (cores : Int) (rs : List (List Int)) (U : Int) (sch : List (List Int)) (task : Int) (hl : Rd encT 3 w lv l) (hr : Rd2 w rv rs) (hR : inI rs) (hs : Rd2 w sv sch) : Calls Try.prog 6 #[.agg (plV lv cores rv U).toArray, sv, .int .i64 task] w fun e w' => e = .returned (.bool true) ∧ Below w.heap.size w w' := by
  obtain ⟨lA, lc, rfl⟩ : ∃ A c, lv = .slice A l.length c := by obtain ⟨A, c, h, _⟩ := hl; exact ⟨A, c, h⟩
  obtain ⟨rA, rc, rfl⟩ := hr.len
  obtain ⟨sA, sc, rfl⟩ := hs.len
  have hsb := hs.bd
  refine enter (args := [_, _, _]) Try.func6 rfl rfl rfl (C := Z w w [] []) (Z.start (H.nil w)) ?_
  refine .seq (.reg (.box rfl fun b3 => .q (.assign rfl) (.nil (.code ?_))))
  refine .seq (.seq (.reg (.q (.call fn17 rfl (fun w hz => awake46_calls w)) (.q (.notB rfl) (.nil (.code ?_))))))
  refine .ff (.skip (.code ?_))
  refine .seq (.seq (.reg (.q (.move rfl) (.q (.lenS s45.t rfl) (.gtS rfl rfl (fun h22 => ?_) (fun h22 => ?_))))))
  · refine .nil (.code ?_)
    refine .tt (.seq (.reg (.q (.assign rfl) (.nil (.code ?_)))))
    refine .ret (.thR (.ret1 Try.results6 rfl fun w1 hz => ⟨rfl, hz.h.below⟩))
  · refine .nil (.code ?_)
    refine .ff (.skip (.code ?_))
    refine .seq (.reg (.q (.assign rfl) (.q (.assign rfl) (.nil (.code ?_)))))
    refine .seq (.seq (.reg (.q (.move rfl) (.q (.lenS s45.t rfl) (.q (.move rfl) (.nil (.code ?_)))))))
    refine .block (.lp (fun z : Nat × Int × Bool => [(1, .slice sA sch.length sc), (2, .int .i64 task), (3, .pointer (some ⟨b3, 0, none⟩)), (7, .int .i64 z.2.1), (8, .bool z.2.2), (24, .int .i64 (sch.length : Int)), (25, .int .i64 (z.1 : Int))]) (fun _ => [(b3, .cells (plV (.slice lA l.length lc) cores (.slice rA rs.length rc) U).toArray 44 (0, 0))]) (fun z => z.1 ≤ sch.length ∧ z.2 = preL sch task z.1) (fun z => sch.length - z.1) (0, 0, false) ⟨rfl, rfl, rfl, rfl, rfl, rfl, rfl, trivial⟩ (fun _ h => h) ⟨Nat.zero_le _, rfl⟩ fun ⟨t, n, ran⟩ hk => ?_)
    obtain ⟨hk1, hk2⟩ := hk
    simp only at hk1 hk2
    have hbd := preL_bd (sch := sch) (task := task) t hk1
    rw [← hk2] at hbd
    obtain ⟨hb1, hb2, hb3⟩ := hbd
    simp only at hb1 hb2 hb3
    show WC _ _ _ _ (Z w w _ [(b3, .cells (plV (.slice lA l.length lc) cores (.slice rA rs.length rc) U).toArray 44 (0, 0))]) [(1, .slice sA sch.length sc), (2, .int .i64 task), (3, .pointer (some ⟨b3, 0, none⟩)), (7, .int .i64 n), (8, .bool ran), (24, .int .i64 (sch.length : Int)), (25, .int .i64 (t : Int))]
    refine .seq (.reg (.ltS rfl rfl (fun h26 => ?_) (fun h26 => ?_)))
    · have hi : t < sch.length := by omega
      obtain ⟨sb, so, sc2, uA, uc, hse, hcell, hrow⟩ := Rd2.at hs hi
      cases hse
      refine .nil (.code ?_)
      refine .seq (.tt (.skip (.code ?_)))
      refine .seq (.block (.seq (.reg (.q (.move rfl) (.q (.assign rfl) (.nil (.code ?_)))))))
      refine .seq (.reg (.q (.move rfl) (.q (.move rfl) (.q (.ix s45 rfl rfl (by omega)) (.q (.ldW o37 rfl hcell) (.q (.move rfl) (.qB (.call fn20 rfl (fun w hz => has_calls w _ sch[t] task (hrow.below hz.h.below))) (fun h33 => ?_) (fun h33 => ?_))))))))
      · refine .q (.assign rfl) (.nil (.code ?_))
        refine .seq (.seq (.reg (?_)))
        rcases ran with _ | _
        · refine .q (.move rfl) (.q (.move rfl) (.q (.move rfl) (.q (.pickT rfl rfl) (.q (.move rfl) (.skip (.skip (.skip (.skip (.skip (.skip (.skip (.skip (.q (.pickF rfl rfl) (.nil (.code ?_)))))))))))))))
          refine .ff (.skip (.code ?_))
          refine .reg (.q (.move rfl) (.q (.move rfl) (.q (.move rfl) (.q (.pickF rfl rfl) (.q (.assign rfl) (.nil (.inbN (.code ?_))))))))
          refine .reg (.q (.add rfl rfl (IntWalk.i64_in _ (by omega))) (.q (.move rfl) (.nil (.rd (t + 1, n, true) ⟨rfl, rfl, rfl, rfl, rfl, rfl, rfl, trivial⟩ (fun _ h => h) ⟨by simp only; omega, by rw [preL_next hi, ← hk2]; simp [of_decide_eq_true h33]⟩ (by simp only; omega)))))
        · have ht0 : 0 < t := hb3 rfl
          obtain ⟨eb, eo, ec, eA, ec2, he2, hcell2, hrow2⟩ := Rd2.at hs (show t - 1 < sch.length by omega)
          cases he2
          refine .q (.move rfl) (.q (.move rfl) (.q (.move rfl) (.q (.pickT rfl rfl) (.q (.move rfl) (.q (.move rfl) (.q (.move rfl) (.q (.sub rfl rfl (show _ = ((t - 1 : Nat) : Int) by rw [IntWalk.i64_in _ (by omega)]; omega)) (.q (.ix s45 rfl rfl (by omega)) (.q (.ldW o37 rfl hcell2) (.q (.move rfl) (.qB (.call fn20 rfl (fun w hz => has_calls w _ sch[t - 1] task (hrow2.below hz.h.below))) (fun h45 => ?_) (fun h45 => ?_))))))))))))
          · refine .q (.notB rfl) (.q (.pickT rfl rfl) (.nil (.code ?_)))
            refine .ff (.skip (.code ?_))
            refine .reg (.q (.move rfl) (.q (.move rfl) (.skip (.q (.pickT rfl rfl) (.q (.assign rfl) (.nil (.inbN (.code ?_))))))))
            refine .reg (.q (.add rfl rfl (IntWalk.i64_in _ (by omega))) (.q (.move rfl) (.nil (.rd (t + 1, n, true) ⟨rfl, rfl, rfl, rfl, rfl, rfl, rfl, trivial⟩ (fun _ h => h) ⟨by simp only; omega, by rw [preL_next hi, ← hk2]; rw [List.getElem?_eq_getElem (show t - 1 < sch.length by omega)]; simp [of_decide_eq_true h33, of_decide_eq_true h45]⟩ (by simp only; omega)))))
          · refine .q (.notB rfl) (.q (.pickT rfl rfl) (.nil (.code ?_)))
            refine .tt (.reg (.q (.move rfl) (.q (.add rfl rfl (IntWalk.i64_in _ (by omega))) (.q (.assign rfl) (.nil (.code ?_))))))
            refine .reg (.q (.move rfl) (.q (.move rfl) (.skip (.q (.pickT rfl rfl) (.q (.assign rfl) (.nil (.inbN (.code ?_))))))))
            refine .reg (.q (.add rfl rfl (IntWalk.i64_in _ (by omega))) (.q (.move rfl) (.nil (.rd (t + 1, n + 1, true) ⟨rfl, rfl, rfl, rfl, rfl, rfl, rfl, trivial⟩ (fun _ h => h) ⟨by simp only; omega, by rw [preL_next hi, ← hk2]; rw [List.getElem?_eq_getElem (show t - 1 < sch.length by omega)]; simp [of_decide_eq_true h33, of_decide_eq_false h45]⟩ (by simp only; omega)))))
      · refine .q (.assign rfl) (.nil (.code ?_))
        refine .seq (.seq (.reg (?_)))
        rcases ran with _ | _
        · refine .q (.move rfl) (.q (.move rfl) (.skip (.q (.pickF rfl rfl) (.q (.move rfl) (.skip (.skip (.skip (.skip (.skip (.skip (.skip (.skip (.q (.pickF rfl rfl) (.nil (.code ?_)))))))))))))))
          refine .ff (.skip (.code ?_))
          refine .reg (.q (.move rfl) (.q (.move rfl) (.q (.move rfl) (.q (.pickF rfl rfl) (.q (.assign rfl) (.nil (.inbN (.code ?_))))))))
          refine .reg (.q (.add rfl rfl (IntWalk.i64_in _ (by omega))) (.q (.move rfl) (.nil (.rd (t + 1, n, false) ⟨rfl, rfl, rfl, rfl, rfl, rfl, rfl, trivial⟩ (fun _ h => h) ⟨by simp only; omega, by rw [preL_next hi, ← hk2]; simp [of_decide_eq_false h33]⟩ (by simp only; omega)))))
        · have ht0 : 0 < t := hb3 rfl
          obtain ⟨eb, eo, ec, eA, ec2, he2, hcell2, hrow2⟩ := Rd2.at hs (show t - 1 < sch.length by omega)
          cases he2
          refine .q (.move rfl) (.q (.move rfl) (.skip (.q (.pickF rfl rfl) (.q (.move rfl) (.skip (.skip (.skip (.skip (.skip (.skip (.skip (.skip (.q (.pickF rfl rfl) (.nil (.code ?_)))))))))))))))
          refine .ff (.skip (.code ?_))
          refine .reg (.q (.move rfl) (.q (.move rfl) (.skip (.q (.pickT rfl rfl) (.q (.assign rfl) (.nil (.inbN (.code ?_))))))))
          refine .reg (.q (.add rfl rfl (IntWalk.i64_in _ (by omega))) (.q (.move rfl) (.nil (.rd (t + 1, n, true) ⟨rfl, rfl, rfl, rfl, rfl, rfl, rfl, trivial⟩ (fun _ h => h) ⟨by simp only; omega, by rw [preL_next hi, ← hk2]; simp [of_decide_eq_false h33]⟩ (by simp only; omega)))))
    · have hn : n = preS sch task := by
        have e : t = sch.length := by omega
        have h9 := (pre_eq (sch := sch) (task := task) (Nat.le_refl _)).1
        rw [e] at hk2
        rw [preS, ← h9, ← hk2]
      refine .nil (.code ?_)
      refine .seq (.ff (.exit (.thE (.thE (.inbX (.code ?_))))))
      refine .seq (.seq (.reg (.q (.move rfl) (.q (.move rfl) (.q (.call fn21 rfl (fun w hz => preempt_calls w _ sch task (hs.below hz.h.below) (by omega))) (.q (.move rfl) (.q (.cmp rfl rfl (neF (hn.symm))) (.nil (.code ?_)))))))))
      refine .ff (.skip (.code ?_))
      refine .seq (.reg (.q (.ldOA a44 0 rfl rfl rfl rfl) (?_)))
      rcases hok : okPl l cores rs U with _ | _
      · refine .q (.call (v := .tuple #[.slice none 0 0, .slice none 0 0, .bool false]) fn18 rfl (fun w hz => simulated_no w _ _ l cores rs U (hl.below hz.h.below) (hr.below hz.h.below) hR hok)) (.q (.move rfl) (.q (.ext rfl rfl) (.q (.ext rfl rfl) (.q (.ext rfl rfl) (.q (.assign rfl) (.q (.assign rfl) (.q (.assign rfl) (.nil (.code ?_)))))))))
        refine .seq (.seq (.reg (.q (.move rfl) (.q (.notB rfl) (.nil (.code ?_))))))
        refine .tt (.seq (.reg (.q (.assign rfl) (.nil (.code ?_)))))
        refine .ret (.thR (.ret1 Try.results6 rfl fun w1 hz => ⟨rfl, hz.h.below⟩))
      · obtain ⟨q1, q2, q3, q4, q5, q6⟩ := okPl_out hok
        obtain ⟨U, rfl⟩ : ∃ n : Nat, U = (n : Int) := ⟨U.toNat, by omega⟩
        obtain ⟨_, hc0, hc1⟩ := valid_RnI q2 hR
        refine .callA fn18 rfl (fun w hz => simulated_calls w _ _ l cores rs U (hl.below hz.h.below) (hr.below hz.h.below) hR hok) fun v62 L62 p62 => ?_
        obtain ⟨ov, mv, Lo, Lr, Lm, rfl, rfl, hS, hM, hlen, hmsb⟩ := p62
        refine .world ?_ (fun _ h => zperm List.perm_append_comm h)
        refine .q (.move rfl) (.q (.ext rfl rfl) (.q (.ext rfl rfl) (.q (.ext rfl rfl) (.q (.assign rfl) (.q (.assign rfl) (.q (.assign rfl) (.nil (.code ?_))))))))
        refine .seq (.seq (.reg (.q (.move rfl) (.q (.notB rfl) (.nil (.code ?_))))))
        refine .ff (.skip (.code ?_))
        refine .seq (.seq (.reg (.q (.fld f44_0 rfl) (.q (.ldO o22 0 rfl rfl rfl) (.q (.lenS s22.t rfl) (.q (.move rfl) (.nil (.code ?_))))))))
        refine .block (.lp (fun i : Nat => [(11, ov), (70, .int .i64 (l.length : Int)), (71, .int .i64 (i : Int))]) (fun _ => [(b3, .cells (plV (.slice lA l.length lc) cores (.slice rA rs.length rc) (U : Int)).toArray 44 (0, 0))] ++ (Lm ++ (Lo ++ Lr))) (fun i => i ≤ l.length) (fun i => l.length - i) 0 ⟨rfl, rfl, rfl, trivial⟩ (fun _ h => h) (Nat.zero_le _) fun i hi1 => ?_)
        obtain ⟨oA, oc, hov⟩ := SchO.form hS
        subst hov
        refine .seq (.reg (.ltS rfl rfl (fun h72 => ?_) (fun h72 => ?_)))
        · have hil : i < l.length := by omega
          refine .nil (.code ?_)
          refine .seq (.tt (.skip (.code ?_)))
          refine .seq (.block (.seq (.reg (.q (.move rfl) (.q (.assign rfl) (.nil (.code ?_)))))))
          refine .seq (.reg (.q (.assign rfl) (.nil (.code ?_))))
          refine .seq (.seq (.reg (.q (.move rfl) (.q (.lenS s45.t rfl) (.q (.move rfl) (.nil (.code ?_)))))))
          refine .block (.lp (fun z : Nat × Int => [(11, .slice oA (simOut l rs cores U).length oc), (14, .int .i64 (i : Int)), (15, .int .i64 z.2), (70, .int .i64 (l.length : Int)), (71, .int .i64 (i : Int)), (74, .slice oA (simOut l rs cores U).length oc), (75, .int .i64 ((simOut l rs cores U).length : Int)), (76, .int .i64 (z.1 : Int))]) (fun _ => [(b3, .cells (plV (.slice lA l.length lc) cores (.slice rA rs.length rc) (U : Int)).toArray 44 (0, 0))] ++ (Lm ++ (Lo ++ Lr))) (fun z => z.1 ≤ (simOut l rs cores U).length ∧ z.2 = runsIn (simOut l rs cores U) (i : Int) z.1) (fun z => (simOut l rs cores U).length - z.1) (0, 0) ⟨rfl, rfl, rfl, rfl, rfl, rfl, rfl, rfl, trivial⟩ (fun _ h => h) ⟨Nat.zero_le _, rfl⟩ fun ⟨t2, rr⟩ hj => ?_)
          obtain ⟨hj1, hj2⟩ := hj
          simp only at hj1 hj2
          have hrb := runsIn_bd (sch := simOut l rs cores U) (task := (i : Int)) t2
          rw [← hj2] at hrb
          refine .seq (.reg (.ltS rfl rfl (fun h77 => ?_) (fun h77 => ?_)))
          · have htl : t2 < (simOut l rs cores U).length := by omega
            obtain ⟨yb, yc, yA, yc2, hy1, hyr⟩ := SchO.at hS htl
            cases hy1
            have hrwb := simRow_len _ (List.getElem_mem htl)
            refine .nil (.code ?_)
            refine .seq (.tt (.skip (.code ?_)))
            refine .seq (.block (.seq (.reg (.q (.move rfl) (.q (.assign rfl) (.nil (.code ?_)))))))
            refine .seq (.reg (.q (.move rfl) (.q (.move rfl) (.q (.ix s45 rfl rfl (by omega)) (.q (.ld o37 rfl (fun w1 hz => (hyr _ _ w1 _ _ hz (fun x hx => List.mem_append_right _ (List.mem_append_right _ (List.mem_append_left _ hx)))).1)) (.q (.move rfl) (.qB (.call fn20 rfl (fun w hz => has_calls w _ ((simOut l rs cores U)[t2]) (i : Int) ((hyr _ _ w _ _ hz (fun x hx => List.mem_append_right _ (List.mem_append_right _ (List.mem_append_left _ hx)))).2 (fun x hx => List.mem_append_right _ (List.mem_append_right _ (List.mem_append_right _ hx))) (by omega)))) (fun h84 => ?_) (fun h84 => ?_))))))))
            · refine .nil (.code ?_)
              refine .tt (.reg (.q (.move rfl) (.q (.add rfl rfl (IntWalk.i64_in _ (by omega))) (.q (.assign rfl) (.nil (.inbN (.code ?_)))))))
              refine .reg (.q (.add rfl rfl (IntWalk.i64_in _ (by omega))) (.q (.move rfl) (.nil (.rd (t2 + 1, rr + 1) ⟨rfl, rfl, rfl, rfl, rfl, rfl, rfl, rfl, trivial⟩ (fun _ h => h) ⟨by simp only; omega, by simp only; rw [runs_next htl, ← hj2, if_pos (of_decide_eq_true h84)]⟩ (by simp only; omega)))))
            · refine .nil (.code ?_)
              refine .ff (.skip (.inbN (.code ?_)))
              refine .reg (.q (.add rfl rfl (IntWalk.i64_in _ (by omega))) (.q (.move rfl) (.nil (.rd (t2 + 1, rr) ⟨rfl, rfl, rfl, rfl, rfl, rfl, rfl, rfl, trivial⟩ (fun _ h => h) ⟨by simp only; omega, by simp only; rw [runs_next htl, ← hj2, if_neg (of_decide_eq_false h84)]⟩ (by simp only; omega)))))
          · have h10 : t2 = (simOut l rs cores U).length := by omega
            have hpr := pre_runs (sch := simOut l rs cores U) (task := (i : Int)) t2
            rw [← hj2] at hpr
            have hpre : preS (simOut l rs cores U) (i : Int) = (preTo (simOut l rs cores U) (i : Int) t2).1 := by rw [preS, ← h10]
            refine .nil (.code ?_)
            refine .seq (.ff (.exit (.thE (.thE (.inbX (.code ?_))))))
            refine .seq (.reg (.q (.move rfl) (.q (.move rfl) (.q (.call fn21 rfl (fun w hz => preempt_calls w _ (simOut l rs cores U) (i : Int) (hS.rd2 (by omega) (fun r hr0 => by have := simRow_len r hr0; omega) hz (fun x hx => List.mem_append_right _ (List.mem_append_right _ (List.mem_append_left _ hx))) (fun x hx => List.mem_append_right _ (List.mem_append_right _ (List.mem_append_right _ hx)))) (by omega))) (.q (.assign rfl) (.nil (.code ?_)))))))
            refine .seq (.reg (.q (.move rfl) (.q (.move rfl) (.q (.sub rfl rfl (IntWalk.i64_in _ (by omega))) (.q (maxI (r := max (rr - 1) 0) rfl rfl rfl) (.q (.cmp rfl rfl (gtF (by rw [hpre]; omega))) (.nil (.code ?_))))))))
            refine .ff (.skip (.inbN (.code ?_)))
            refine .reg (.q (.add rfl rfl (IntWalk.i64_in _ (by omega))) (.q (.move rfl) (.nil (.rd (i + 1) ⟨rfl, rfl, rfl, trivial⟩ (fun _ h => h) (by omega) (by omega)))))
        · refine .nil (.code ?_)
          refine .seq (.ff (.exit (.thE (.thE (.inbX (.code ?_))))))
          refine .seq (.reg (.q (.assign rfl) (.nil (.code ?_))))
          refine .ret (.ret1 Try.results6 rfl fun w1 hz => ⟨rfl, hz.h.below⟩)

end Go.Proofs.Ytjccenbacjhglaa.S13
