import Derived.Test.YtjccenbacjhglaaProg
import Derived.Test.YtjccenbacjhglaaK
import Derived.Test.YtjccenbacjhglaaM
import Derived.Test.YtjccenbacjhglaaIS
import Derived.Test.YtjccenbacjhglaaM2
import Derived.Test.YtjccenbacjhglaaMS
import Derived.Test.YtjccenbacjhglaaPF
import Derived.Test.YtjccenbacjhglaaSO
import Derived.Test.YtjccenbacjhglaaAU
import Derived.Test.YtjccenbacjhglaaR1
import Derived.Test.YtjccenbacjhglaaR2
import Derived.Test.YtjccenbacjhglaaR3
import Derived.Test.YtjccenbacjhglaaS1
import Derived.Test.YtjccenbacjhglaaS2
import Derived.Test.YtjccenbacjhglaaS3
import Derived.Test.YtjccenbacjhglaaS4
import Derived.Test.YtjccenbacjhglaaS5
import Derived.Test.YtjccenbacjhglaaS6
import Derived.Test.YtjccenbacjhglaaS7
import Derived.Test.YtjccenbacjhglaaS8
import Derived.Test.YtjccenbacjhglaaS9
import Derived.Test.YtjccenbacjhglaaS10
import Derived.Test.YtjccenbacjhglaaSP
set_option linter.unusedVariables false
set_option linter.unusedSimpArgs false
set_option maxRecDepth 100000
set_option maxHeartbeats 1000000
namespace Go.Proofs.Ytjccenbacjhglaa.S11
open Go Go.Proofs Go.RowKit Go.Proofs.Ytjccenbacjhglaa.K Go.Proofs.Ytjccenbacjhglaa.M Go.Proofs.Ytjccenbacjhglaa.PF Go.Proofs.Ytjccenbacjhglaa.SO Go.Proofs.Ytjccenbacjhglaa.AU Go.Proofs.Ytjccenbacjhglaa.R1 Go.Proofs.Ytjccenbacjhglaa.R2 Go.Proofs.Ytjccenbacjhglaa.R3 Go.Proofs.Ytjccenbacjhglaa.S1 Go.Proofs.Ytjccenbacjhglaa.S2 Go.Proofs.Ytjccenbacjhglaa.S3 Go.Proofs.Ytjccenbacjhglaa.S4 Go.Proofs.Ytjccenbacjhglaa.S5 Go.Proofs.Ytjccenbacjhglaa.S6 Go.Proofs.Ytjccenbacjhglaa.S7 Go.Proofs.Ytjccenbacjhglaa.S8 Go.Proofs.Ytjccenbacjhglaa.S9 Go.Proofs.Ytjccenbacjhglaa.S10 Go.Proofs.Ytjccenbacjhglaa.SP
theorem a44 : Ag Try.prog 44 4 := ⟨_, Try.underlying44, rfl, by kernel_rfl⟩
theorem f44_0 : Fld Try.prog 44 0 0 := ⟨_, _, Try.underlying44, rfl, rfl, 0, by kernel_rfl⟩
theorem f44_1 : Fld Try.prog 44 1 1 := ⟨_, _, Try.underlying44, rfl, rfl, 0, by kernel_rfl⟩
theorem f44_2 : Fld Try.prog 44 2 2 := ⟨_, _, Try.underlying44, rfl, rfl, 0, by kernel_rfl⟩
theorem fn17 : Fnc Try.prog 17 := ⟨by kernel_rfl⟩
theorem fn18 : Fnc Try.prog 18 := ⟨by kernel_rfl⟩
theorem fn22 : Fnc Try.prog 22 := ⟨by kernel_rfl⟩
theorem fn23 : Fnc Try.prog 23 := ⟨by kernel_rfl⟩
theorem fn24 : Fnc Try.prog 24 := ⟨by kernel_rfl⟩
theorem mix : Try.prog.follows .mixedOrders = true := by kernel_rfl
theorem o3 : One Try.prog 3 := ⟨_, Try.underlying3, rfl, by kernel_rfl⟩
theorem o22 : One Try.prog 22 := ⟨_, Try.underlying22, rfl, by kernel_rfl⟩
theorem o42 : One Try.prog 42 := ⟨_, Try.underlying42, rfl, by kernel_rfl⟩
theorem s22 : Slc Try.prog 22 62 3 32 [.string ⟨#[]⟩, .int .i64 0, .int .i64 0] := ⟨Try.underlying22, by kernel_rfl, rfl⟩
theorem s37 : Slc Try.prog 37 3 1 8 [.int .i64 0] := ⟨Try.underlying37, by kernel_rfl, rfl⟩
theorem s42 : Slc Try.prog 42 37 1 24 [.slice none 0 0] := ⟨Try.underlying42, by kernel_rfl, rfl⟩
theorem s45 : Slc Try.prog 45 37 1 24 [.slice none 0 0] := ⟨Try.underlying45, by kernel_rfl, rfl⟩
theorem s46 : Slc Try.prog 46 99 3 24 [.int .i64 0, .int .i64 0, .int .i64 0] := ⟨Try.underlying46, by kernel_rfl, rfl⟩

theorem simRow_len {l : List Tk} {rs : List (List Int)} {cores : Int} {U : Nat} : ∀ r ∈ simOut l rs cores U, r.length ≤ l.length := fun r hr => by
  obtain ⟨n, hn, rfl⟩ := List.getElem_of_mem hr
  have hl : (simOut l rs cores U).length = U := simTo_len U
  have e := simOut_at (l := l) (rs := rs) (cores := cores) (show n < U by omega)
  have e2 : (simOut l rs cores U)[n] = _ := (List.getElem?_eq_some_iff.1 e).2
  rw [e2]
  exact choose_len.1

theorem slotsChecked_calls (w : World) (lv rv : Value) (l : List Tk) (cores : Int) (rs : List (List Int)) (U : Int) (hl : Rd encT 3 w lv l) (hr : Rd2 w rv rs) (hR : inI rs) : Calls Try.prog 7 #[.agg (plV lv cores rv U).toArray] w fun e w' => e = .returned (.bool true) ∧ Below w.heap.size w w' := by
  obtain ⟨lA, lc, rfl⟩ : ∃ A c, lv = .slice A l.length c := by obtain ⟨A, c, h, _⟩ := hl; exact ⟨A, c, h⟩
  obtain ⟨rA, rc, rfl⟩ := hr.len
  refine enter (args := [_]) Try.func7 rfl rfl rfl (C := Z w w [] []) (Z.start (H.nil w)) ?_
  refine .seq (.reg (.box rfl fun b1 => .q (.assign rfl) (.nil (.code ?_))))
  refine .seq (.seq (.reg (.q (.call fn17 rfl (fun w hz => awake46_calls w)) (.q (.notB rfl) (.nil (.code ?_))))))
  refine .ff (.skip (.code ?_))
  refine .seq (.reg (.q (.ldOA a44 0 rfl rfl rfl rfl) (?_)))
  rcases hok : okPl l cores rs U with _ | _
  · refine .q (.call (v := .tuple #[.slice none 0 0, .slice none 0 0, .bool false]) fn18 rfl (fun w hz => simulated_no w _ _ l cores rs U (hl.below hz.h.below) (hr.below hz.h.below) hR hok)) (.q (.move rfl) (.q (.ext rfl rfl) (.q (.ext rfl rfl) (.q (.ext rfl rfl) (.q (.assign rfl) (.q (.assign rfl) (.q (.assign rfl) (.nil (.code ?_)))))))))
    refine .seq (.seq (.reg (.q (.move rfl) (.q (.notB rfl) (.nil (.code ?_))))))
    refine .tt (.seq (.reg (.q (.assign rfl) (.nil (.code ?_)))))
    refine .ret (.thR (.ret1 Try.results7 rfl fun w1 hz => ⟨rfl, hz.h.below⟩))
  · obtain ⟨q1, q2, q3, q4, q5, q6⟩ := okPl_out hok
    obtain ⟨U, rfl⟩ : ∃ n : Nat, U = (n : Int) := ⟨U.toNat, by omega⟩
    obtain ⟨_, hc0, hc1⟩ := valid_RnI q2 hR
    refine .callA fn18 rfl (fun w hz => simulated_calls w _ _ l cores rs U (hl.below hz.h.below) (hr.below hz.h.below) hR hok) fun v12 L12 p12 => ?_
    obtain ⟨ov, mv, Lo, Lr, Lm, rfl, rfl, hS, hM, hlen, hmsb⟩ := p12
    refine .world ?_ (fun _ h => zperm List.perm_append_comm h)
    refine .q (.move rfl) (.q (.ext rfl rfl) (.q (.ext rfl rfl) (.q (.ext rfl rfl) (.q (.assign rfl) (.q (.assign rfl) (.q (.assign rfl) (.nil (.code ?_))))))))
    refine .seq (.seq (.reg (.q (.move rfl) (.q (.notB rfl) (.nil (.code ?_))))))
    refine .ff (.skip (.code ?_))
    refine .seq (.reg (.q (.fld f44_0 rfl) (.q (.ldO o22 0 rfl rfl rfl) (.q (.fld f44_1 rfl) (.q (.ldO o3 0 rfl rfl rfl) (.q (.fld f44_2 rfl) (.q (.ldO o42 0 rfl rfl rfl) (.q (.move rfl) (.callA fn22 rfl (fun w hz => check46_calls w _ _ _ l cores rs (simOut l rs cores U) (hl.below hz.h.below) (hr.below hz.h.below) (hS.rd2 (by omega) (fun r hr0 => by have := simRow_len r hr0; omega) hz (fun x hx => List.mem_append_right _ (List.mem_append_right _ (List.mem_append_left _ hx))) (fun x hx => List.mem_append_right _ (List.mem_append_right _ (List.mem_append_right _ hx)))) hR q2 (by omega) (by omega) (sim_good hc0)) fun v26 L26 p26 => ?_)))))))))
    rw [sim_ms] at p26
    obtain ⟨mv2, rfl, hM2⟩ := p26
    refine .q (.move rfl) (.q (.ext rfl rfl) (.q (.ext rfl rfl) (.q (.assign rfl) (.q (.assign rfl) (.nil (.code ?_))))))
    refine .seq (.reg (.q (.move rfl) (.q (.cmp rfl rfl (eqT (rfl))) (.q (.move rfl) (.q (.move rfl) (.callA fn24 rfl (fun w hz => misses46_calls w _ (simMs l rs cores U) (OS.rd encM_len hM (by omega) hz (fun x hx => List.mem_append_right _ (List.mem_append_right _ (List.mem_append_left _ hx)))) (by omega)) fun v33 L33 p33 => .q (.move rfl) (.callA fn24 rfl (fun w hz => misses46_calls w _ (simMs l rs cores U) (OS.rd encM_len hM2 (by omega) hz (fun x hx => List.mem_append_right _ (List.mem_append_left _ hx))) (by omega)) fun v35 L35 p35 => .q (.call (v := .bool true) fn23 rfl (fun w hz => same46_calls w _ _ (simMs l rs cores U) (OS.rd encM_len p33 (by omega) hz (fun x hx => List.mem_append_right _ (List.mem_append_left _ hx))) (OS.rd encM_len p35 (by omega) hz (fun x hx => List.mem_append_left _ hx)))) (.q (.pickT rfl rfl) (.q (.assign rfl) (.nil (.code ?_)))))))))))
    refine .ret (.ret1 Try.results7 rfl fun w1 hz => ⟨rfl, hz.h.below⟩)

end Go.Proofs.Ytjccenbacjhglaa.S11
