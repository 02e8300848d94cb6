import Derived.Test.YtjccenbacjhglaaGreatDoorProg
import Derived.Test.YtjccenbacjhglaaGreatDoorK
import Derived.Test.YtjccenbacjhglaaGreatDoorM2
import Derived.Test.YtjccenbacjhglaaGreatDoorKS
import Derived.Test.YtjccenbacjhglaaGreatDoorKB
import Derived.Test.YtjccenbacjhglaaGreatDoorST
import Derived.Test.YtjccenbacjhglaaGreatDoorSH
import Derived.Test.YtjccenbacjhglaaGreatDoorSC
set_option linter.unusedVariables false
set_option linter.unusedSimpArgs false
set_option maxRecDepth 100000
set_option maxHeartbeats 1000000
namespace Go.Proofs.YtjccenbacjhglaaGreatDoor.T1
open Go Go.Proofs Go.RowKit Go.Proofs.YtjccenbacjhglaaGreatDoor.K Go.Proofs.YtjccenbacjhglaaGreatDoor.M Go.Proofs.YtjccenbacjhglaaGreatDoor.ST Go.Proofs.YtjccenbacjhglaaGreatDoor.SC
theorem a98 : Ag Tryz.prog 98 8 := ⟨_, Tryz.underlying98, rfl, by kernel_rfl⟩
theorem fn18 : Fnc Tryz.prog 18 := ⟨by kernel_rfl⟩
theorem fn61 : Fnc Tryz.prog 61 := ⟨by kernel_rfl⟩
theorem mix : Tryz.prog.follows .mixedOrders = true := by kernel_rfl
theorem o9 : One Tryz.prog 9 := ⟨_, Tryz.underlying9, rfl, by kernel_rfl⟩
theorem st98 : ArB Tryz.prog 98 [.string ⟨#[]⟩, .string ⟨#[]⟩, .string ⟨#[]⟩, .string ⟨#[]⟩, .string ⟨#[]⟩, .string ⟨#[]⟩, .string ⟨#[]⟩, .string ⟨#[]⟩] 9 1 := ⟨⟨by kernel_rfl⟩, ⟨_, Tryz.underlying98⟩, by kernel_rfl⟩
theorem z98 : Zr Tryz.prog 98 [.string ⟨#[]⟩, .string ⟨#[]⟩, .string ⟨#[]⟩, .string ⟨#[]⟩, .string ⟨#[]⟩, .string ⟨#[]⟩, .string ⟨#[]⟩, .string ⟨#[]⟩] := ⟨by kernel_rfl⟩

def wcells : List Value := kinds.map sv
theorem numOf_of {s : By} {n : Int} (h : Lib.atoiAll s = .ok n) : numOf s = if Lib.itoa n = s then some n else none := by unfold numOf; rw [h]

theorem word_calls (w : World) (k : Int) (h0 : 0 ≤ k) (h1 : k ≤ 255) : Calls Tryz.prog 19 #[.int .u8 k] w fun r w' => r = .returned (sv (wordOf k)) ∧ Z w w [] [] w' := by
  refine enter (args := [_]) Tryz.func19 rfl rfl rfl (C := Z w w [] []) (Z.start (H.nil w)) ?_
  refine .seq (.reg (.q (.assign rfl) (.nil (.code ?_))))
  refine .seq (.reg (.q (.buildA st98 rfl rfl) (.alloc z98 fun b3 => .stA a98 0 rfl rfl rfl rfl rfl rfl (.nil (.code ?_)))))
  refine .seq (.seq (.reg (.q (.move rfl) (.eqS rfl rfl (fun h6 => ?_) (fun h6 => ?_)))))
  · refine .q (.move rfl) (.skip (.skip (.skip (.q (.pickT rfl rfl) (.nil (.code ?_))))))
    refine .tt (.seq (.reg (.q (.assign rfl) (.nil (.code ?_)))))
    refine .ret (.thR (.ret1 Tryz.results19 rfl fun w1 hz => ⟨by unfold wordOf; rw [if_neg (by omega)]; rfl, hz.sublist (List.nil_sublist _)⟩))
  · refine .q (.move rfl) (.q (.move rfl) (.q (.conv Tryz.underlying5 Tryz.underlying3 rfl (IntWalk.i64_in _ (by omega))) (.geS rfl rfl (fun h10 => ?_) (fun h10 => ?_))))
    · refine .q (.pickF rfl rfl) (.nil (.code ?_))
      refine .tt (.seq (.reg (.q (.assign rfl) (.nil (.code ?_)))))
      refine .ret (.thR (.ret1 Tryz.results19 rfl fun w1 hz => ⟨by unfold wordOf; rw [if_neg (by omega)]; rfl, hz.sublist (List.nil_sublist _)⟩))
    · refine .q (.pickF rfl rfl) (.nil (.code ?_))
      refine .ff (.skip (.code ?_))
      refine .seq (.reg (?_))
      have hk : 1 ≤ k ∧ k ≤ 7 := by omega
      obtain ⟨j, hj⟩ : ∃ j : Nat, k = j := ⟨k.toNat, by omega⟩
      subst hj
      have hw : wcells[j]? = some (sv (wordOf j)) := by
        have h7 : j = 1 ∨ j = 2 ∨ j = 3 ∨ j = 4 ∨ j = 5 ∨ j = 6 ∨ j = 7 := by omega
        rcases h7 with rfl | rfl | rfl | rfl | rfl | rfl | rfl <;> rfl
      refine .q (.move rfl) (.q (.ixP Tryz.underlying98 (k := 1) (by kernel_rfl) rfl rfl (by omega)) (.q (.ldO (v := sv (wordOf j)) o9 0 rfl rfl (show wcells[0 + j * 1]? = _ by rw [Nat.zero_add, Nat.mul_one]; exact hw)) (.q (.assign rfl) (.nil (.code ?_)))))
      refine .ret (.ret1 Tryz.results19 rfl fun w1 hz => ⟨rfl, hz.sublist (List.nil_sublist _)⟩)

theorem number_calls (w : World) (hg : GV w) (s : By) (hs : s.length ≤ 1000000000) : Calls Tryz.prog 36 #[sv s] w fun r w' => ∃ v L', r = .returned v ∧ Z w w [] L' w' ∧ (L' = [] ∧ ∃ n, v = .tuple #[.int .i64 n, .bool (numOf s).isSome] ∧ ∀ u, numOf s = some u → n = u) := by
  refine enter (args := [_]) Tryz.func36 rfl rfl rfl (C := Z w w [] []) (Z.start (H.nil w)) ?_
  refine .seq (.reg (.q (.assign rfl) (.q (.assign rfl) (.nil (.code ?_)))))
  refine .seq (.reg (.q (.move rfl) (.callA fn61 rfl (fun w hz => atoi_calls w (hg.z hz) s (by omega)) fun v8 L8 p8 => ?_)))
  obtain ⟨rfl, n, e, b, rfl, he, hy, hn⟩ := p8
  refine .q (.move rfl) (.q (.ext rfl rfl) (.q (.ext rfl rfl) (.q (.assign rfl) (.q (.assign rfl) (.nil (.code ?_))))))
  refine .seq (.reg (?_))
  rcases he with ⟨rfl, rfl⟩ | ⟨⟨te, pe, rfl⟩, rfl⟩
  · refine .q (.move rfl) (.q (.move rfl) (.q (.eqI (b := true) Tryz.underlying51 rfl (.inl ⟨rfl, rfl⟩)) (.q (.move rfl) (.q (.move rfl) (?_)))))
    have hnr : R64 n := atoi_r64 (hy rfl)
    refine .q (.call fn18 rfl (fun w hz => itoa_calls w (hg.z hz) n hnr)) (.q (.move rfl) (.q (.eqS' rfl rfl) (.q (.pickT rfl rfl) (.q (.assign rfl) (.q (.assign rfl) (.nil (.code ?_)))))))
    refine .ret (.ret2 Tryz.results36 rfl rfl fun w1 hz => ⟨_, [], rfl, hz.sublist (List.nil_sublist _), rfl, n, by rw [numOf_of (hy rfl)]; split <;> simp_all, fun u hu => by rw [numOf_of (hy rfl)] at hu; split at hu <;> simp_all⟩)
  · refine .q (.move rfl) (.q (.move rfl) (.q (.eqI (b := false) Tryz.underlying51 rfl (.inr ⟨⟨_, _, rfl⟩, rfl⟩)) (.q (.move rfl) (.skip (.skip (.skip (.skip (.q (.pickF rfl rfl) (.q (.assign rfl) (.q (.assign rfl) (.nil (.code ?_))))))))))))
    refine .ret (.ret2 Tryz.results36 rfl rfl fun w1 hz => ⟨_, [], rfl, hz.sublist (List.nil_sublist _), rfl, n, by rw [hn rfl]; rfl, fun u hu => by rw [hn rfl] at hu; cases hu⟩)

end Go.Proofs.YtjccenbacjhglaaGreatDoor.T1
