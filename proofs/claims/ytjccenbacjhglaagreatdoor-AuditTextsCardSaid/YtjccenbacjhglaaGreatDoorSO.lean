import Derived.Test.YtjccenbacjhglaaGreatDoorProg
import Derived.Test.YtjccenbacjhglaaGreatDoorK
import Derived.Test.YtjccenbacjhglaaGreatDoorM
import Derived.Test.YtjccenbacjhglaaGreatDoorIS
import Derived.Test.YtjccenbacjhglaaGreatDoorM2
set_option linter.unusedVariables false
set_option linter.unusedSimpArgs false
set_option maxRecDepth 100000
set_option maxHeartbeats 1000000
namespace Go.Proofs.YtjccenbacjhglaaGreatDoor.SO
open Go Go.Proofs Go.RowKit Go.Proofs.YtjccenbacjhglaaGreatDoor.K Go.Proofs.YtjccenbacjhglaaGreatDoor.M
theorem a26 : Ag Tryz.prog 26 8 := ⟨_, Tryz.underlying26, rfl, by kernel_rfl⟩
theorem a172 : Ag Tryz.prog 172 6 := ⟨_, Tryz.underlying172, rfl, by kernel_rfl⟩
theorem fn108 : Fnc Tryz.prog 108 := ⟨by kernel_rfl⟩
theorem fn109 : Fnc Tryz.prog 109 := ⟨by kernel_rfl⟩
theorem fn143 : Fnc Tryz.prog 143 := ⟨by kernel_rfl⟩
theorem fn149 : Fnc Tryz.prog 149 := ⟨by kernel_rfl⟩
theorem fn174 : Fnc Tryz.prog 174 := ⟨by kernel_rfl⟩
theorem fn176 : Fnc Tryz.prog 176 := ⟨by kernel_rfl⟩
theorem fn203 : Fnc Tryz.prog 203 := ⟨by kernel_rfl⟩
theorem fn204 : Fnc Tryz.prog 204 := ⟨by kernel_rfl⟩
theorem mix : Tryz.prog.follows .mixedOrders = true := by kernel_rfl
theorem o3 : One Tryz.prog 3 := ⟨_, Tryz.underlying3, rfl, by kernel_rfl⟩
theorem s22 : Slc Tryz.prog 22 26 8 64 [.int .i64 0, .int .i64 0, .int .i64 0, .int .i64 0, .int .u8 0, .int .i64 0, .int .i64 0, .int .i64 0] := ⟨Tryz.underlying22, by kernel_rfl, rfl⟩
theorem s41 : Slc Tryz.prog 41 3 1 8 [.int .i64 0] := ⟨Tryz.underlying41, by kernel_rfl, rfl⟩
theorem s123 : Slc Tryz.prog 123 172 6 56 [.int .i64 0, .string ⟨#[]⟩, .int .i64 0, .int .i64 0, .int .i64 0, .int .i64 0] := ⟨Tryz.underlying123, by kernel_rfl, rfl⟩

theorem wrapU64 {x : Nat} (h : x < 18446744073709551616) : IntKind.u64.wrap (x : Int) = (x : Int) := by
  simp only [IntKind.wrap, show IntKind.u64.signed = false from rfl, Bool.false_and, Bool.false_eq_true, if_false, show IntKind.u64.bits = 64 from rfl]
  omega
theorem wrapU8 {x : Nat} (h : x < 256) : IntKind.u8.wrap (x : Int) = (x : Int) := by
  simp only [IntKind.wrap, show IntKind.u8.signed = false from rfl, Bool.false_and, Bool.false_eq_true, if_false, show IntKind.u8.bits = 8 from rfl]
  omega

theorem len64_calls (w : World) (x : Nat) (hx : x ≤ 12) : Calls Tryz.prog 143 #[.int .u64 x] w fun e w' => ∃ v L', e = .returned v ∧ Z w w [] L' w' ∧ L' = [] := by
  refine enter (args := [_]) Tryz.func143 rfl rfl rfl (C := Z w w [] []) (Z.start (H.nil w)) ?_
  refine .seq (.reg (.q (.assign rfl) (.nil (.code ?_))))
  refine .seq (.seq (.reg (.q (.move rfl) (.q (.cmp rfl rfl (geF (by omega))) (.nil (.code ?_))))))
  refine .ff (.skip (.code ?_))
  refine .seq (.seq (.reg (.q (.move rfl) (.q (.cmp rfl rfl (geF (by omega))) (.nil (.code ?_))))))
  refine .ff (.skip (.code ?_))
  refine .seq (.seq (.reg (.q (.move rfl) (.q (.cmp rfl rfl (geF (by omega))) (.nil (.code ?_))))))
  refine .ff (.skip (.code ?_))
  refine .seq (.reg (.q (.move rfl) (.q (.move rfl) (.q (.conv (r := (x : Int)) Tryz.underlying196 Tryz.underlying5 rfl (wrapU8 (by omega))) (.q (.idxL (j := x) Tryz.underlying9 rfl rfl (Nat.lt_of_lt_of_le (show x < 256 by omega) (Nat.le_of_eq rfl))) (.q (.conv Tryz.underlying5 Tryz.underlying3 rfl rfl) (.q (.add rfl rfl (rfl)) (.q (.assign rfl) (.nil (.code ?_))))))))))
  refine .ret (.ret1 Tryz.results143 rfl fun w1 hz => ⟨_, [], rfl, hz, rfl⟩)

theorem len_calls (w : World) (x : Nat) (hx : x ≤ 12) : Calls Tryz.prog 109 #[.int .u64 x] w fun e w' => ∃ v L', e = .returned v ∧ Z w w [] L' w' ∧ L' = [] := by
  refine enter (args := [_]) Tryz.func109 rfl rfl rfl (C := Z w w [] []) (Z.start (H.nil w)) ?_
  refine .seq (.reg (.q (.assign rfl) (.nil (.code ?_))))
  refine .seq (.ff (.skip (.code ?_)))
  refine .seq (.reg (.q (.move rfl) (.callA fn143 rfl (fun w hz => len64_calls w x hx) fun v7 L7 p7 => .q (.assign rfl) (.nil (.code ?_)))))
  refine .ret (.ret1 Tryz.results109 rfl fun w1 hz => ⟨_, [], rfl, hz.sublist (List.nil_sublist _), rfl⟩)

theorem mul64_1 (w : World) : Calls Tryz.prog 203 #[.int .u64 1, .int .u64 1] w fun e w' => e = .returned (.tuple #[.int .u64 0, .int .u64 1]) ∧ Z w w [] [] w' := by
  refine enter (args := [_, _]) Tryz.func203 rfl rfl rfl (C := Z w w [] []) (Z.start (H.nil w)) ?_
  refine .seq (.reg (.q (.assign rfl) (.q (.assign rfl) (.nil (.code ?_)))))
  refine .seq (.reg (.q (.move rfl) (.q (.and rfl rfl (show _ = (1 : Int) by rfl)) (.q (.assign rfl) (.nil (.code ?_))))))
  refine .seq (.reg (.q (.move rfl) (.q (.shr rfl rfl (by omega) (show _ = (0 : Int) by rfl)) (.q (.assign rfl) (.nil (.code ?_))))))
  refine .seq (.reg (.q (.move rfl) (.q (.and rfl rfl (show _ = (1 : Int) by rfl)) (.q (.assign rfl) (.nil (.code ?_))))))
  refine .seq (.reg (.q (.move rfl) (.q (.shr rfl rfl (by omega) (show _ = (0 : Int) by rfl)) (.q (.assign rfl) (.nil (.code ?_))))))
  refine .seq (.reg (.q (.move rfl) (.q (.move rfl) (.q (.mul rfl rfl (show _ = (1 : Int) by rfl)) (.q (.assign rfl) (.nil (.code ?_)))))))
  refine .seq (.reg (.q (.move rfl) (.q (.move rfl) (.q (.mul rfl rfl (show _ = (0 : Int) by rfl)) (.q (.move rfl) (.q (.shr rfl rfl (by omega) (show _ = (0 : Int) by rfl)) (.q (.add rfl rfl (show _ = (0 : Int) by rfl)) (.q (.assign rfl) (.nil (.code ?_))))))))))
  refine .seq (.reg (.q (.move rfl) (.q (.and rfl rfl (show _ = (0 : Int) by rfl)) (.q (.assign rfl) (.nil (.code ?_))))))
  refine .seq (.reg (.q (.move rfl) (.q (.shr rfl rfl (by omega) (show _ = (0 : Int) by rfl)) (.q (.assign rfl) (.nil (.code ?_))))))
  refine .seq (.reg (.q (.move rfl) (.q (.move rfl) (.q (.move rfl) (.q (.mul rfl rfl (show _ = (0 : Int) by rfl)) (.q (.add rfl rfl (show _ = (0 : Int) by rfl)) (.q (.assign rfl) (.nil (.code ?_)))))))))
  refine .seq (.reg (.q (.move rfl) (.q (.move rfl) (.q (.mul rfl rfl (show _ = (0 : Int) by rfl)) (.q (.move rfl) (.q (.add rfl rfl (show _ = (0 : Int) by rfl)) (.q (.move rfl) (.q (.shr rfl rfl (by omega) (show _ = (0 : Int) by rfl)) (.q (.add rfl rfl (show _ = (0 : Int) by rfl)) (.q (.assign rfl) (.nil (.code ?_))))))))))))
  refine .seq (.reg (.q (.move rfl) (.q (.move rfl) (.q (.mul rfl rfl (show _ = (1 : Int) by rfl)) (.q (.assign rfl) (.nil (.code ?_)))))))
  refine .ret (.ret2 Tryz.results203 rfl rfl fun w1 hz => ⟨rfl, hz⟩)

theorem mul64_2 (w : World) : Calls Tryz.prog 203 #[.int .u64 1, .int .u64 2] w fun e w' => e = .returned (.tuple #[.int .u64 0, .int .u64 2]) ∧ Z w w [] [] w' := by
  refine enter (args := [_, _]) Tryz.func203 rfl rfl rfl (C := Z w w [] []) (Z.start (H.nil w)) ?_
  refine .seq (.reg (.q (.assign rfl) (.q (.assign rfl) (.nil (.code ?_)))))
  refine .seq (.reg (.q (.move rfl) (.q (.and rfl rfl (show _ = (1 : Int) by rfl)) (.q (.assign rfl) (.nil (.code ?_))))))
  refine .seq (.reg (.q (.move rfl) (.q (.shr rfl rfl (by omega) (show _ = (0 : Int) by rfl)) (.q (.assign rfl) (.nil (.code ?_))))))
  refine .seq (.reg (.q (.move rfl) (.q (.and rfl rfl (show _ = (2 : Int) by rfl)) (.q (.assign rfl) (.nil (.code ?_))))))
  refine .seq (.reg (.q (.move rfl) (.q (.shr rfl rfl (by omega) (show _ = (0 : Int) by rfl)) (.q (.assign rfl) (.nil (.code ?_))))))
  refine .seq (.reg (.q (.move rfl) (.q (.move rfl) (.q (.mul rfl rfl (show _ = (2 : Int) by rfl)) (.q (.assign rfl) (.nil (.code ?_)))))))
  refine .seq (.reg (.q (.move rfl) (.q (.move rfl) (.q (.mul rfl rfl (show _ = (0 : Int) by rfl)) (.q (.move rfl) (.q (.shr rfl rfl (by omega) (show _ = (0 : Int) by rfl)) (.q (.add rfl rfl (show _ = (0 : Int) by rfl)) (.q (.assign rfl) (.nil (.code ?_))))))))))
  refine .seq (.reg (.q (.move rfl) (.q (.and rfl rfl (show _ = (0 : Int) by rfl)) (.q (.assign rfl) (.nil (.code ?_))))))
  refine .seq (.reg (.q (.move rfl) (.q (.shr rfl rfl (by omega) (show _ = (0 : Int) by rfl)) (.q (.assign rfl) (.nil (.code ?_))))))
  refine .seq (.reg (.q (.move rfl) (.q (.move rfl) (.q (.move rfl) (.q (.mul rfl rfl (show _ = (0 : Int) by rfl)) (.q (.add rfl rfl (show _ = (0 : Int) by rfl)) (.q (.assign rfl) (.nil (.code ?_)))))))))
  refine .seq (.reg (.q (.move rfl) (.q (.move rfl) (.q (.mul rfl rfl (show _ = (0 : Int) by rfl)) (.q (.move rfl) (.q (.add rfl rfl (show _ = (0 : Int) by rfl)) (.q (.move rfl) (.q (.shr rfl rfl (by omega) (show _ = (0 : Int) by rfl)) (.q (.add rfl rfl (show _ = (0 : Int) by rfl)) (.q (.assign rfl) (.nil (.code ?_))))))))))))
  refine .seq (.reg (.q (.move rfl) (.q (.move rfl) (.q (.mul rfl rfl (show _ = (2 : Int) by rfl)) (.q (.assign rfl) (.nil (.code ?_)))))))
  refine .ret (.ret2 Tryz.results203 rfl rfl fun w1 hz => ⟨rfl, hz⟩)

theorem mul64_3 (w : World) : Calls Tryz.prog 203 #[.int .u64 1, .int .u64 3] w fun e w' => e = .returned (.tuple #[.int .u64 0, .int .u64 3]) ∧ Z w w [] [] w' := by
  refine enter (args := [_, _]) Tryz.func203 rfl rfl rfl (C := Z w w [] []) (Z.start (H.nil w)) ?_
  refine .seq (.reg (.q (.assign rfl) (.q (.assign rfl) (.nil (.code ?_)))))
  refine .seq (.reg (.q (.move rfl) (.q (.and rfl rfl (show _ = (1 : Int) by rfl)) (.q (.assign rfl) (.nil (.code ?_))))))
  refine .seq (.reg (.q (.move rfl) (.q (.shr rfl rfl (by omega) (show _ = (0 : Int) by rfl)) (.q (.assign rfl) (.nil (.code ?_))))))
  refine .seq (.reg (.q (.move rfl) (.q (.and rfl rfl (show _ = (3 : Int) by rfl)) (.q (.assign rfl) (.nil (.code ?_))))))
  refine .seq (.reg (.q (.move rfl) (.q (.shr rfl rfl (by omega) (show _ = (0 : Int) by rfl)) (.q (.assign rfl) (.nil (.code ?_))))))
  refine .seq (.reg (.q (.move rfl) (.q (.move rfl) (.q (.mul rfl rfl (show _ = (3 : Int) by rfl)) (.q (.assign rfl) (.nil (.code ?_)))))))
  refine .seq (.reg (.q (.move rfl) (.q (.move rfl) (.q (.mul rfl rfl (show _ = (0 : Int) by rfl)) (.q (.move rfl) (.q (.shr rfl rfl (by omega) (show _ = (0 : Int) by rfl)) (.q (.add rfl rfl (show _ = (0 : Int) by rfl)) (.q (.assign rfl) (.nil (.code ?_))))))))))
  refine .seq (.reg (.q (.move rfl) (.q (.and rfl rfl (show _ = (0 : Int) by rfl)) (.q (.assign rfl) (.nil (.code ?_))))))
  refine .seq (.reg (.q (.move rfl) (.q (.shr rfl rfl (by omega) (show _ = (0 : Int) by rfl)) (.q (.assign rfl) (.nil (.code ?_))))))
  refine .seq (.reg (.q (.move rfl) (.q (.move rfl) (.q (.move rfl) (.q (.mul rfl rfl (show _ = (0 : Int) by rfl)) (.q (.add rfl rfl (show _ = (0 : Int) by rfl)) (.q (.assign rfl) (.nil (.code ?_)))))))))
  refine .seq (.reg (.q (.move rfl) (.q (.move rfl) (.q (.mul rfl rfl (show _ = (0 : Int) by rfl)) (.q (.move rfl) (.q (.add rfl rfl (show _ = (0 : Int) by rfl)) (.q (.move rfl) (.q (.shr rfl rfl (by omega) (show _ = (0 : Int) by rfl)) (.q (.add rfl rfl (show _ = (0 : Int) by rfl)) (.q (.assign rfl) (.nil (.code ?_))))))))))))
  refine .seq (.reg (.q (.move rfl) (.q (.move rfl) (.q (.mul rfl rfl (show _ = (3 : Int) by rfl)) (.q (.assign rfl) (.nil (.code ?_)))))))
  refine .ret (.ret2 Tryz.results203 rfl rfl fun w1 hz => ⟨rfl, hz⟩)

theorem mul64_4 (w : World) : Calls Tryz.prog 203 #[.int .u64 1, .int .u64 4] w fun e w' => e = .returned (.tuple #[.int .u64 0, .int .u64 4]) ∧ Z w w [] [] w' := by
  refine enter (args := [_, _]) Tryz.func203 rfl rfl rfl (C := Z w w [] []) (Z.start (H.nil w)) ?_
  refine .seq (.reg (.q (.assign rfl) (.q (.assign rfl) (.nil (.code ?_)))))
  refine .seq (.reg (.q (.move rfl) (.q (.and rfl rfl (show _ = (1 : Int) by rfl)) (.q (.assign rfl) (.nil (.code ?_))))))
  refine .seq (.reg (.q (.move rfl) (.q (.shr rfl rfl (by omega) (show _ = (0 : Int) by rfl)) (.q (.assign rfl) (.nil (.code ?_))))))
  refine .seq (.reg (.q (.move rfl) (.q (.and rfl rfl (show _ = (4 : Int) by rfl)) (.q (.assign rfl) (.nil (.code ?_))))))
  refine .seq (.reg (.q (.move rfl) (.q (.shr rfl rfl (by omega) (show _ = (0 : Int) by rfl)) (.q (.assign rfl) (.nil (.code ?_))))))
  refine .seq (.reg (.q (.move rfl) (.q (.move rfl) (.q (.mul rfl rfl (show _ = (4 : Int) by rfl)) (.q (.assign rfl) (.nil (.code ?_)))))))
  refine .seq (.reg (.q (.move rfl) (.q (.move rfl) (.q (.mul rfl rfl (show _ = (0 : Int) by rfl)) (.q (.move rfl) (.q (.shr rfl rfl (by omega) (show _ = (0 : Int) by rfl)) (.q (.add rfl rfl (show _ = (0 : Int) by rfl)) (.q (.assign rfl) (.nil (.code ?_))))))))))
  refine .seq (.reg (.q (.move rfl) (.q (.and rfl rfl (show _ = (0 : Int) by rfl)) (.q (.assign rfl) (.nil (.code ?_))))))
  refine .seq (.reg (.q (.move rfl) (.q (.shr rfl rfl (by omega) (show _ = (0 : Int) by rfl)) (.q (.assign rfl) (.nil (.code ?_))))))
  refine .seq (.reg (.q (.move rfl) (.q (.move rfl) (.q (.move rfl) (.q (.mul rfl rfl (show _ = (0 : Int) by rfl)) (.q (.add rfl rfl (show _ = (0 : Int) by rfl)) (.q (.assign rfl) (.nil (.code ?_)))))))))
  refine .seq (.reg (.q (.move rfl) (.q (.move rfl) (.q (.mul rfl rfl (show _ = (0 : Int) by rfl)) (.q (.move rfl) (.q (.add rfl rfl (show _ = (0 : Int) by rfl)) (.q (.move rfl) (.q (.shr rfl rfl (by omega) (show _ = (0 : Int) by rfl)) (.q (.add rfl rfl (show _ = (0 : Int) by rfl)) (.q (.assign rfl) (.nil (.code ?_))))))))))))
  refine .seq (.reg (.q (.move rfl) (.q (.move rfl) (.q (.mul rfl rfl (show _ = (4 : Int) by rfl)) (.q (.assign rfl) (.nil (.code ?_)))))))
  refine .ret (.ret2 Tryz.results203 rfl rfl fun w1 hz => ⟨rfl, hz⟩)

theorem mul64_calls (w : World) (y : Nat) (h1 : 1 ≤ y) (h2 : y ≤ 4) : Calls Tryz.prog 203 #[.int .u64 1, .int .u64 (y : Int)] w fun e w' => e = .returned (.tuple #[.int .u64 0, .int .u64 (y : Int)]) ∧ Z w w [] [] w' := by
  obtain rfl | rfl | rfl | rfl : y = 1 ∨ y = 2 ∨ y = 3 ∨ y = 4 := by omega
  · exact mul64_1 w
  · exact mul64_2 w
  · exact mul64_3 w
  · exact mul64_4 w

theorem mul_calls (w : World) (y : Nat) (h1 : 1 ≤ y) (h2 : y ≤ 4) : Calls Tryz.prog 174 #[.int .u64 1, .int .u64 (y : Int)] w fun e w' => e = .returned (.tuple #[.int .u64 0, .int .u64 (y : Int)]) ∧ Z w w [] [] w' := by
  refine enter (args := [_, _]) Tryz.func174 rfl rfl rfl (C := Z w w [] []) (Z.start (H.nil w)) ?_
  refine .seq (.reg (.q (.assign rfl) (.q (.assign rfl) (.nil (.code ?_)))))
  refine .seq (.ff (.skip (.code ?_)))
  refine .seq (.reg (.q (.move rfl) (.q (.move rfl) (.q (.call fn203 rfl (fun w hz => mul64_calls w y h1 h2)) (.q (.move rfl) (.q (.ext rfl rfl) (.q (.ext rfl rfl) (.q (.assign rfl) (.q (.assign rfl) (.nil (.code ?_)))))))))))
  refine .seq (.reg (.q (.move rfl) (.q (.move rfl) (.q (.assign rfl) (.q (.assign rfl) (.nil (.code ?_)))))))
  refine .ret (.ret2 Tryz.results174 rfl rfl fun w1 hz => ⟨rfl, hz⟩)


theorem wrap64 {x : Nat} (h : x < 9223372036854775808) : IntKind.i64.wrap (x : Int) = (x : Int) := IntWalk.i64_in _ (by omega)
theorem flat_one {α : Type} (f : α → Value) (xs : List α) : xs.flatMap (fun x => [f x]) = xs.map f := by
  induction xs with
  | nil => rfl
  | cons x xs ih => rw [List.flatMap_cons, ih]; rfl
theorem flat_rep (m : Nat) (v : Value) : (List.replicate m [v]).flatten = List.replicate m v := by
  induction m with
  | zero => rfl
  | succ m ih => rw [List.replicate_succ, List.flatten_cons, ih, List.replicate_succ]; rfl
theorem rep_init {k : Nat} {u v : Value} : (List.replicate k v).take 0 ++ [u] ++ (List.replicate k v).drop (0 + [u].length) = List.replicate 1 u ++ List.replicate (k - 1) v := by simp
theorem rep_copy {n k : Nat} {u v : Value} (h : n ≤ k) (hn : 0 < n) : (List.replicate n u ++ List.replicate (k - n) v).take n ++ List.replicate (min n (k - n)) u ++ (List.replicate n u ++ List.replicate (k - n) v).drop (n + (List.replicate (min n (k - n)) u).length) = List.replicate (n + min n (k - n)) u ++ List.replicate (k - (n + min n (k - n))) v := by
  rw [List.take_left' (List.length_replicate ..), List.length_replicate, List.drop_append, List.length_replicate, List.drop_of_length_le (by simp), List.drop_replicate]
  rw [List.nil_append, List.append_assoc, ← List.append_assoc, List.replicate_append_replicate]
  congr 2
  omega

theorem repeat_calls (w : World) (k xb c : Nat) (h1 : 1 ≤ k) (h2 : k ≤ 4) (hc : w.cell? ⟨xb, 0, none⟩ = some (.int .i64 (-1))) : Calls Tryz.prog 127 #[.slice (some ⟨xb, 0, none⟩) 1 c, .int .i64 (k : Int)] w fun e w' => ∃ v L', e = .returned v ∧ Z w w [] L' w' ∧ (∃ b, v = .slice (some ⟨b, 0, none⟩) k k ∧ L' = [(b, .cells (List.replicate k (.int .i64 (-1))).toArray 3 (0, 0))]) := by
  refine enter (args := [_, _]) Tryz.func127 rfl rfl rfl (C := Z w w [] []) (Z.start (H.nil w)) ?_
  refine .seq (.reg (.q (.assign rfl) (.nil (.code ?_))))
  refine .seq (.seq (.reg (.q (.move rfl) (.q (.cmp rfl rfl (ltF (by omega))) (.nil (.code ?_))))))
  refine .ff (.skip (.code ?_))
  refine .seq (.reg (.q (.move rfl) (.q (.lenS s41.t rfl) (.q (.conv (r := ((1 : Nat) : Int)) Tryz.underlying3 Tryz.underlying105 rfl (wrapU64 (by omega))) (.q (.move rfl) (.q (.conv (r := (k : Int)) Tryz.underlying3 Tryz.underlying105 rfl (wrapU64 (by omega))) (.q (.call fn174 rfl (fun w hz => mul_calls w k h1 h2)) (.q (.move rfl) (.q (.ext rfl rfl) (.q (.ext rfl rfl) (.q (.assign rfl) (.q (.assign rfl) (.nil (.code ?_))))))))))))))
  refine .seq (.seq (.reg (.q (.move rfl) (.q (.cmp rfl rfl (gtF (by omega))) (.q (.move rfl) (.q (.move rfl) (.q (.cmp rfl rfl (gtF (by omega))) (.q (.pickF rfl rfl) (.nil (.code ?_))))))))))
  refine .ff (.skip (.code ?_))
  refine .seq (.reg (.q (.move rfl) (.q (.conv (r := (k : Int)) Tryz.underlying105 Tryz.underlying3 rfl (wrap64 (by omega))) (.mk s41 rfl rfl (by omega) (by omega) (by omega) fun b7 => (.q (.assign rfl) (.nil (.code ?_)))))))
  refine .seq (.reg (?_))
  rw [flat_rep]
  refine .q (.move rfl) (.q (.move rfl) (.copy s41 (vs := [Value.int .i64 (-1)]) 0 rfl rfl (by simp; omega) (fun w1 hz j hj => by have e : j = 0 := (by simpa using hj); subst e; exact hz.old hc) (by simp [Value.oneCell']) rfl (by simp; omega) (?_)))
  rw [show min 1 k = 1 by omega]
  refine .q (.assign rfl) (.nil (.code ?_))
  refine .seq (.block (.lp (fun n : Nat => [(0, .slice (some ⟨xb, 0, none⟩) 1 c), (7, .slice (some ⟨b7, 0, none⟩) k k), (8, .int .i64 (n : Int))]) (fun n => [(b7, .cells (List.replicate n (Value.int .i64 (-1)) ++ List.replicate (k - n) (Value.int .i64 0)).toArray 3 (0, 0))]) (fun n => 1 ≤ n ∧ n ≤ k) (fun n => k - n) 1 ⟨rfl, rfl, rfl, trivial⟩ (fun _ h => by rw [rep_init] at h; exact h) ⟨by omega, by omega⟩ fun n hk => ?_))
  obtain ⟨hk1, hk2⟩ := hk
  refine .seq (.seq (.reg (.q (.move rfl) (.q (.move rfl) (.q (.lenS s41.t rfl) (.ltS rfl rfl (fun h37 => ?_) (fun h37 => ?_)))))))
  · have hlt : n < k := by omega
    refine .nil (.code ?_)
    refine .tt (.skip (.code ?_))
    refine .block (.drawS mix [0, 1, 2, 3, 4, 5, 6, 7, 8, 9] [0, 1, 2, 3, 4, 5, 6] [] (.one 7 (.one 8 (.one 9 .nil))) (by kernel_rfl) (fun _ h => h.drew) (fun _ h => h) (.q (.move rfl) (.q (.move rfl) (.q (.move rfl) (.q (.slLo s41 rfl rfl (by omega) (by omega)) (.q (.move rfl) (.q (.move rfl) (.q (.slHi s41 rfl rfl (by omega)) (.toS (.toT (.step rfl (?_))))))))))))
    rw [if_neg (show ¬ k = n by omega)]
    refine .copy s41 (vs := List.replicate (min n (k - n)) (Value.int .i64 (-1))) 0 rfl rfl (by simp) (fun w1 hz j hj => by rw [hz.cell (i := 0) (off := 0 + j) rfl, Nat.zero_add, List.getElem?_append_left (by simp at hj ⊢; omega), List.getElem?_replicate, List.getElem?_replicate, if_pos (by simp at hj; omega), if_pos (by simpa using hj)]) (by intro u hu; rw [List.eq_of_mem_replicate hu]; rfl) rfl (by simp; omega) (?_)
    rw [Nat.zero_add, Nat.mul_one, rep_copy (by omega) (by omega)]
    refine .nil (.tkB (.step rfl (.q (.add rfl rfl (show _ = ((n + min n (k - n) : Nat) : Int) by rw [IntWalk.i64_in _ (by omega)]; omega)) (.nil (.tkB (.step rfl (.q (.assign rfl) (.nil (.tkB (.nil (.inbN (.rd (n + min n (k - n)) ⟨rfl, rfl, rfl, trivial⟩ (fun _ h => h) ⟨by omega, by omega⟩ (by omega)))))))))))))
  · refine .nil (.code ?_)
    refine .ff (.exit (.thE (.thE (.inbX (.code ?_)))))
    refine .seq (.reg (.q (.move rfl) (.q (.assign rfl) (.nil (.code ?_)))))
    refine .ret (.ret1 Tryz.results127 rfl fun w1 hz => ⟨_, _, rfl, hz, b7, rfl, by rw [show k = n by omega]; simp⟩)

theorem insCd_calls (w0 w : World) (f : FuncId) (cap : List Value) (hF : Fnc Tryz.prog f) (cm : Cd → Cd → Int) (ok : Cd → Prop) (hf : ∀ x y, ok x → ok y → ∀ w, Calls Tryz.prog f (([] : List Value) ++ [Value.agg (encC x).toArray, Value.agg (encC y).toArray] ++ cap).toArray w fun e w' => e = .returned (.int .i64 (cm x y)) ∧ Z w w [] [] w') (xs : List Cd) (hok : ∀ x ∈ xs, ok x) (hn : xs.length ≤ 12) (b c : Nat) (sp : List Value) (hH : H w0 w [(b, .cells (xs.flatMap encC ++ sp).toArray 172 (0, 0))]) : Calls Tryz.prog 149 #[.slice (some ⟨b, 0, none⟩) xs.length c, .int .i64 0, .int .i64 (xs.length : Int), .func (.func f) #[] cap.toArray] w fun e w' => e = .returned (.tuple #[]) ∧ Z w0 w [(b, .cells (xs.flatMap encC ++ sp).toArray 172 (0, 0))] [(b, .cells ((isort (fun x y => decide (cm x y < 0)) xs).flatMap encC ++ sp).toArray 172 (0, 0))] w' := by
  generalize hlt : (fun x y => decide (cm x y < 0)) = lt
  have hltd : ∀ x y, lt x y = decide (cm x y < 0) := fun x y => by rw [← hlt]
  refine enter (args := [_, _, _, _]) Tryz.func149 rfl rfl rfl (C := Z w0 w [(b, .cells (xs.flatMap encC ++ sp).toArray 172 (0, 0))] [(b, .cells (xs.flatMap encC ++ sp).toArray 172 (0, 0))]) (Z.start hH) ?_
  refine .seq (.reg (.q (.move rfl) (.q (.add rfl rfl (show _ = ((1 : Nat) : Int) from IntWalk.i64_in _ (by omega))) (.q (.assign rfl) (.nil (.code ?_))))))
  refine .block (.lp (fun s : Nat × List Cd => [(0, .slice (some ⟨b, 0, none⟩) xs.length c), (1, .int .i64 0), (2, .int .i64 (xs.length : Int)), (3, .func (.func f) #[] cap.toArray), (8, .int .i64 (s.1 : Int))]) (fun s => [(b, .cells (s.2.flatMap encC ++ sp).toArray 172 (0, 0))]) (fun s => 1 ≤ s.1 ∧ s.2.length = xs.length ∧ (∀ x ∈ s.2, ok x) ∧ insUp lt (xs.length - s.1) s.1 s.2 = isort lt xs) (fun s => xs.length - s.1) (1, xs) ⟨rfl, rfl, rfl, rfl, rfl, trivial⟩ (fun _ h => h) ⟨Nat.le_refl _, rfl, hok, rfl⟩ fun ⟨i, ys⟩ hk => ?_)
  obtain ⟨hk1, hk2, hk3, hk4⟩ := hk
  simp only at hk1 hk2 hk3 hk4
  refine .seq (.seq (.reg (.q (.move rfl) (.q (.move rfl) (.ltS rfl rfl (fun h14 => ?_) (fun h14 => ?_))))))
  · have hi : i < xs.length := by omega
    refine .nil (.code ?_)
    refine .tt (.skip (.code ?_))
    refine .seq (.block (.seq (.reg (.q (.move rfl) (.q (.assign rfl) (.nil (.code ?_)))))))
    refine .block (.lp (fun s : Nat × List Cd => [(0, .slice (some ⟨b, 0, none⟩) xs.length c), (1, .int .i64 0), (2, .int .i64 (xs.length : Int)), (3, .func (.func f) #[] cap.toArray), (8, .int .i64 (i : Int)), (9, .int .i64 (s.1 : Int))]) (fun s => [(b, .cells (s.2.flatMap encC ++ sp).toArray 172 (0, 0))]) (fun s => s.1 ≤ i ∧ s.2.length = xs.length ∧ (∀ x ∈ s.2, ok x) ∧ insDn lt s.1 s.2 = insDn lt i ys) (fun s => s.1) (i, ys) ⟨rfl, rfl, rfl, rfl, rfl, rfl, trivial⟩ (fun _ h => h) ⟨Nat.le_refl _, hk2, hk3, rfl⟩ fun ⟨j, zs⟩ hl => ?_)
    obtain ⟨hl1, hl2, hl3, hl4⟩ := hl
    simp only at hl1 hl2 hl3 hl4
    refine .seq (.seq (.draw mix (by kernel_rfl) (fun _ h => h.drew) (.q (.move rfl) (.q (.move rfl) (.gtS rfl rfl (fun h20 => ?_) (fun h20 => ?_))))))
    · obtain ⟨j, rfl⟩ : ∃ q, j = q + 1 := ⟨j - 1, by omega⟩
      refine .q (.move rfl) (.q (.move rfl) (.q (.move rfl) (.q (.move rfl) (.q (.ix s123 rfl rfl (by omega)) (.q (.ldR a172 (fun _ => rfl) 0 rfl rfl (show _ < zs.length by omega)) (.q (.move rfl) (.q (.move rfl) (.q (.sub rfl rfl (show _ = ((j : Nat) : Int) by rw [IntWalk.i64_in _ (by omega)]; omega)) (.q (.ix s123 rfl rfl (by omega)) (.q (.ldR a172 (fun _ => rfl) 0 rfl rfl (show _ < zs.length by omega)) (.q (.callC (v := .int .i64 (cm zs[j + 1] zs[j])) hF rfl rfl fun w1 hz => (hf zs[j + 1] zs[j] (hl3 _ (List.getElem_mem _)) (hl3 _ (List.getElem_mem _)) w1).mono fun e w2 h => ⟨h.1, hz.callA h.2⟩) (.ltS rfl rfl (fun h33 => ?_) (fun h33 => ?_)))))))))))))
      · refine .q (.pickT rfl rfl) (.nil (.code ?_))
        refine .tt (.skip (.code ?_))
        refine .seq (.block (.drawS mix [2, 3, 4, 10, 11, 12, 15, 16, 17] [2, 3, 4, 10, 11, 12] [0, 1, 5, 6, 7, 8, 9, 13] (.one 14 (.one 15 (.one 16 (.one 17 .nil)))) (by kernel_rfl) (fun _ h => h.drew) (fun _ h => h) (.q (.move rfl) (.q (.move rfl) (.q (.sub rfl rfl (show _ = ((j : Nat) : Int) by rw [IntWalk.i64_in _ (by omega)]; omega)) (.q (.move rfl) (.q (.move rfl) (.q (.ix s123 rfl rfl (by omega)) (.toS (.q (.move rfl) (.q (.move rfl) (.q (.move rfl) (.q (.move rfl) (.q (.sub rfl rfl (show _ = ((j : Nat) : Int) by rw [IntWalk.i64_in _ (by omega)]; omega)) (.q (.ix s123 rfl rfl (by omega)) (.q (.ldR a172 (fun _ => rfl) 0 rfl rfl (show _ < zs.length by omega)) (.q (.ldR a172 (fun _ => rfl) 0 rfl rfl (show _ < zs.length by omega)) (.toT (.step rfl (.q (.ix s123 rfl rfl (by omega)) (.nil (.tk (fun _ h => h) (.step rfl (.stR a172 (fun _ => rfl) 0 rfl rfl rfl rfl (show _ < zs.length by omega) (.nil (.tkB (.step rfl (.q (.ix s123 rfl rfl (by omega)) (.nil (.tkB (.step rfl (.stR a172 (fun _ => rfl) 0 rfl rfl rfl rfl (show _ < (zs.set _ _).length by simp; omega) (.nil (.tkB (.nil (.inbN (.code ?_)))))))))))))))))))))))))))))))))))))
        refine .reg (.q (.move rfl) (.q (.sub rfl rfl (show _ = ((j : Nat) : Int) by rw [IntWalk.i64_in _ (by omega)]; omega)) (.q (.assign rfl) (.nil (.rd (j, (zs.set (j + 1) zs[j]).set j zs[j + 1]) ⟨rfl, rfl, rfl, rfl, rfl, rfl, trivial⟩ (fun _ h => h) ⟨by simp only; omega, by simp only [List.length_set]; exact hl2, fun x hx => hl3 x (swap_mem (by omega) (by omega) hx), by rw [← hl4, insDn_yes (by omega) (by rw [hltd]; simpa using h33)]⟩ (by simp only; omega))))))
      · have hq2 := hl2
        have hq3 := hl3
        have hq4 : insUp lt (xs.length - (i + 1)) (i + 1) zs = isort lt xs := by
          rw [← hk4, show xs.length - i = (xs.length - (i + 1)) + 1 by omega, insUp, ← hl4, insDn_no (by omega) (by rw [hltd]; simpa using h33)]
        refine .q (.pickT rfl rfl) (.nil (.code ?_))
        refine .ff (.exit (.thE (.thE (.inbX (.inbN (.code ?_))))))
        refine .reg (.q (.move rfl) (.q (.add rfl rfl (IntWalk.i64_in _ (by omega))) (.q (.assign rfl) (.nil (.rd (i + 1, zs) ⟨rfl, rfl, rfl, rfl, rfl, trivial⟩ (fun _ h => h) ⟨by simp only; omega, hq2, hq3, hq4⟩ (by simp only; omega))))))
    · have hq2 := hl2
      have hq3 := hl3
      have hq4 : insUp lt (xs.length - (i + 1)) (i + 1) zs = isort lt xs := by
        have e0 : j = 0 := by omega
        subst e0
        rw [← hk4, show xs.length - i = (xs.length - (i + 1)) + 1 by omega, insUp, ← hl4]
        rfl
      refine .q (.move rfl) (.skip (.skip (.skip (.skip (.skip (.skip (.skip (.skip (.skip (.skip (.skip (.skip (.q (.pickF rfl rfl) (.nil (.code ?_)))))))))))))))
      refine .ff (.exit (.thE (.thE (.inbX (.inbN (.code ?_))))))
      refine .reg (.q (.move rfl) (.q (.add rfl rfl (IntWalk.i64_in _ (by omega))) (.q (.assign rfl) (.nil (.rd (i + 1, zs) ⟨rfl, rfl, rfl, rfl, rfl, trivial⟩ (fun _ h => h) ⟨by simp only; omega, hq2, hq3, hq4⟩ (by simp only; omega))))))
  · refine .nil (.code ?_)
    refine .ff (.exit (.thE (.thE (.inbX (.ret0 Tryz.results149 fun w1 hz => ⟨rfl, by have h := hk4; rw [show xs.length - i = 0 by omega] at h; rw [← h]; exact hz⟩)))))

theorem pdqCd_calls (w0 w : World) (f : FuncId) (cap : List Value) (hF : Fnc Tryz.prog f) (cm : Cd → Cd → Int) (ok : Cd → Prop) (hf : ∀ x y, ok x → ok y → ∀ w, Calls Tryz.prog f (([] : List Value) ++ [Value.agg (encC x).toArray, Value.agg (encC y).toArray] ++ cap).toArray w fun e w' => e = .returned (.int .i64 (cm x y)) ∧ Z w w [] [] w') (xs : List Cd) (hok : ∀ x ∈ xs, ok x) (hn : xs.length ≤ 12) (b c : Nat) (sp : List Value) (hH : H w0 w [(b, .cells (xs.flatMap encC ++ sp).toArray 172 (0, 0))]) (v : Value) : Calls Tryz.prog 108 #[.slice (some ⟨b, 0, none⟩) xs.length c, .int .i64 0, .int .i64 (xs.length : Int), v, .func (.func f) #[] cap.toArray] w fun e w' => e = .returned (.tuple #[]) ∧ Z w0 w [(b, .cells (xs.flatMap encC ++ sp).toArray 172 (0, 0))] [(b, .cells ((isort (fun x y => decide (cm x y < 0)) xs).flatMap encC ++ sp).toArray 172 (0, 0))] w' := by
  refine enter (args := [_, _, _, _, _]) Tryz.func108 rfl rfl rfl (C := Z w0 w [(b, .cells (xs.flatMap encC ++ sp).toArray 172 (0, 0))] [(b, .cells (xs.flatMap encC ++ sp).toArray 172 (0, 0))]) (Z.start hH) ?_
  refine .seq (.reg (.q (.assign rfl) (.nil (.code ?_))))
  refine .seq (.reg (.q (.assign rfl) (.nil (.code ?_))))
  refine .block (.once (.block (.seq (.reg (.q (.move rfl) (.q (.move rfl) (.q (.sub rfl rfl (IntWalk.i64_in _ (by omega))) (.q (.assign rfl) (.nil (.code ?_))))))))))
  refine .seq (.seq (.reg (.q (.move rfl) (.q (.cmp rfl rfl (leT (by omega))) (.nil (.code ?_))))))
  refine .tt (.seq (.reg (.q (.move rfl) (.q (.move rfl) (.q (.move rfl) (.q (.move rfl) (.callM (Lm := [_]) (Lr := []) (Post := fun _ L' => L' = [(b, .cells ((isort (fun x y => decide (cm x y < 0)) xs).flatMap encC ++ sp).toArray 172 (0, 0))]) fn149 rfl (.refl _) (fun w hH => (insCd_calls w0 w f cap hF cm ok hf xs hok hn b c sp hH).mono fun e w2 h => ⟨_, [_], h.1, h.2, rfl⟩) fun v30 L30 p30 => (?_))))))))
  subst p30
  refine .nil (.code ?_)
  refine .ret (.thR (.inbR (.thR (.inbR (.ret0' Tryz.results108 fun w1 hz => ⟨rfl, hz⟩)))))

theorem insCd_nil (w0 w : World) (f : FuncId) (cap : List Value) (hH : H w0 w []) : Calls Tryz.prog 149 #[.slice none 0 0, .int .i64 0, .int .i64 0, .func (.func f) #[] cap.toArray] w fun e w' => e = .returned (.tuple #[]) ∧ Z w0 w [] [] w' := by
  refine enter (args := [_, _, _, _]) Tryz.func149 rfl rfl rfl (C := Z w0 w [] []) (Z.start hH) ?_
  refine .seq (.reg (.q (.move rfl) (.q (.add rfl rfl (show _ = (1 : Int) from IntWalk.i64_in _ (by omega))) (.q (.assign rfl) (.nil (.code ?_))))))
  refine .block (.once (.seq (.seq (.reg (.q (.move rfl) (.q (.move rfl) (.q (.cmp rfl rfl (ltF (by omega))) (.nil (.code ?_)))))))))
  refine .ff (.exit (.thE (.thE (.inbX (.ret0 Tryz.results149 fun w1 hz => ⟨rfl, hz⟩)))))

theorem pdqCd_nil (w0 w : World) (f : FuncId) (cap : List Value) (hH : H w0 w []) (v : Value) : Calls Tryz.prog 108 #[.slice none 0 0, .int .i64 0, .int .i64 0, v, .func (.func f) #[] cap.toArray] w fun e w' => e = .returned (.tuple #[]) ∧ Z w0 w [] [] w' := by
  refine enter (args := [_, _, _, _, _]) Tryz.func108 rfl rfl rfl (C := Z w0 w [] []) (Z.start hH) ?_
  refine .seq (.reg (.q (.assign rfl) (.nil (.code ?_))))
  refine .seq (.reg (.q (.assign rfl) (.nil (.code ?_))))
  refine .block (.once (.block (.seq (.reg (.q (.move rfl) (.q (.move rfl) (.q (.sub rfl rfl (show _ = (0 : Int) from IntWalk.i64_in _ (by omega))) (.q (.assign rfl) (.nil (.code ?_))))))))))
  refine .seq (.seq (.reg (.q (.move rfl) (.q (.cmp rfl rfl (leT (by omega))) (.nil (.code ?_))))))
  refine .tt (.seq (.reg (.q (.move rfl) (.q (.move rfl) (.q (.move rfl) (.q (.move rfl) (.callM (Lm := []) (Lr := []) (Post := fun _ L' => L' = []) fn149 rfl (.refl _) (fun w hH => (insCd_nil w0 w f cap hH).mono fun e w2 h => ⟨_, [], h.1, h.2, rfl⟩) fun v30 L30 p30 => (?_))))))))
  subst p30
  refine .nil (.code ?_)
  refine .ret (.thR (.inbR (.thR (.inbR (.ret0' Tryz.results108 fun w1 hz => ⟨rfl, hz⟩)))))

theorem sortCd_some (w0 w : World) (f : FuncId) (cap : List Value) (hF : Fnc Tryz.prog f) (cm : Cd → Cd → Int) (ok : Cd → Prop) (hf : ∀ x y, ok x → ok y → ∀ w, Calls Tryz.prog f (([] : List Value) ++ [Value.agg (encC x).toArray, Value.agg (encC y).toArray] ++ cap).toArray w fun e w' => e = .returned (.int .i64 (cm x y)) ∧ Z w w [] [] w') (xs : List Cd) (hok : ∀ x ∈ xs, ok x) (hn : xs.length ≤ 12) (b c : Nat) (sp : List Value) (hH : H w0 w [(b, .cells (xs.flatMap encC ++ sp).toArray 172 (0, 0))]) : Calls Tryz.prog 75 #[.slice (some ⟨b, 0, none⟩) xs.length c, .func (.func f) #[] cap.toArray] w fun e w' => e = .returned (.tuple #[]) ∧ Z w0 w [(b, .cells (xs.flatMap encC ++ sp).toArray 172 (0, 0))] [(b, .cells ((isort (fun x y => decide (cm x y < 0)) xs).flatMap encC ++ sp).toArray 172 (0, 0))] w' := by
  refine enter (args := [_, _]) Tryz.func75 rfl rfl rfl (C := Z w0 w [(b, .cells (xs.flatMap encC ++ sp).toArray 172 (0, 0))] [(b, .cells (xs.flatMap encC ++ sp).toArray 172 (0, 0))]) (Z.start hH) ?_
  refine .seq (.reg (.q (.move rfl) (.q (.lenS s123.t rfl) (.q (.assign rfl) (.nil (.code ?_))))))
  refine .reg (.q (.move rfl) (.q (.move rfl) (.q (.move rfl) (.q (.conv (r := (xs.length : Int)) Tryz.underlying3 Tryz.underlying105 rfl (wrapU64 (by omega))) (.callA fn109 rfl (fun w hz => len_calls w xs.length hn) fun v11 L11 p11 => ?_)))))
  subst p11
  refine .q (.move rfl) (.callM (Lm := [_]) (Lr := []) (Post := fun _ L' => L' = [(b, .cells ((isort (fun x y => decide (cm x y < 0)) xs).flatMap encC ++ sp).toArray 172 (0, 0))]) fn108 rfl (.refl _) (fun w hH => (pdqCd_calls w0 w f cap hF cm ok hf xs hok hn b c sp hH v11).mono fun e w2 h => ⟨_, [_], h.1, h.2, rfl⟩) fun v13 L13 p13 => (?_))
  subst p13
  refine .nil (.ret0 Tryz.results75 fun w1 hz => ⟨rfl, hz⟩)

theorem sortCd_nil (w0 w : World) (f : FuncId) (cap : List Value) (hH : H w0 w []) : Calls Tryz.prog 75 #[.slice none 0 0, .func (.func f) #[] cap.toArray] w fun e w' => ∃ v0 L', e = .returned v0 ∧ Z w0 w [] L' w' ∧ OS 172 6 (.slice none 0 0) [] 0 L' := by
  refine enter (args := [_, _]) Tryz.func75 rfl rfl rfl (C := Z w0 w [] []) (Z.start hH) ?_
  refine .seq (.reg (.q (.move rfl) (.q (.lenS s123.t rfl) (.q (.assign rfl) (.nil (.code ?_))))))
  refine .reg (.q (.move rfl) (.q (.move rfl) (.q (.move rfl) (.q (.conv (r := ((0 : Nat) : Int)) Tryz.underlying3 Tryz.underlying105 rfl (wrapU64 (by omega))) (.callA fn109 rfl (fun w hz => len_calls w 0 (by omega)) fun v11 L11 p11 => ?_)))))
  subst p11
  refine .q (.move rfl) (.callM (Lm := []) (Lr := []) (Post := fun _ L' => L' = []) fn108 rfl (.refl _) (fun w hH => (pdqCd_nil w0 w f cap hH v11).mono fun e w2 h => ⟨_, [], h.1, h.2, rfl⟩) fun v13 L13 p13 => (?_))
  subst p13
  refine .nil (.ret0 Tryz.results75 fun w1 hz => ⟨_, [], rfl, hz, .nil _ _⟩)


theorem sortCd_calls (w0 w : World) (f : FuncId) (cap : List Value) (hF : Fnc Tryz.prog f) (cm : Cd → Cd → Int) (ok : Cd → Prop) (hf : ∀ x y, ok x → ok y → ∀ w, Calls Tryz.prog f (([] : List Value) ++ [Value.agg (encC x).toArray, Value.agg (encC y).toArray] ++ cap).toArray w fun e w' => e = .returned (.int .i64 (cm x y)) ∧ Z w w [] [] w') (hk : ∀ x, (encC x).length = 6) (xs : List Cd) (hok : ∀ x ∈ xs, ok x) (hn : xs.length ≤ 12) (v : Value) (Lx : List Blk) (hO : OS 172 6 v (xs.flatMap encC) xs.length Lx) (hH : H w0 w Lx) : Calls Tryz.prog 75 #[v, .func (.func f) #[] cap.toArray] w fun e w' => ∃ v0 L', e = .returned v0 ∧ Z w0 w Lx L' w' ∧ OS 172 6 v ((isort (fun x y => decide (cm x y < 0)) xs).flatMap encC) xs.length L' := by
  obtain ⟨hlen, hO | hO⟩ := hO
  · obtain ⟨rfl, hx, rfl⟩ := hO
    obtain rfl := List.eq_nil_of_length_eq_zero hx
    exact sortCd_nil w0 w f cap hH
  · obtain ⟨b, c, cur, rfl, rfl, h1, h2, h3, h4⟩ := hO
    have e : cur = (xs.flatMap encC ++ cur.toList.drop (xs.length * 6)).toArray := by
      rw [← h4, List.take_append_drop]
    have hl : (isort (fun x y => decide (cm x y < 0)) xs).length = xs.length := isort_len _ _
    rw [e] at hH ⊢
    refine (sortCd_some w0 w f cap hF cm ok hf xs hok hn b c _ hH).mono fun e w' ⟨h5, h6⟩ => ⟨_, _, h5, h6, ⟨by rw [flat_len hk, hl], .inr ⟨b, c, _, rfl, rfl, h1, h2, ?_, ?_⟩⟩⟩
    · simp only [List.size_toArray, List.length_append, flat_len hk, hl, List.length_drop, Array.length_toList, h3]
      rw [← Nat.sub_mul, ← Nat.add_mul]
      congr 1; omega
    · simp only
      rw [List.take_left']
      rw [flat_len hk, hl]

theorem insEv_calls (w0 w : World) (f : FuncId) (cap : List Value) (hF : Fnc Tryz.prog f) (cm : Ev → Ev → Int) (ok : Ev → Prop) (hf : ∀ x y, ok x → ok y → ∀ w, Calls Tryz.prog f (([] : List Value) ++ [Value.agg (encE x).toArray, Value.agg (encE y).toArray] ++ cap).toArray w fun e w' => e = .returned (.int .i64 (cm x y)) ∧ Z w w [] [] w') (xs : List Ev) (hok : ∀ x ∈ xs, ok x) (hn : xs.length ≤ 12) (b c : Nat) (sp : List Value) (hH : H w0 w [(b, .cells (xs.flatMap encE ++ sp).toArray 26 (0, 0))]) : Calls Tryz.prog 204 #[.slice (some ⟨b, 0, none⟩) xs.length c, .int .i64 0, .int .i64 (xs.length : Int), .func (.func f) #[] cap.toArray] w fun e w' => e = .returned (.tuple #[]) ∧ Z w0 w [(b, .cells (xs.flatMap encE ++ sp).toArray 26 (0, 0))] [(b, .cells ((isort (fun x y => decide (cm x y < 0)) xs).flatMap encE ++ sp).toArray 26 (0, 0))] w' := by
  generalize hlt : (fun x y => decide (cm x y < 0)) = lt
  have hltd : ∀ x y, lt x y = decide (cm x y < 0) := fun x y => by rw [← hlt]
  refine enter (args := [_, _, _, _]) Tryz.func204 rfl rfl rfl (C := Z w0 w [(b, .cells (xs.flatMap encE ++ sp).toArray 26 (0, 0))] [(b, .cells (xs.flatMap encE ++ sp).toArray 26 (0, 0))]) (Z.start hH) ?_
  refine .seq (.reg (.q (.move rfl) (.q (.add rfl rfl (show _ = ((1 : Nat) : Int) from IntWalk.i64_in _ (by omega))) (.q (.assign rfl) (.nil (.code ?_))))))
  refine .block (.lp (fun s : Nat × List Ev => [(0, .slice (some ⟨b, 0, none⟩) xs.length c), (1, .int .i64 0), (2, .int .i64 (xs.length : Int)), (3, .func (.func f) #[] cap.toArray), (8, .int .i64 (s.1 : Int))]) (fun s => [(b, .cells (s.2.flatMap encE ++ sp).toArray 26 (0, 0))]) (fun s => 1 ≤ s.1 ∧ s.2.length = xs.length ∧ (∀ x ∈ s.2, ok x) ∧ insUp lt (xs.length - s.1) s.1 s.2 = isort lt xs) (fun s => xs.length - s.1) (1, xs) ⟨rfl, rfl, rfl, rfl, rfl, trivial⟩ (fun _ h => h) ⟨Nat.le_refl _, rfl, hok, rfl⟩ fun ⟨i, ys⟩ hk => ?_)
  obtain ⟨hk1, hk2, hk3, hk4⟩ := hk
  simp only at hk1 hk2 hk3 hk4
  refine .seq (.seq (.reg (.q (.move rfl) (.q (.move rfl) (.ltS rfl rfl (fun h14 => ?_) (fun h14 => ?_))))))
  · have hi : i < xs.length := by omega
    refine .nil (.code ?_)
    refine .tt (.skip (.code ?_))
    refine .seq (.block (.seq (.reg (.q (.move rfl) (.q (.assign rfl) (.nil (.code ?_)))))))
    refine .block (.lp (fun s : Nat × List Ev => [(0, .slice (some ⟨b, 0, none⟩) xs.length c), (1, .int .i64 0), (2, .int .i64 (xs.length : Int)), (3, .func (.func f) #[] cap.toArray), (8, .int .i64 (i : Int)), (9, .int .i64 (s.1 : Int))]) (fun s => [(b, .cells (s.2.flatMap encE ++ sp).toArray 26 (0, 0))]) (fun s => s.1 ≤ i ∧ s.2.length = xs.length ∧ (∀ x ∈ s.2, ok x) ∧ insDn lt s.1 s.2 = insDn lt i ys) (fun s => s.1) (i, ys) ⟨rfl, rfl, rfl, rfl, rfl, rfl, trivial⟩ (fun _ h => h) ⟨Nat.le_refl _, hk2, hk3, rfl⟩ fun ⟨j, zs⟩ hl => ?_)
    obtain ⟨hl1, hl2, hl3, hl4⟩ := hl
    simp only at hl1 hl2 hl3 hl4
    refine .seq (.seq (.draw mix (by kernel_rfl) (fun _ h => h.drew) (.q (.move rfl) (.q (.move rfl) (.gtS rfl rfl (fun h20 => ?_) (fun h20 => ?_))))))
    · obtain ⟨j, rfl⟩ : ∃ q, j = q + 1 := ⟨j - 1, by omega⟩
      refine .q (.move rfl) (.q (.move rfl) (.q (.move rfl) (.q (.move rfl) (.q (.ix s22 rfl rfl (by omega)) (.q (.ldR a26 (fun _ => rfl) 0 rfl rfl (show _ < zs.length by omega)) (.q (.move rfl) (.q (.move rfl) (.q (.sub rfl rfl (show _ = ((j : Nat) : Int) by rw [IntWalk.i64_in _ (by omega)]; omega)) (.q (.ix s22 rfl rfl (by omega)) (.q (.ldR a26 (fun _ => rfl) 0 rfl rfl (show _ < zs.length by omega)) (.q (.callC (v := .int .i64 (cm zs[j + 1] zs[j])) hF rfl rfl fun w1 hz => (hf zs[j + 1] zs[j] (hl3 _ (List.getElem_mem _)) (hl3 _ (List.getElem_mem _)) w1).mono fun e w2 h => ⟨h.1, hz.callA h.2⟩) (.ltS rfl rfl (fun h33 => ?_) (fun h33 => ?_)))))))))))))
      · refine .q (.pickT rfl rfl) (.nil (.code ?_))
        refine .tt (.skip (.code ?_))
        refine .seq (.block (.drawS mix [2, 3, 4, 10, 11, 12, 15, 16, 17] [2, 3, 4, 10, 11, 12] [0, 1, 5, 6, 7, 8, 9, 13] (.one 14 (.one 15 (.one 16 (.one 17 .nil)))) (by kernel_rfl) (fun _ h => h.drew) (fun _ h => h) (.q (.move rfl) (.q (.move rfl) (.q (.sub rfl rfl (show _ = ((j : Nat) : Int) by rw [IntWalk.i64_in _ (by omega)]; omega)) (.q (.move rfl) (.q (.move rfl) (.q (.ix s22 rfl rfl (by omega)) (.toS (.q (.move rfl) (.q (.move rfl) (.q (.move rfl) (.q (.move rfl) (.q (.sub rfl rfl (show _ = ((j : Nat) : Int) by rw [IntWalk.i64_in _ (by omega)]; omega)) (.q (.ix s22 rfl rfl (by omega)) (.q (.ldR a26 (fun _ => rfl) 0 rfl rfl (show _ < zs.length by omega)) (.q (.ldR a26 (fun _ => rfl) 0 rfl rfl (show _ < zs.length by omega)) (.toT (.step rfl (.q (.ix s22 rfl rfl (by omega)) (.nil (.tk (fun _ h => h) (.step rfl (.stR a26 (fun _ => rfl) 0 rfl rfl rfl rfl (show _ < zs.length by omega) (.nil (.tkB (.step rfl (.q (.ix s22 rfl rfl (by omega)) (.nil (.tkB (.step rfl (.stR a26 (fun _ => rfl) 0 rfl rfl rfl rfl (show _ < (zs.set _ _).length by simp; omega) (.nil (.tkB (.nil (.inbN (.code ?_)))))))))))))))))))))))))))))))))))))
        refine .reg (.q (.move rfl) (.q (.sub rfl rfl (show _ = ((j : Nat) : Int) by rw [IntWalk.i64_in _ (by omega)]; omega)) (.q (.assign rfl) (.nil (.rd (j, (zs.set (j + 1) zs[j]).set j zs[j + 1]) ⟨rfl, rfl, rfl, rfl, rfl, rfl, trivial⟩ (fun _ h => h) ⟨by simp only; omega, by simp only [List.length_set]; exact hl2, fun x hx => hl3 x (swap_mem (by omega) (by omega) hx), by rw [← hl4, insDn_yes (by omega) (by rw [hltd]; simpa using h33)]⟩ (by simp only; omega))))))
      · have hq2 := hl2
        have hq3 := hl3
        have hq4 : insUp lt (xs.length - (i + 1)) (i + 1) zs = isort lt xs := by
          rw [← hk4, show xs.length - i = (xs.length - (i + 1)) + 1 by omega, insUp, ← hl4, insDn_no (by omega) (by rw [hltd]; simpa using h33)]
        refine .q (.pickT rfl rfl) (.nil (.code ?_))
        refine .ff (.exit (.thE (.thE (.inbX (.inbN (.code ?_))))))
        refine .reg (.q (.move rfl) (.q (.add rfl rfl (IntWalk.i64_in _ (by omega))) (.q (.assign rfl) (.nil (.rd (i + 1, zs) ⟨rfl, rfl, rfl, rfl, rfl, trivial⟩ (fun _ h => h) ⟨by simp only; omega, hq2, hq3, hq4⟩ (by simp only; omega))))))
    · have hq2 := hl2
      have hq3 := hl3
      have hq4 : insUp lt (xs.length - (i + 1)) (i + 1) zs = isort lt xs := by
        have e0 : j = 0 := by omega
        subst e0
        rw [← hk4, show xs.length - i = (xs.length - (i + 1)) + 1 by omega, insUp, ← hl4]
        rfl
      refine .q (.move rfl) (.skip (.skip (.skip (.skip (.skip (.skip (.skip (.skip (.skip (.skip (.skip (.skip (.q (.pickF rfl rfl) (.nil (.code ?_)))))))))))))))
      refine .ff (.exit (.thE (.thE (.inbX (.inbN (.code ?_))))))
      refine .reg (.q (.move rfl) (.q (.add rfl rfl (IntWalk.i64_in _ (by omega))) (.q (.assign rfl) (.nil (.rd (i + 1, zs) ⟨rfl, rfl, rfl, rfl, rfl, trivial⟩ (fun _ h => h) ⟨by simp only; omega, hq2, hq3, hq4⟩ (by simp only; omega))))))
  · refine .nil (.code ?_)
    refine .ff (.exit (.thE (.thE (.inbX (.ret0 Tryz.results204 fun w1 hz => ⟨rfl, by have h := hk4; rw [show xs.length - i = 0 by omega] at h; rw [← h]; exact hz⟩)))))

theorem pdqEv_calls (w0 w : World) (f : FuncId) (cap : List Value) (hF : Fnc Tryz.prog f) (cm : Ev → Ev → Int) (ok : Ev → Prop) (hf : ∀ x y, ok x → ok y → ∀ w, Calls Tryz.prog f (([] : List Value) ++ [Value.agg (encE x).toArray, Value.agg (encE y).toArray] ++ cap).toArray w fun e w' => e = .returned (.int .i64 (cm x y)) ∧ Z w w [] [] w') (xs : List Ev) (hok : ∀ x ∈ xs, ok x) (hn : xs.length ≤ 12) (b c : Nat) (sp : List Value) (hH : H w0 w [(b, .cells (xs.flatMap encE ++ sp).toArray 26 (0, 0))]) (v : Value) : Calls Tryz.prog 176 #[.slice (some ⟨b, 0, none⟩) xs.length c, .int .i64 0, .int .i64 (xs.length : Int), v, .func (.func f) #[] cap.toArray] w fun e w' => e = .returned (.tuple #[]) ∧ Z w0 w [(b, .cells (xs.flatMap encE ++ sp).toArray 26 (0, 0))] [(b, .cells ((isort (fun x y => decide (cm x y < 0)) xs).flatMap encE ++ sp).toArray 26 (0, 0))] w' := by
  refine enter (args := [_, _, _, _, _]) Tryz.func176 rfl rfl rfl (C := Z w0 w [(b, .cells (xs.flatMap encE ++ sp).toArray 26 (0, 0))] [(b, .cells (xs.flatMap encE ++ sp).toArray 26 (0, 0))]) (Z.start hH) ?_
  refine .seq (.reg (.q (.assign rfl) (.nil (.code ?_))))
  refine .seq (.reg (.q (.assign rfl) (.nil (.code ?_))))
  refine .block (.once (.block (.seq (.reg (.q (.move rfl) (.q (.move rfl) (.q (.sub rfl rfl (IntWalk.i64_in _ (by omega))) (.q (.assign rfl) (.nil (.code ?_))))))))))
  refine .seq (.seq (.reg (.q (.move rfl) (.q (.cmp rfl rfl (leT (by omega))) (.nil (.code ?_))))))
  refine .tt (.seq (.reg (.q (.move rfl) (.q (.move rfl) (.q (.move rfl) (.q (.move rfl) (.callM (Lm := [_]) (Lr := []) (Post := fun _ L' => L' = [(b, .cells ((isort (fun x y => decide (cm x y < 0)) xs).flatMap encE ++ sp).toArray 26 (0, 0))]) fn204 rfl (.refl _) (fun w hH => (insEv_calls w0 w f cap hF cm ok hf xs hok hn b c sp hH).mono fun e w2 h => ⟨_, [_], h.1, h.2, rfl⟩) fun v30 L30 p30 => (?_))))))))
  subst p30
  refine .nil (.code ?_)
  refine .ret (.thR (.inbR (.thR (.inbR (.ret0' Tryz.results176 fun w1 hz => ⟨rfl, hz⟩)))))

theorem insEv_nil (w0 w : World) (f : FuncId) (cap : List Value) (hH : H w0 w []) : Calls Tryz.prog 204 #[.slice none 0 0, .int .i64 0, .int .i64 0, .func (.func f) #[] cap.toArray] w fun e w' => e = .returned (.tuple #[]) ∧ Z w0 w [] [] w' := by
  refine enter (args := [_, _, _, _]) Tryz.func204 rfl rfl rfl (C := Z w0 w [] []) (Z.start hH) ?_
  refine .seq (.reg (.q (.move rfl) (.q (.add rfl rfl (show _ = (1 : Int) from IntWalk.i64_in _ (by omega))) (.q (.assign rfl) (.nil (.code ?_))))))
  refine .block (.once (.seq (.seq (.reg (.q (.move rfl) (.q (.move rfl) (.q (.cmp rfl rfl (ltF (by omega))) (.nil (.code ?_)))))))))
  refine .ff (.exit (.thE (.thE (.inbX (.ret0 Tryz.results204 fun w1 hz => ⟨rfl, hz⟩)))))

theorem pdqEv_nil (w0 w : World) (f : FuncId) (cap : List Value) (hH : H w0 w []) (v : Value) : Calls Tryz.prog 176 #[.slice none 0 0, .int .i64 0, .int .i64 0, v, .func (.func f) #[] cap.toArray] w fun e w' => e = .returned (.tuple #[]) ∧ Z w0 w [] [] w' := by
  refine enter (args := [_, _, _, _, _]) Tryz.func176 rfl rfl rfl (C := Z w0 w [] []) (Z.start hH) ?_
  refine .seq (.reg (.q (.assign rfl) (.nil (.code ?_))))
  refine .seq (.reg (.q (.assign rfl) (.nil (.code ?_))))
  refine .block (.once (.block (.seq (.reg (.q (.move rfl) (.q (.move rfl) (.q (.sub rfl rfl (show _ = (0 : Int) from IntWalk.i64_in _ (by omega))) (.q (.assign rfl) (.nil (.code ?_))))))))))
  refine .seq (.seq (.reg (.q (.move rfl) (.q (.cmp rfl rfl (leT (by omega))) (.nil (.code ?_))))))
  refine .tt (.seq (.reg (.q (.move rfl) (.q (.move rfl) (.q (.move rfl) (.q (.move rfl) (.callM (Lm := []) (Lr := []) (Post := fun _ L' => L' = []) fn204 rfl (.refl _) (fun w hH => (insEv_nil w0 w f cap hH).mono fun e w2 h => ⟨_, [], h.1, h.2, rfl⟩) fun v30 L30 p30 => (?_))))))))
  subst p30
  refine .nil (.code ?_)
  refine .ret (.thR (.inbR (.thR (.inbR (.ret0' Tryz.results176 fun w1 hz => ⟨rfl, hz⟩)))))

theorem sortEv_some (w0 w : World) (f : FuncId) (cap : List Value) (hF : Fnc Tryz.prog f) (cm : Ev → Ev → Int) (ok : Ev → Prop) (hf : ∀ x y, ok x → ok y → ∀ w, Calls Tryz.prog f (([] : List Value) ++ [Value.agg (encE x).toArray, Value.agg (encE y).toArray] ++ cap).toArray w fun e w' => e = .returned (.int .i64 (cm x y)) ∧ Z w w [] [] w') (xs : List Ev) (hok : ∀ x ∈ xs, ok x) (hn : xs.length ≤ 12) (b c : Nat) (sp : List Value) (hH : H w0 w [(b, .cells (xs.flatMap encE ++ sp).toArray 26 (0, 0))]) : Calls Tryz.prog 130 #[.slice (some ⟨b, 0, none⟩) xs.length c, .func (.func f) #[] cap.toArray] w fun e w' => e = .returned (.tuple #[]) ∧ Z w0 w [(b, .cells (xs.flatMap encE ++ sp).toArray 26 (0, 0))] [(b, .cells ((isort (fun x y => decide (cm x y < 0)) xs).flatMap encE ++ sp).toArray 26 (0, 0))] w' := by
  refine enter (args := [_, _]) Tryz.func130 rfl rfl rfl (C := Z w0 w [(b, .cells (xs.flatMap encE ++ sp).toArray 26 (0, 0))] [(b, .cells (xs.flatMap encE ++ sp).toArray 26 (0, 0))]) (Z.start hH) ?_
  refine .seq (.reg (.q (.move rfl) (.q (.lenS s22.t rfl) (.q (.assign rfl) (.nil (.code ?_))))))
  refine .reg (.q (.move rfl) (.q (.move rfl) (.q (.move rfl) (.q (.conv (r := (xs.length : Int)) Tryz.underlying3 Tryz.underlying105 rfl (wrapU64 (by omega))) (.callA fn109 rfl (fun w hz => len_calls w xs.length hn) fun v11 L11 p11 => ?_)))))
  subst p11
  refine .q (.move rfl) (.callM (Lm := [_]) (Lr := []) (Post := fun _ L' => L' = [(b, .cells ((isort (fun x y => decide (cm x y < 0)) xs).flatMap encE ++ sp).toArray 26 (0, 0))]) fn176 rfl (.refl _) (fun w hH => (pdqEv_calls w0 w f cap hF cm ok hf xs hok hn b c sp hH v11).mono fun e w2 h => ⟨_, [_], h.1, h.2, rfl⟩) fun v13 L13 p13 => (?_))
  subst p13
  refine .nil (.ret0 Tryz.results130 fun w1 hz => ⟨rfl, hz⟩)

theorem sortEv_nil (w0 w : World) (f : FuncId) (cap : List Value) (hH : H w0 w []) : Calls Tryz.prog 130 #[.slice none 0 0, .func (.func f) #[] cap.toArray] w fun e w' => ∃ v0 L', e = .returned v0 ∧ Z w0 w [] L' w' ∧ OS 26 8 (.slice none 0 0) [] 0 L' := by
  refine enter (args := [_, _]) Tryz.func130 rfl rfl rfl (C := Z w0 w [] []) (Z.start hH) ?_
  refine .seq (.reg (.q (.move rfl) (.q (.lenS s22.t rfl) (.q (.assign rfl) (.nil (.code ?_))))))
  refine .reg (.q (.move rfl) (.q (.move rfl) (.q (.move rfl) (.q (.conv (r := ((0 : Nat) : Int)) Tryz.underlying3 Tryz.underlying105 rfl (wrapU64 (by omega))) (.callA fn109 rfl (fun w hz => len_calls w 0 (by omega)) fun v11 L11 p11 => ?_)))))
  subst p11
  refine .q (.move rfl) (.callM (Lm := []) (Lr := []) (Post := fun _ L' => L' = []) fn176 rfl (.refl _) (fun w hH => (pdqEv_nil w0 w f cap hH v11).mono fun e w2 h => ⟨_, [], h.1, h.2, rfl⟩) fun v13 L13 p13 => (?_))
  subst p13
  refine .nil (.ret0 Tryz.results130 fun w1 hz => ⟨_, [], rfl, hz, .nil _ _⟩)


theorem sortEv_calls (w0 w : World) (f : FuncId) (cap : List Value) (hF : Fnc Tryz.prog f) (cm : Ev → Ev → Int) (ok : Ev → Prop) (hf : ∀ x y, ok x → ok y → ∀ w, Calls Tryz.prog f (([] : List Value) ++ [Value.agg (encE x).toArray, Value.agg (encE y).toArray] ++ cap).toArray w fun e w' => e = .returned (.int .i64 (cm x y)) ∧ Z w w [] [] w') (hk : ∀ x, (encE x).length = 8) (xs : List Ev) (hok : ∀ x ∈ xs, ok x) (hn : xs.length ≤ 12) (v : Value) (Lx : List Blk) (hO : OS 26 8 v (xs.flatMap encE) xs.length Lx) (hH : H w0 w Lx) : Calls Tryz.prog 130 #[v, .func (.func f) #[] cap.toArray] w fun e w' => ∃ v0 L', e = .returned v0 ∧ Z w0 w Lx L' w' ∧ OS 26 8 v ((isort (fun x y => decide (cm x y < 0)) xs).flatMap encE) xs.length L' := by
  obtain ⟨hlen, hO | hO⟩ := hO
  · obtain ⟨rfl, hx, rfl⟩ := hO
    obtain rfl := List.eq_nil_of_length_eq_zero hx
    exact sortEv_nil w0 w f cap hH
  · obtain ⟨b, c, cur, rfl, rfl, h1, h2, h3, h4⟩ := hO
    have e : cur = (xs.flatMap encE ++ cur.toList.drop (xs.length * 8)).toArray := by
      rw [← h4, List.take_append_drop]
    have hl : (isort (fun x y => decide (cm x y < 0)) xs).length = xs.length := isort_len _ _
    rw [e] at hH ⊢
    refine (sortEv_some w0 w f cap hF cm ok hf xs hok hn b c _ hH).mono fun e w' ⟨h5, h6⟩ => ⟨_, _, h5, h6, ⟨by rw [flat_len hk, hl], .inr ⟨b, c, _, rfl, rfl, h1, h2, ?_, ?_⟩⟩⟩
    · simp only [List.size_toArray, List.length_append, flat_len hk, hl, List.length_drop, Array.length_toList, h3]
      rw [← Nat.sub_mul, ← Nat.add_mul]
      congr 1; omega
    · simp only
      rw [List.take_left']
      rw [flat_len hk, hl]

end Go.Proofs.YtjccenbacjhglaaGreatDoor.SO
