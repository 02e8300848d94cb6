import Derived.Test.YtjccenbacjhglaaProg
import Derived.Test.YtjccenbacjhglaaK
import Derived.Test.YtjccenbacjhglaaM
import Derived.Test.YtjccenbacjhglaaIS
import Derived.Test.YtjccenbacjhglaaM2
import Derived.Test.YtjccenbacjhglaaMS
import Derived.Test.YtjccenbacjhglaaPF
import Derived.Test.YtjccenbacjhglaaSO
import Derived.Test.YtjccenbacjhglaaAU
import Derived.Test.YtjccenbacjhglaaR1
import Derived.Test.YtjccenbacjhglaaR2
import Derived.Test.YtjccenbacjhglaaR3
import Derived.Test.YtjccenbacjhglaaS1
import Derived.Test.YtjccenbacjhglaaS2
import Derived.Test.YtjccenbacjhglaaS3
set_option linter.unusedVariables false
set_option linter.unusedSimpArgs false
set_option maxRecDepth 100000
set_option maxHeartbeats 4000000
namespace Go.Proofs.Ytjccenbacjhglaa.S4
open Go Go.Proofs Go.RowKit Go.Proofs.Ytjccenbacjhglaa.K Go.Proofs.Ytjccenbacjhglaa.M Go.Proofs.Ytjccenbacjhglaa.PF Go.Proofs.Ytjccenbacjhglaa.SO Go.Proofs.Ytjccenbacjhglaa.AU Go.Proofs.Ytjccenbacjhglaa.R1 Go.Proofs.Ytjccenbacjhglaa.R2 Go.Proofs.Ytjccenbacjhglaa.R3 Go.Proofs.Ytjccenbacjhglaa.S1 Go.Proofs.Ytjccenbacjhglaa.S2 Go.Proofs.Ytjccenbacjhglaa.S3
theorem fn95 : Fnc Try.prog 95 := ⟨by kernel_rfl⟩
theorem fn98 : Fnc Try.prog 98 := ⟨by kernel_rfl⟩
theorem fn105 : Fnc Try.prog 105 := ⟨by kernel_rfl⟩
theorem fn126 : Fnc Try.prog 126 := ⟨by kernel_rfl⟩
theorem fn132 : Fnc Try.prog 132 := ⟨by kernel_rfl⟩
theorem mix : Try.prog.follows .mixedOrders = true := by kernel_rfl
theorem o3 : One Try.prog 3 := ⟨_, Try.underlying3, rfl, by kernel_rfl⟩
theorem s37 : Slc Try.prog 37 3 1 8 [.int .i64 0] := ⟨Try.underlying37, by kernel_rfl, rfl⟩
theorem isNaN_calls (w : World) (x : Int) : Calls Try.prog 105 #[.int .i64 x] w fun e w' => e = .returned (.bool false) ∧ Z w w [] [] w' := by
  refine enter (args := [_]) Try.func105 rfl rfl rfl (C := Z w w [] []) (Z.start (H.nil w)) ?_
  refine .seq (.reg (.q (.assign rfl) (.nil (.code ?_))))
  refine .seq (.reg (.q (.move rfl) (.q (.move rfl) (.q (.cmp rfl rfl (neF (rfl))) (.q (.assign rfl) (.nil (.code ?_)))))))
  refine .ret (.ret1 Try.results105 rfl fun w1 hz => ⟨rfl, hz⟩)

theorem lessI_calls (w : World) (x y : Int) : Calls Try.prog 132 #[.int .i64 x, .int .i64 y] w fun e w' => e = .returned (.bool (ltI x y)) ∧ Z w w [] [] w' := by
  refine enter (args := [_, _]) Try.func132 rfl rfl rfl (C := Z w w [] []) (Z.start (H.nil w)) ?_
  refine .seq (.reg (.q (.assign rfl) (.nil (.code ?_))))
  refine .seq (.reg (.q (.move rfl) (.q (.call fn105 rfl (fun w hz => isNaN_calls w x)) (.q (.move rfl) (.skip (.skip (.skip (.q (.pickF rfl rfl) (.q (.move rfl) (.q (.move rfl) (.q (.move rfl) (.q (.cmp rfl rfl rfl) (.q (.pickF rfl rfl) (.q (.assign rfl) (.nil (.code ?_))))))))))))))))
  refine .ret (.ret1 Try.results132 rfl fun w1 hz => ⟨rfl, hz⟩)

theorem insI_calls (w0 w : World) (xs : List Int) (hn : xs.length ≤ 12) (b c : Nat) (sp : List Value) (hH : H w0 w [(b, .cells (xs.flatMap eI ++ sp).toArray 3 (0, 0))]) : Calls Try.prog 126 #[.slice (some ⟨b, 0, none⟩) xs.length c, .int .i64 0, .int .i64 (xs.length : Int)] w fun e w' => e = .returned (.tuple #[]) ∧ Z w0 w [(b, .cells (xs.flatMap eI ++ sp).toArray 3 (0, 0))] [(b, .cells ((isort ltI xs).flatMap eI ++ sp).toArray 3 (0, 0))] w' := by
  refine enter (args := [_, _, _]) Try.func126 rfl rfl rfl (C := Z w0 w [(b, .cells (xs.flatMap eI ++ sp).toArray 3 (0, 0))] [(b, .cells (xs.flatMap eI ++ sp).toArray 3 (0, 0))]) (Z.start hH) ?_
  refine .seq (.reg (.q (.move rfl) (.q (.add rfl rfl (show _ = ((1 : Nat) : Int) from IntWalk.i64_in _ (by omega))) (.q (.assign rfl) (.nil (.code ?_))))))
  refine .block (.lp (fun s : Nat × List Int => [(0, .slice (some ⟨b, 0, none⟩) xs.length c), (1, .int .i64 0), (2, .int .i64 (xs.length : Int)), (6, .int .i64 (s.1 : Int))]) (fun s => [(b, .cells (s.2.flatMap eI ++ sp).toArray 3 (0, 0))]) (fun s => 1 ≤ s.1 ∧ s.2.length = xs.length ∧ insUp ltI (xs.length - s.1) s.1 s.2 = isort ltI xs) (fun s => xs.length - s.1) (1, xs) ⟨rfl, rfl, rfl, rfl, trivial⟩ (fun _ h => h) ⟨Nat.le_refl _, rfl, rfl⟩ fun ⟨i, ys⟩ hk => ?_)
  obtain ⟨hk1, hk2, hk4⟩ := hk
  simp only at hk1 hk2 hk4
  refine .seq (.seq (.reg (.q (.move rfl) (.q (.move rfl) (.ltS rfl rfl (fun h12 => ?_) (fun h12 => ?_))))))
  · have hi : i < xs.length := by omega
    refine .nil (.code ?_)
    refine .tt (.skip (.code ?_))
    refine .seq (.block (.seq (.reg (.q (.move rfl) (.q (.assign rfl) (.nil (.code ?_)))))))
    refine .block (.lp (fun s : Nat × List Int => [(0, .slice (some ⟨b, 0, none⟩) xs.length c), (1, .int .i64 0), (2, .int .i64 (xs.length : Int)), (6, .int .i64 (i : Int)), (7, .int .i64 (s.1 : Int))]) (fun s => [(b, .cells (s.2.flatMap eI ++ sp).toArray 3 (0, 0))]) (fun s => s.1 ≤ i ∧ s.2.length = xs.length ∧ insDn ltI s.1 s.2 = insDn ltI i ys) (fun s => s.1) (i, ys) ⟨rfl, rfl, rfl, rfl, rfl, trivial⟩ (fun _ h => h) ⟨Nat.le_refl _, hk2, rfl⟩ fun ⟨j, zs⟩ hl => ?_)
    obtain ⟨hl1, hl2, hl4⟩ := hl
    simp only at hl1 hl2 hl4
    show WC _ _ _ _ (Z w0 w _ [(b, .cells (zs.flatMap eI ++ sp).toArray 3 (0, 0))]) _
    refine .seq (.seq (.draw mix (by kernel_rfl) (fun _ h => h.drew) (.q (.move rfl) (.q (.move rfl) (.gtS rfl rfl (fun h18 => ?_) (fun h18 => ?_))))))
    · obtain ⟨j, rfl⟩ : ∃ q, j = q + 1 := ⟨j - 1, by omega⟩
      refine .q (.move rfl) (.q (.move rfl) (.q (.move rfl) (.q (.ix s37 rfl rfl (by omega)) (.q (.ldR1 (f := intV) (xs := zs) (j := j + 1) o3 0 rfl rfl (show _ < zs.length by omega)) (.q (.move rfl) (.q (.move rfl) (.q (.sub rfl rfl (show _ = ((j : Nat) : Int) by rw [IntWalk.i64_in _ (by omega)]; omega)) (.q (.ix s37 rfl rfl (by omega)) (.q (.ldR1 (f := intV) (xs := zs) (j := j) o3 0 rfl rfl (show _ < zs.length by omega)) (.qB (.call fn132 rfl (fun w hz => lessI_calls w _ _)) (fun h29 => ?_) (fun h29 => ?_)))))))))))
      · refine .q (.pickT rfl rfl) (.nil (.code ?_))
        refine .tt (.skip (.code ?_))
        refine .seq (.block (.drawS mix [2, 3, 4, 10, 11, 12, 15, 16, 17] [2, 3, 4, 10, 11, 12] [0, 1, 5, 6, 7, 8, 9, 13] (.one 14 (.one 15 (.one 16 (.one 17 .nil)))) (by kernel_rfl) (fun _ h => h.drew) (fun _ h => h) (.q (.move rfl) (.q (.move rfl) (.q (.sub rfl rfl (show _ = ((j : Nat) : Int) by rw [IntWalk.i64_in _ (by omega)]; omega)) (.q (.move rfl) (.q (.move rfl) (.q (.ix s37 rfl rfl (by omega)) (.toS (.q (.move rfl) (.q (.move rfl) (.q (.move rfl) (.q (.move rfl) (.q (.sub rfl rfl (show _ = ((j : Nat) : Int) by rw [IntWalk.i64_in _ (by omega)]; omega)) (.q (.ix s37 rfl rfl (by omega)) (.q (.ldR1 (f := intV) (xs := zs) (j := j) o3 0 rfl rfl (show _ < zs.length by omega)) (.q (.ldR1 (f := intV) (xs := zs) (j := j + 1) o3 0 rfl rfl (show _ < zs.length by omega)) (.toT (.step rfl (.q (.ix s37 rfl rfl (by omega)) (.nil (.tk (fun _ h => h) (.step rfl (.stR1 (f := intV) (xs := zs) (u := zs[j]) o3 0 rfl rfl rfl rfl (show _ < zs.length by omega) (.nil (.tkB (.step rfl (.q (.ix s37 rfl rfl (by omega)) (.nil (.tkB (.step rfl (.stR1 (f := intV) (u := zs[j + 1]) o3 0 rfl rfl rfl rfl (show _ < (zs.set _ _).length by simp; omega) (.nil (.tkB (.nil (.inbN (.code ?_)))))))))))))))))))))))))))))))))))))
        refine .reg (.q (.move rfl) (.q (.sub rfl rfl (show _ = ((j : Nat) : Int) by rw [IntWalk.i64_in _ (by omega)]; omega)) (.q (.assign rfl) (.nil (.rd (j, (zs.set (j + 1) zs[j]).set j zs[j + 1]) ⟨rfl, rfl, rfl, rfl, rfl, trivial⟩ (fun _ h => h) ⟨by simp only; omega, by simp only [List.length_set]; exact hl2, by rw [← hl4, insDn_yes (by omega) h29]⟩ (by simp only; omega))))))
      · have hq2 := hl2
        have hq4 : insUp ltI (xs.length - (i + 1)) (i + 1) zs = isort ltI xs := by
          rw [← hk4, show xs.length - i = (xs.length - (i + 1)) + 1 by omega, insUp, ← hl4, insDn_no (by omega) h29]
        refine .q (.pickT rfl rfl) (.nil (.code ?_))
        refine .ff (.exit (.thE (.thE (.inbX (.inbN (.code ?_))))))
        refine .reg (.q (.move rfl) (.q (.add rfl rfl (IntWalk.i64_in _ (by omega))) (.q (.assign rfl) (.nil (.rd (i + 1, zs) ⟨rfl, rfl, rfl, rfl, trivial⟩ (fun _ h => h) ⟨by simp only; omega, hq2, hq4⟩ (by simp only; omega))))))
    · have hq2 := hl2
      have hq4 : insUp ltI (xs.length - (i + 1)) (i + 1) zs = isort ltI xs := by
        have e0 : j = 0 := by omega
        subst e0
        rw [← hk4, show xs.length - i = (xs.length - (i + 1)) + 1 by omega, insUp, ← hl4]
        rfl
      refine .q (.move rfl) (.skip (.skip (.skip (.skip (.skip (.skip (.skip (.skip (.skip (.skip (.q (.pickF rfl rfl) (.nil (.code ?_)))))))))))))
      refine .ff (.exit (.thE (.thE (.inbX (.inbN (.code ?_))))))
      refine .reg (.q (.move rfl) (.q (.add rfl rfl (IntWalk.i64_in _ (by omega))) (.q (.assign rfl) (.nil (.rd (i + 1, zs) ⟨rfl, rfl, rfl, rfl, trivial⟩ (fun _ h => h) ⟨by simp only; omega, hq2, hq4⟩ (by simp only; omega))))))
  · refine .nil (.code ?_)
    refine .ff (.exit (.thE (.thE (.inbX (.ret0 Try.results126 fun w1 hz => ⟨rfl, by have h := hk4; rw [show xs.length - i = 0 by omega] at h; rw [← h]; exact hz⟩)))))

theorem pdqI_calls (w0 w : World) (xs : List Int) (hn : xs.length ≤ 12) (b c : Nat) (sp : List Value) (hH : H w0 w [(b, .cells (xs.flatMap eI ++ sp).toArray 3 (0, 0))]) (v : Value) : Calls Try.prog 98 #[.slice (some ⟨b, 0, none⟩) xs.length c, .int .i64 0, .int .i64 (xs.length : Int), v] w fun e w' => e = .returned (.tuple #[]) ∧ Z w0 w [(b, .cells (xs.flatMap eI ++ sp).toArray 3 (0, 0))] [(b, .cells ((isort ltI xs).flatMap eI ++ sp).toArray 3 (0, 0))] w' := by
  refine enter (args := [_, _, _, _]) Try.func98 rfl rfl rfl (C := Z w0 w [(b, .cells (xs.flatMap eI ++ sp).toArray 3 (0, 0))] [(b, .cells (xs.flatMap eI ++ sp).toArray 3 (0, 0))]) (Z.start hH) ?_
  refine .seq (.reg (.q (.assign rfl) (.nil (.code ?_))))
  refine .seq (.reg (.q (.assign rfl) (.nil (.code ?_))))
  refine .block (.once (.block (.seq (.reg (.q (.move rfl) (.q (.move rfl) (.q (.sub rfl rfl (IntWalk.i64_in _ (by omega))) (.q (.assign rfl) (.nil (.code ?_))))))))))
  refine .seq (.seq (.reg (.q (.move rfl) (.q (.cmp rfl rfl (leT (by omega))) (.nil (.code ?_))))))
  refine .tt (.seq (.reg (.q (.move rfl) (.q (.move rfl) (.q (.move rfl) (.callM (Lm := [_]) (Lr := []) (Post := fun _ L' => L' = [(b, .cells ((isort ltI xs).flatMap eI ++ sp).toArray 3 (0, 0))]) fn126 rfl (.refl _) (fun w hH => (insI_calls w0 w xs hn b c sp hH).mono fun e w2 h => ⟨_, [_], h.1, h.2, rfl⟩) fun v27 L27 p27 => (?_)))))))
  subst p27
  refine .nil (.code ?_)
  refine .ret (.thR (.inbR (.thR (.inbR (.ret0' Try.results98 fun w1 hz => ⟨rfl, hz⟩)))))

theorem insI_nil (w0 w : World) (hH : H w0 w []) : Calls Try.prog 126 #[.slice none 0 0, .int .i64 0, .int .i64 0] w fun e w' => e = .returned (.tuple #[]) ∧ Z w0 w [] [] w' := by
  refine enter (args := [_, _, _]) Try.func126 rfl rfl rfl (C := Z w0 w [] []) (Z.start hH) ?_
  refine .seq (.reg (.q (.move rfl) (.q (.add rfl rfl (show _ = (1 : Int) from IntWalk.i64_in _ (by omega))) (.q (.assign rfl) (.nil (.code ?_))))))
  refine .block (.once (.seq (.seq (.reg (.q (.move rfl) (.q (.move rfl) (.q (.cmp rfl rfl (ltF (by omega))) (.nil (.code ?_)))))))))
  refine .ff (.exit (.thE (.thE (.inbX (.ret0 Try.results126 fun w1 hz => ⟨rfl, hz⟩)))))

theorem pdqI_nil (w0 w : World) (hH : H w0 w []) (v : Value) : Calls Try.prog 98 #[.slice none 0 0, .int .i64 0, .int .i64 0, v] w fun e w' => e = .returned (.tuple #[]) ∧ Z w0 w [] [] w' := by
  refine enter (args := [_, _, _, _]) Try.func98 rfl rfl rfl (C := Z w0 w [] []) (Z.start hH) ?_
  refine .seq (.reg (.q (.assign rfl) (.nil (.code ?_))))
  refine .seq (.reg (.q (.assign rfl) (.nil (.code ?_))))
  refine .block (.once (.block (.seq (.reg (.q (.move rfl) (.q (.move rfl) (.q (.sub rfl rfl (show _ = (0 : Int) from IntWalk.i64_in _ (by omega))) (.q (.assign rfl) (.nil (.code ?_))))))))))
  refine .seq (.seq (.reg (.q (.move rfl) (.q (.cmp rfl rfl (leT (by omega))) (.nil (.code ?_))))))
  refine .tt (.seq (.reg (.q (.move rfl) (.q (.move rfl) (.q (.move rfl) (.callM (Lm := []) (Lr := []) (Post := fun _ L' => L' = []) fn126 rfl (.refl _) (fun w hH => (insI_nil w0 w hH).mono fun e w2 h => ⟨_, [], h.1, h.2, rfl⟩) fun v27 L27 p27 => (?_)))))))
  subst p27
  refine .nil (.code ?_)
  refine .ret (.thR (.inbR (.thR (.inbR (.ret0' Try.results98 fun w1 hz => ⟨rfl, hz⟩)))))

theorem sortI_some (w0 w : World) (xs : List Int) (hn : xs.length ≤ 12) (b c : Nat) (sp : List Value) (hH : H w0 w [(b, .cells (xs.flatMap eI ++ sp).toArray 3 (0, 0))]) : Calls Try.prog 79 #[.slice (some ⟨b, 0, none⟩) xs.length c] w fun e w' => e = .returned (.tuple #[]) ∧ Z w0 w [(b, .cells (xs.flatMap eI ++ sp).toArray 3 (0, 0))] [(b, .cells ((isort ltI xs).flatMap eI ++ sp).toArray 3 (0, 0))] w' := by
  refine enter (args := [_]) Try.func79 rfl rfl rfl (C := Z w0 w [(b, .cells (xs.flatMap eI ++ sp).toArray 3 (0, 0))] [(b, .cells (xs.flatMap eI ++ sp).toArray 3 (0, 0))]) (Z.start hH) ?_
  refine .seq (.reg (.q (.move rfl) (.q (.lenS s37.t rfl) (.q (.assign rfl) (.nil (.code ?_))))))
  refine .reg (.q (.move rfl) (.q (.move rfl) (.q (.move rfl) (.q (.conv (r := (xs.length : Int)) Try.underlying3 Try.underlying154 rfl (wrapU64 (by omega))) (.callA fn95 rfl (fun w hz => len_calls w xs.length hn) fun v9 L9 p9 => ?_)))))
  subst p9
  refine .callM (Lm := [_]) (Lr := []) (Post := fun _ L' => L' = [(b, .cells ((isort ltI xs).flatMap eI ++ sp).toArray 3 (0, 0))]) fn98 rfl (.refl _) (fun w hH => (pdqI_calls w0 w xs hn b c sp hH v9).mono fun e w2 h => ⟨_, [_], h.1, h.2, rfl⟩) fun v10 L10 p10 => (?_)
  subst p10
  refine .nil (.ret0 Try.results79 fun w1 hz => ⟨rfl, hz⟩)

theorem sortI_nil (w0 w : World) (hH : H w0 w []) : Calls Try.prog 79 #[.slice none 0 0] w fun e w' => ∃ v0 L', e = .returned v0 ∧ Z w0 w [] L' w' ∧ OS 3 1 (.slice none 0 0) [] 0 L' := by
  refine enter (args := [_]) Try.func79 rfl rfl rfl (C := Z w0 w [] []) (Z.start hH) ?_
  refine .seq (.reg (.q (.move rfl) (.q (.lenS s37.t rfl) (.q (.assign rfl) (.nil (.code ?_))))))
  refine .reg (.q (.move rfl) (.q (.move rfl) (.q (.move rfl) (.q (.conv (r := ((0 : Nat) : Int)) Try.underlying3 Try.underlying154 rfl (wrapU64 (by omega))) (.callA fn95 rfl (fun w hz => len_calls w 0 (by omega)) fun v9 L9 p9 => ?_)))))
  subst p9
  refine .callM (Lm := []) (Lr := []) (Post := fun _ L' => L' = []) fn98 rfl (.refl _) (fun w hH => (pdqI_nil w0 w hH v9).mono fun e w2 h => ⟨_, [], h.1, h.2, rfl⟩) fun v10 L10 p10 => (?_)
  subst p10
  refine .nil (.ret0 Try.results79 fun w1 hz => ⟨_, [], rfl, hz, .nil _ _⟩)


theorem sortI_calls (w0 w : World) (xs : List Int) (hn : xs.length ≤ 12) (v : Value) (Lx : List Blk) (hO : OS 3 1 v (xs.flatMap eI) xs.length Lx) (hH : H w0 w Lx) : Calls Try.prog 79 #[v] w fun e w' => ∃ v0 L', e = .returned v0 ∧ Z w0 w Lx L' w' ∧ OS 3 1 v ((isort ltI xs).flatMap eI) xs.length L' := by
  obtain ⟨hlen, hO | hO⟩ := hO
  · obtain ⟨rfl, hx, rfl⟩ := hO
    obtain rfl := List.eq_nil_of_length_eq_zero hx
    exact sortI_nil w0 w hH
  · obtain ⟨b, c, cur, rfl, rfl, h1, h2, h3, h4⟩ := hO
    have e : cur = (xs.flatMap eI ++ cur.toList.drop (xs.length * 1)).toArray := by
      rw [← h4, List.take_append_drop]
    have hl : (isort ltI xs).length = xs.length := isort_len _ _
    rw [e] at hH ⊢
    refine (sortI_some w0 w xs hn b c _ hH).mono fun e w' ⟨h5, h6⟩ => ⟨_, _, h5, h6, ⟨by rw [flat_len eI_len, hl], .inr ⟨b, c, _, rfl, rfl, h1, h2, ?_, ?_⟩⟩⟩
    · simp only [List.size_toArray, List.length_append, flat_len eI_len, hl, List.length_drop, Array.length_toList, h3]
      omega
    · simp only
      rw [List.take_left']
      rw [flat_len eI_len, hl]

end Go.Proofs.Ytjccenbacjhglaa.S4
