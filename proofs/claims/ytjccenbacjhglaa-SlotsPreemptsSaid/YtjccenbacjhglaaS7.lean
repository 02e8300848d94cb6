import Derived.Test.YtjccenbacjhglaaProg
import Derived.Test.YtjccenbacjhglaaK
import Derived.Test.YtjccenbacjhglaaM
import Derived.Test.YtjccenbacjhglaaIS
import Derived.Test.YtjccenbacjhglaaM2
import Derived.Test.YtjccenbacjhglaaMS
import Derived.Test.YtjccenbacjhglaaPF
import Derived.Test.YtjccenbacjhglaaSO
import Derived.Test.YtjccenbacjhglaaAU
import Derived.Test.YtjccenbacjhglaaR1
import Derived.Test.YtjccenbacjhglaaR2
import Derived.Test.YtjccenbacjhglaaR3
import Derived.Test.YtjccenbacjhglaaS1
import Derived.Test.YtjccenbacjhglaaS2
import Derived.Test.YtjccenbacjhglaaS3
import Derived.Test.YtjccenbacjhglaaS4
import Derived.Test.YtjccenbacjhglaaS5
import Derived.Test.YtjccenbacjhglaaS6
set_option linter.unusedVariables false
set_option linter.unusedSimpArgs false
set_option maxRecDepth 100000
set_option maxHeartbeats 1000000
namespace Go.Proofs.Ytjccenbacjhglaa.S7
open Go Go.Proofs Go.RowKit Go.Proofs.Ytjccenbacjhglaa.K Go.Proofs.Ytjccenbacjhglaa.M Go.Proofs.Ytjccenbacjhglaa.PF Go.Proofs.Ytjccenbacjhglaa.SO Go.Proofs.Ytjccenbacjhglaa.AU Go.Proofs.Ytjccenbacjhglaa.R1 Go.Proofs.Ytjccenbacjhglaa.R2 Go.Proofs.Ytjccenbacjhglaa.R3 Go.Proofs.Ytjccenbacjhglaa.S1 Go.Proofs.Ytjccenbacjhglaa.S2 Go.Proofs.Ytjccenbacjhglaa.S3 Go.Proofs.Ytjccenbacjhglaa.S4 Go.Proofs.Ytjccenbacjhglaa.S5 Go.Proofs.Ytjccenbacjhglaa.S6
theorem f96_0 : Fld Try.prog 96 0 0 := ⟨_, _, Try.underlying96, rfl, rfl, 0, by kernel_rfl⟩
theorem fn40 : Fnc Try.prog 40 := ⟨by kernel_rfl⟩
theorem fn57 : Fnc Try.prog 57 := ⟨by kernel_rfl⟩
theorem fn58 : Fnc Try.prog 58 := ⟨by kernel_rfl⟩
theorem fn59 : Fnc Try.prog 59 := ⟨by kernel_rfl⟩
theorem fn60 : Fnc Try.prog 60 := ⟨by kernel_rfl⟩
theorem fn80 : Fnc Try.prog 80 := ⟨by kernel_rfl⟩
theorem mix : Try.prog.follows .mixedOrders = true := by kernel_rfl
theorem o3 : One Try.prog 3 := ⟨_, Try.underlying3, rfl, by kernel_rfl⟩
theorem o22 : One Try.prog 22 := ⟨_, Try.underlying22, rfl, by kernel_rfl⟩
theorem o37 : One Try.prog 37 := ⟨_, Try.underlying37, rfl, by kernel_rfl⟩
theorem o91 : One Try.prog 91 := ⟨_, Try.underlying91, rfl, by kernel_rfl⟩
theorem s22 : Slc Try.prog 22 62 3 32 [.string ⟨#[]⟩, .int .i64 0, .int .i64 0] := ⟨Try.underlying22, by kernel_rfl, rfl⟩
theorem s37 : Slc Try.prog 37 3 1 8 [.int .i64 0] := ⟨Try.underlying37, by kernel_rfl, rfl⟩
theorem s42 : Slc Try.prog 42 37 1 24 [.slice none 0 0] := ⟨Try.underlying42, by kernel_rfl, rfl⟩
theorem s45 : Slc Try.prog 45 37 1 24 [.slice none 0 0] := ⟨Try.underlying45, by kernel_rfl, rfl⟩
theorem indexR_calls (w : World) (v : Value) (xs : List Int) (x : Int) (hx : Rd eI 1 w v xs) : Calls Try.prog 57 #[v, .int .i64 x] w fun e w' => e = .returned (.int .i64 (idxI xs x)) ∧ Z w w [] [] w' := by
  obtain ⟨A, c, rfl⟩ : ∃ A c, v = .slice A xs.length c := by obtain ⟨A, c, h, _⟩ := hx; exact ⟨A, c, h⟩
  have hbx := Rd.len_bd hx
  refine enter (args := [_, _]) Try.func57 rfl rfl rfl (C := Z w w [] []) (Z.start (H.nil w)) ?_
  refine .seq (.reg (.q (.assign rfl) (.nil (.code ?_))))
  refine .seq (.seq (.reg (.q (.move rfl) (.q (.lenS s37.t rfl) (.q (.move rfl) (.nil (.code ?_)))))))
  refine .block (.lp (fun i : Nat => [(0, .slice A xs.length c), (1, .int .i64 x), (7, .int .i64 (xs.length : Int)), (8, .int .i64 (i : Int))]) (fun _ => []) (fun i => i ≤ xs.length ∧ ∀ j (hj : j < xs.length), j < i → xs[j] ≠ x) (fun i => xs.length - i) 0 ⟨rfl, rfl, rfl, rfl, trivial⟩ (fun _ h => h) ⟨Nat.zero_le _, fun _ _ h => absurd h (by omega)⟩ fun i hk => ?_)
  obtain ⟨hk1, hk2⟩ := hk
  refine .seq (.reg (.ltS rfl rfl (fun h9 => ?_) (fun h9 => ?_)))
  · have hi : i < xs.length := by omega
    obtain ⟨xb, xo, xc, hxe, hxr⟩ := Rd.at hx hi
    cases hxe
    refine .nil (.code ?_)
    refine .seq (.tt (.skip (.code ?_)))
    refine .seq (.block (.seq (.reg (.q (.move rfl) (.q (.assign rfl) (.nil (.code ?_)))))))
    refine .seq (.reg (.q (.move rfl) (.q (.move rfl) (.q (.move rfl) (.q (.ix s37 rfl rfl (by omega)) (.q (.ldW (v := .int .i64 xs[i]) o3 rfl (by have := hxr 0 (by omega); exact this)) (.eqS rfl rfl (fun h16 => ?_) (fun h16 => ?_))))))))
    · refine .nil (.code ?_)
      refine .tt (.seq (.reg (.q (.move rfl) (.q (.assign rfl) (.nil (.code ?_))))))
      refine .ret (.inbR (.thR (.thR (.inbR (.thR (.ret1 Try.results57 rfl fun w1 hz => ⟨by rw [idxI_at hi h16 hk2], hz⟩))))))
    · refine .nil (.code ?_)
      refine .ff (.skip (.inbN (.code ?_)))
      refine .reg (.q (.add rfl rfl (IntWalk.i64_in _ (by omega))) (.q (.move rfl) (.nil (.rd (i + 1) ⟨rfl, rfl, rfl, rfl, trivial⟩ (fun _ h => h) ⟨by omega, fun j hj h => by
      rcases Nat.lt_or_ge j i with h2 | h2
      · exact hk2 j hj h2
      · obtain rfl : j = i := by omega
        exact fun e => h16 e.symm⟩ (by omega)))))
  · refine .nil (.code ?_)
    refine .seq (.ff (.exit (.thE (.thE (.inbX (.code ?_))))))
    refine .seq (.reg (.q (.assign rfl) (.nil (.code ?_))))
    refine .ret (.ret1 Try.results57 rfl fun w1 hz => ⟨by rw [idxI_no fun j hj => hk2 j hj (by omega)], hz⟩)


theorem idxI_ge (xs : List Int) (x : Int) : decide (idxI xs x ≥ 0) = decide (x ∈ xs) := by
  unfold idxI
  by_cases h : x ∈ xs
  · rw [if_pos h, decide_eq_true h]; exact decide_eq_true (by omega)
  · rw [if_neg h, decide_eq_false h]; exact decide_eq_false (by omega)

theorem contains_calls (w : World) (v : Value) (xs : List Int) (x : Int) (hx : Rd eI 1 w v xs) : Calls Try.prog 40 #[v, .int .i64 x] w fun e w' => e = .returned (.bool (decide (x ∈ xs))) ∧ Z w w [] [] w' := by
  refine enter (args := [_, _]) Try.func40 rfl rfl rfl (C := Z w w [] []) (Z.start (H.nil w)) ?_
  refine .seq (.reg (.q (.assign rfl) (.nil (.code ?_))))
  refine .seq (.reg (.q (.move rfl) (.q (.move rfl) (.q (.call fn57 rfl (fun w hz => indexR_calls w v xs x (hx.below hz.h.below))) (.q (.cmp rfl rfl rfl) (.q (.assign rfl) (.nil (.code ?_))))))))
  refine .ret (.ret1 Try.results40 rfl fun w1 hz => ⟨bv (idxI_ge xs x).symm, hz⟩)

theorem has_calls (w : World) (v : Value) (xs : List Int) (x : Int) (hx : Rd eI 1 w v xs) : Calls Try.prog 20 #[v, .int .i64 x] w fun e w' => e = .returned (.bool (decide (x ∈ xs))) ∧ Z w w [] [] w' := by
  obtain ⟨A, c, rfl⟩ : ∃ A c, v = .slice A xs.length c := by obtain ⟨A, c, h, _⟩ := hx; exact ⟨A, c, h⟩
  have hbx := Rd.len_bd hx
  refine enter (args := [_, _]) Try.func20 rfl rfl rfl (C := Z w w [] []) (Z.start (H.nil w)) ?_
  refine .seq (.reg (.q (.assign rfl) (.nil (.code ?_))))
  refine .seq (.seq (.reg (.q (.move rfl) (.q (.lenS s37.t rfl) (.q (.move rfl) (.nil (.code ?_)))))))
  refine .block (.lp (fun i : Nat => [(1, .int .i64 x), (7, .slice A xs.length c), (8, .int .i64 (xs.length : Int)), (9, .int .i64 (i : Int))]) (fun _ => []) (fun i => i ≤ xs.length ∧ ∀ j (hj : j < xs.length), j < i → xs[j] ≠ x) (fun i => xs.length - i) 0 ⟨rfl, rfl, rfl, rfl, trivial⟩ (fun _ h => h) ⟨Nat.zero_le _, fun _ _ h => absurd h (by omega)⟩ fun i hk => ?_)
  obtain ⟨hk1, hk2⟩ := hk
  refine .seq (.reg (.ltS rfl rfl (fun h10 => ?_) (fun h10 => ?_)))
  · have hi : i < xs.length := by omega
    obtain ⟨xb, xo, xc, hxe, hxr⟩ := Rd.at hx hi
    cases hxe
    refine .nil (.code ?_)
    refine .seq (.tt (.skip (.code ?_)))
    refine .seq (.block (.seq (.reg (.q (.ix s37 rfl rfl (by omega)) (.q (.ldW (v := .int .i64 xs[i]) o3 rfl (by have := hxr 0 (by omega); exact this)) (.q (.assign rfl) (.nil (.code ?_))))))))
    refine .seq (.reg (.q (.move rfl) (.q (.move rfl) (.eqS rfl rfl (fun h15 => ?_) (fun h15 => ?_)))))
    · refine .nil (.code ?_)
      refine .tt (.seq (.reg (.q (.assign rfl) (.nil (.code ?_)))))
      refine .ret (.inbR (.thR (.thR (.inbR (.thR (.ret1 Try.results20 rfl fun w1 hz => ⟨bv (by rw [decide_eq_true (h15 ▸ List.getElem_mem hi)]), hz⟩))))))
    · refine .nil (.code ?_)
      refine .ff (.skip (.inbN (.code ?_)))
      refine .reg (.q (.add rfl rfl (IntWalk.i64_in _ (by omega))) (.q (.move rfl) (.nil (.rd (i + 1) ⟨rfl, rfl, rfl, rfl, trivial⟩ (fun _ h => h) ⟨by omega, fun j hj h => by
      rcases Nat.lt_or_ge j i with h2 | h2
      · exact hk2 j hj h2
      · obtain rfl : j = i := by omega
        exact h15⟩ (by omega)))))
  · refine .nil (.code ?_)
    refine .seq (.ff (.exit (.thE (.thE (.inbX (.code ?_))))))
    refine .seq (.reg (.q (.assign rfl) (.nil (.code ?_))))
    refine .ret (.ret1 Try.results20 rfl fun w1 hz => ⟨bv (by rw [decide_eq_false]; intro hm; obtain ⟨j, hj, e⟩ := List.getElem_of_mem hm; exact hk2 j hj (by omega) e), hz⟩)

theorem indexF_calls (w : World) (v : Value) (xs : List Int) (hx : Rd eI 1 w v xs) (f : FuncId) (cap : List Value) (hF : Fnc Try.prog f) (hf : ∀ x ∈ xs, ∀ w1, Z w w [] [] w1 → Calls Try.prog f (([] : List Value) ++ [Value.int .i64 x] ++ cap).toArray w1 fun e w' => e = .returned (.bool false) ∧ Z w1 w1 [] [] w') : Calls Try.prog 80 #[v, .func (.func f) #[] cap.toArray] w fun e w' => e = .returned (.int .i64 (-1)) ∧ Z w w [] [] w' := by
  obtain ⟨A, c, rfl⟩ : ∃ A c, v = .slice A xs.length c := by obtain ⟨A, c, h, _⟩ := hx; exact ⟨A, c, h⟩
  have hbx := Rd.len_bd hx
  refine enter (args := [_, _]) Try.func80 rfl rfl rfl (C := Z w w [] []) (Z.start (H.nil w)) ?_
  refine .seq (.reg (.q (.assign rfl) (.nil (.code ?_))))
  refine .seq (.seq (.reg (.q (.move rfl) (.q (.lenS s37.t rfl) (.q (.move rfl) (.nil (.code ?_)))))))
  refine .block (.lp (fun i : Nat => [(0, .slice A xs.length c), (1, .func (.func f) #[] cap.toArray), (7, .int .i64 (xs.length : Int)), (8, .int .i64 (i : Int))]) (fun _ => []) (fun i => i ≤ xs.length) (fun i => xs.length - i) 0 ⟨rfl, rfl, rfl, rfl, trivial⟩ (fun _ h => h) (Nat.zero_le _) fun i hk1 => ?_)
  refine .seq (.reg (.ltS rfl rfl (fun h9 => ?_) (fun h9 => ?_)))
  · have hi : i < xs.length := by omega
    obtain ⟨xb, xo, xc, hxe, hxr⟩ := Rd.at hx hi
    cases hxe
    refine .nil (.code ?_)
    refine .seq (.tt (.skip (.code ?_)))
    refine .seq (.block (.seq (.reg (.q (.move rfl) (.q (.assign rfl) (.nil (.code ?_)))))))
    refine .seq (.reg (.q (.move rfl) (.q (.move rfl) (.q (.move rfl) (.q (.ix s37 rfl rfl (by omega)) (.q (.ldW (v := .int .i64 xs[i]) o3 rfl (by have := hxr 0 (by omega); exact this)) (.q (.callC (v := .bool false) hF rfl rfl fun w1 hz => (hf xs[i] (List.getElem_mem hi) w1 hz).mono fun e w2 h => ⟨h.1, hz.callA h.2⟩) (.nil (.code ?_)))))))))
    refine .ff (.skip (.inbN (.code ?_)))
    refine .reg (.q (.add rfl rfl (IntWalk.i64_in _ (by omega))) (.q (.move rfl) (.nil (.rd (i + 1) ⟨rfl, rfl, rfl, rfl, trivial⟩ (fun _ h => h) (by omega) (by omega)))))
  · refine .nil (.code ?_)
    refine .seq (.ff (.exit (.thE (.thE (.inbX (.code ?_))))))
    refine .seq (.reg (.q (.assign rfl) (.nil (.code ?_))))
    refine .ret (.ret1 Try.results80 rfl fun w1 hz => ⟨rfl, hz⟩)

theorem containsF_calls (w : World) (v : Value) (xs : List Int) (hx : Rd eI 1 w v xs) (f : FuncId) (cap : List Value) (hF : Fnc Try.prog f) (hf : ∀ x ∈ xs, ∀ w1, Z w w [] [] w1 → Calls Try.prog f (([] : List Value) ++ [Value.int .i64 x] ++ cap).toArray w1 fun e w' => e = .returned (.bool false) ∧ Z w1 w1 [] [] w') : Calls Try.prog 58 #[v, .func (.func f) #[] cap.toArray] w fun e w' => e = .returned (.bool false) ∧ Z w w [] [] w' := by
  refine enter (args := [_, _]) Try.func58 rfl rfl rfl (C := Z w w [] []) (Z.start (H.nil w)) ?_
  refine .seq (.reg (.q (.assign rfl) (.nil (.code ?_))))
  refine .seq (.reg (.q (.move rfl) (.q (.move rfl) (.q (.call fn80 rfl (fun w hz => indexF_calls w v xs (hx.below hz.h.below) f cap hF (fun x hx w1 hz1 => hf x hx w1 (hz.callA hz1)))) (.q (.cmp rfl rfl (geF (by omega))) (.q (.assign rfl) (.nil (.code ?_))))))))
  refine .ret (.ret1 Try.results58 rfl fun w1 hz => ⟨rfl, hz⟩)

theorem checkF_calls (w : World) (R J D : Nat) (lv rv mv : Value) (l : List Tk) (rs : List (List Int)) (s : Rn) (K N : Nat) (hW : RnW w R J D lv rv mv l.length s) (hl : Rd encT 3 w lv l) (hr : Rd2 w rv rs) (hI : RnI l rs s K N) (a b : Nat) (x slot : Int) (h0 : 0 ≤ x) (h1 : x.toNat < l.length) (hp : pendS l rs s x.toNat slot = true) (ha : w.cell? ⟨a, 0, none⟩ = some (.pointer (some ⟨R, 0, none⟩))) (hb : w.cell? ⟨b, 0, none⟩ = some (.int .i64 slot)) : Calls Try.prog 59 (([] : List Value) ++ [Value.int .i64 x] ++ [Value.pointer (some ⟨a, 0, none⟩), Value.pointer (some ⟨b, 0, none⟩)]).toArray w fun e w' => e = .returned (.bool false) ∧ Z w w [] [] w' := by
  refine enter (args := [_, _, _]) Try.func59 rfl rfl rfl (C := Z w w [] []) (Z.start (H.nil w)) ?_
  refine .seq (.reg (.q (.assign rfl) (.nil (.code ?_))))
  refine .seq (.reg (.q (.ldW o91 rfl ha) (.q (.move rfl) (.q (.ldW o3 rfl hb) (.q (.call (v := .bool true) fn60 rfl (fun w1 hz => by have h9 := pending_calls w1 R J D lv rv mv l rs s K N (hW.up hz) (hl.below hz.h.below) (hr.below hz.h.below) hI x.toNat h1 slot; rw [hp, Int.toNat_of_nonneg h0] at h9; exact h9)) (.q (.notB rfl) (.q (.assign rfl) (.nil (.code ?_)))))))))
  refine .ret (.ret1 Try.results59 rfl fun w1 hz => ⟨rfl, hz⟩)


/-- A slot that is good. -/
structure GoodRun (l : List Tk) (rs : List (List Int)) (s : Rn) (run : List Int) (slot cores : Int) : Prop where
  form : ∀ k (h : k < run.length), 0 ≤ run[k] ∧ run[k] < l.length ∧ (0 < k → run[k - 1] < run[k])
  load : (run.length : Int) ≤ cores
  state : ∀ x ∈ run, pendS l rs s x.toNat slot = true

theorem check_calls (w : World) (R J D : Nat) (lv rv mv : Value) (l : List Tk) (rs : List (List Int)) (s : Rn) (K N : Nat) (hW : RnW w R J D lv rv mv l.length s) (hl : Rd encT 3 w lv l) (hr : Rd2 w rv rs) (hI : RnI l rs s K N) (v : Value) (run : List Int) (slot cores : Int) (hx : Rd eI 1 w v run) (hg : GoodRun l rs s run slot cores) : Calls Try.prog 44 #[.pointer (some ⟨R, 0, none⟩), v, .int .i64 slot, .int .i64 cores] w fun e w' => e = .returned (.int .i64 0) ∧ Z w w [] [] w' := by
  obtain ⟨A, c, rfl⟩ : ∃ A c, v = .slice A run.length c := by obtain ⟨A, c, h, _⟩ := hx; exact ⟨A, c, h⟩
  have hbx := Rd.len_bd hx
  obtain ⟨lA, lc, rfl⟩ : ∃ A c, lv = .slice A l.length c := by obtain ⟨A, c, h, _⟩ := hl; exact ⟨A, c, h⟩
  have hload := hg.load
  refine enter (args := [_, _, _, _]) Try.func44 rfl rfl rfl (C := Z w w [] []) (Z.start (H.nil w)) ?_
  refine .seq (.reg (.box rfl fun b4 => .box rfl fun b6 => .q (.assign rfl) (.nil (.code ?_))))
  refine .seq (.seq (.reg (.q (.move rfl) (.q (.lenS s37.t rfl) (.q (.move rfl) (.nil (.code ?_)))))))
  refine .block (.lp (fun i : Nat => [(1, .slice A run.length c), (3, .int .i64 cores), (4, .pointer (some ⟨b4, 0, none⟩)), (6, .pointer (some ⟨b6, 0, none⟩)), (11, .slice A run.length c), (12, .int .i64 (run.length : Int)), (13, .int .i64 (i : Int))]) (fun _ => [(b6, .cells (Value.int .i64 slot).cells 3 (0, 0)), (b4, .cells (Value.pointer (some ⟨R, 0, none⟩)).cells 91 (0, 0))]) (fun i => i ≤ run.length) (fun i => run.length - i) 0 ⟨rfl, rfl, rfl, rfl, rfl, rfl, rfl, trivial⟩ (fun _ h => h) (Nat.zero_le _) fun i hk1 => ?_)
  refine .seq (.reg (.ltS rfl rfl (fun h14 => ?_) (fun h14 => ?_)))
  · have hi : i < run.length := by omega
    obtain ⟨xb, xo, xc, hxe, hxr⟩ := Rd.at hx hi
    cases hxe
    obtain ⟨f1, f2, f3⟩ := hg.form i hi
    refine .nil (.code ?_)
    refine .seq (.tt (.skip (.code ?_)))
    refine .seq (.block (.seq (.reg (.q (.move rfl) (.q (.ix s37 rfl rfl (by omega)) (.q (.ldW (v := .int .i64 run[i]) o3 rfl (by have := hxr 0 (by omega); exact this)) (.q (.assign rfl) (.q (.assign rfl) (.nil (.code ?_))))))))))
    refine .seq (.reg (.q (.move rfl) (.q (.cmp rfl rfl (ltF (by omega))) (.q (.move rfl) (.q (.move rfl) (.q (.ldO o91 1 rfl rfl rfl) (.q (.nilP rfl) (.q (.fld f96_0 rfl) (.q (.ldW o22 rfl (cellOf hW.hR rfl)) (.q (.lenS s22.t rfl) (.q (.cmp rfl rfl (geF (by omega))) (.q (.pickF rfl rfl) (.q (.move rfl) (.q (.move rfl) (.gtS rfl rfl (fun h31 => ?_) (fun h31 => ?_))))))))))))))))
    · have hi0 : 0 < i := by omega
      obtain ⟨yb, yo, yc, hye, hyr⟩ := Rd.at hx (show i - 1 < run.length by omega)
      cases hye
      have f4 := f3 hi0
      refine .q (.move rfl) (.q (.move rfl) (.q (.move rfl) (.q (.sub rfl rfl (show _ = ((i - 1 : Nat) : Int) by rw [IntWalk.i64_in _ (by omega)]; omega)) (.q (.ix s37 rfl rfl (by omega)) (.q (.ldW (v := .int .i64 run[i - 1]) o3 rfl (by have := hyr 0 (by omega); exact this)) (.q (.move rfl) (.q (.cmp rfl rfl (geF (by omega))) (.q (.pickT rfl rfl) (.q (.pickF rfl rfl) (.nil (.code ?_)))))))))))
      refine .ff (.skip (.inbN (.code ?_)))
      refine .reg (.q (.add rfl rfl (IntWalk.i64_in _ (by omega))) (.q (.move rfl) (.nil (.rd (i + 1) ⟨rfl, rfl, rfl, rfl, rfl, rfl, rfl, trivial⟩ (fun _ h => h) (by omega) (by omega)))))
    · refine .q (.move rfl) (.skip (.skip (.skip (.skip (.skip (.skip (.skip (.q (.pickF rfl rfl) (.q (.pickF rfl rfl) (.nil (.code ?_)))))))))))
      refine .ff (.skip (.inbN (.code ?_)))
      refine .reg (.q (.add rfl rfl (IntWalk.i64_in _ (by omega))) (.q (.move rfl) (.nil (.rd (i + 1) ⟨rfl, rfl, rfl, rfl, rfl, rfl, rfl, trivial⟩ (fun _ h => h) (by omega) (by omega)))))
  · refine .nil (.code ?_)
    refine .seq (.ff (.exit (.thE (.thE (.inbX (.code ?_))))))
    refine .seq (.seq (.reg (.q (.move rfl) (.q (.lenS s37.t rfl) (.q (.move rfl) (.q (.cmp rfl rfl (gtF (by omega))) (.nil (.code ?_))))))))
    refine .ff (.skip (.code ?_))
    refine .seq (.seq (.reg (.q (.move rfl) (.q (.mkf rfl rfl) (.q (.call (v := .bool false) fn58 rfl (fun w1 hz => containsF_calls w1 _ run (hx.below hz.h.below) 59 [.pointer (some ⟨b4, 0, none⟩), .pointer (some ⟨b6, 0, none⟩)] fn59 (fun x hxm w2 hz2 => by
        obtain ⟨k, hk, rfl⟩ := List.getElem_of_mem hxm
        obtain ⟨g1, g2, _⟩ := hg.form k hk
        exact checkF_calls w2 R J D _ rv mv l rs s K N ((hW.up hz).up hz2) ((hl.below hz.h.below).below hz2.h.below) ((hr.below hz.h.below).below hz2.h.below) hI b4 b6 _ slot g1 (by omega) (hg.state _ hxm) (hz2.old (cellOf (hz.has (i := 1) rfl) rfl)) (hz2.old (cellOf (hz.has (i := 0) rfl) rfl))))) (.nil (.code ?_)))))))
    refine .ff (.skip (.code ?_))
    refine .seq (.reg (.q (.assign rfl) (.nil (.code ?_))))
    refine .ret (.ret1 Try.results44 rfl fun w1 hz => ⟨rfl, hz.sublist (List.nil_sublist _)⟩)


theorem pre_next {sch : List (List Int)} {task : Int} {n : Nat} (h : n < sch.length) : preTo sch task (n + 1) = if task ∈ sch[n] then ((if 0 ≤ (preTo sch task n).2 ∧ (preTo sch task n).2 < (n : Int) - 1 then (preTo sch task n).1 + 1 else (preTo sch task n).1), (n : Int)) else preTo sch task n := by
  rw [preTo, List.getElem?_eq_getElem h]

theorem preempt_calls (w : World) (v : Value) (sch : List (List Int)) (task : Int) (hx : Rd2 w v sch) (hn : sch.length ≤ 1000000) : Calls Try.prog 21 #[v, .int .i64 task] w fun e w' => e = .returned (.int .i64 (preS sch task)) ∧ Z w w [] [] w' := by
  obtain ⟨A, c, rfl⟩ := hx.len
  refine enter (args := [_, _]) Try.func21 rfl rfl rfl (C := Z w w [] []) (Z.start (H.nil w)) ?_
  refine .seq (.reg (.q (.assign rfl) (.nil (.code ?_))))
  refine .seq (.reg (.q (.assign rfl) (.q (.assign rfl) (.nil (.code ?_)))))
  refine .seq (.seq (.reg (.q (.move rfl) (.q (.lenS s45.t rfl) (.q (.move rfl) (.nil (.code ?_)))))))
  refine .block (.lp (fun z : Nat × Int × Int => [(1, .int .i64 task), (5, .int .i64 z.2.1), (6, .int .i64 z.2.2), (9, .slice A sch.length c), (10, .int .i64 (sch.length : Int)), (11, .int .i64 (z.1 : Int))]) (fun _ => []) (fun z => z.1 ≤ sch.length ∧ z.2 = preTo sch task z.1 ∧ 0 ≤ z.2.1 ∧ z.2.1 ≤ z.1 ∧ -1 ≤ z.2.2 ∧ z.2.2 < z.1) (fun z => sch.length - z.1) (0, 0, -1) ⟨rfl, rfl, rfl, rfl, rfl, rfl, trivial⟩ (fun _ h => h) ⟨Nat.zero_le _, rfl, Int.le_refl _, by simp, by simp, by simp⟩ fun ⟨i, n, la⟩ hk => ?_)
  obtain ⟨hk1, hk2, hk3⟩ := hk
  simp only at hk1 hk2 hk3
  show WC _ _ _ _ (Z w w _ []) [(1, .int .i64 task), (5, .int .i64 n), (6, .int .i64 la), (9, .slice A sch.length c), (10, .int .i64 (sch.length : Int)), (11, .int .i64 (i : Int))]
  refine .seq (.reg (.ltS rfl rfl (fun h12 => ?_) (fun h12 => ?_)))
  · have hi : i < sch.length := by omega
    obtain ⟨xb, xo, xc, xA, xc2, hxe, hcell, hrow⟩ := Rd2.at hx hi
    cases hxe
    refine .nil (.code ?_)
    refine .seq (.tt (.skip (.code ?_)))
    refine .seq (.block (.seq (.reg (.q (.move rfl) (.q (.ix s45 rfl rfl (by omega)) (.q (.ldW o37 rfl hcell) (.q (.assign rfl) (.q (.assign rfl) (.nil (.code ?_))))))))))
    refine .seq (.seq (.reg (.q (.move rfl) (.q (.move rfl) (.qB (.call fn40 rfl (fun w hz => contains_calls w _ sch[i] task (hrow.below hz.h.below))) (fun h18 => ?_) (fun h18 => ?_))))))
    · refine .q (.notB rfl) (.nil (.code ?_))
      refine .ff (.skip (.code ?_))
      refine .seq (.seq (.reg (.q (.move rfl) (.geS rfl rfl (fun h21 => ?_) (fun h21 => ?_)))))
      · refine .q (.move rfl) (.q (.move rfl) (.q (.move rfl) (.q (.sub rfl rfl (IntWalk.i64_in _ (by omega))) (.ltS rfl rfl (fun h26 => ?_) (fun h26 => ?_)))))
        · refine .q (.pickT rfl rfl) (.nil (.code ?_))
          refine .tt (.reg (.q (.move rfl) (.q (.add rfl rfl (IntWalk.i64_in _ (by omega))) (.q (.assign rfl) (.nil (.code ?_))))))
          refine .reg (.q (.move rfl) (.q (.assign rfl) (.nil (.inbN (.code ?_)))))
          refine .reg (.q (.add rfl rfl (IntWalk.i64_in _ (by omega))) (.q (.move rfl) (.nil (.rd (i + 1, n + 1, (i : Int)) ⟨rfl, rfl, rfl, rfl, rfl, rfl, trivial⟩ (fun _ h => h) ⟨by simp only; omega, by rw [pre_next hi, if_pos (of_decide_eq_true h18), ← hk2, if_pos ⟨by simp only; omega, by simp only; omega⟩], by simp only; omega⟩ (by simp only; omega)))))
        · refine .q (.pickT rfl rfl) (.nil (.code ?_))
          refine .ff (.skip (.code ?_))
          refine .reg (.q (.move rfl) (.q (.assign rfl) (.nil (.inbN (.code ?_)))))
          refine .reg (.q (.add rfl rfl (IntWalk.i64_in _ (by omega))) (.q (.move rfl) (.nil (.rd (i + 1, n, (i : Int)) ⟨rfl, rfl, rfl, rfl, rfl, rfl, trivial⟩ (fun _ h => h) ⟨by simp only; omega, by rw [pre_next hi, if_pos (of_decide_eq_true h18), ← hk2, if_neg (by simp only; omega)], by simp only; omega⟩ (by simp only; omega)))))
      · refine .q (.move rfl) (.skip (.skip (.skip (.skip (.q (.pickF rfl rfl) (.nil (.code ?_)))))))
        refine .ff (.skip (.code ?_))
        refine .reg (.q (.move rfl) (.q (.assign rfl) (.nil (.inbN (.code ?_)))))
        refine .reg (.q (.add rfl rfl (IntWalk.i64_in _ (by omega))) (.q (.move rfl) (.nil (.rd (i + 1, n, (i : Int)) ⟨rfl, rfl, rfl, rfl, rfl, rfl, trivial⟩ (fun _ h => h) ⟨by simp only; omega, by rw [pre_next hi, if_pos (of_decide_eq_true h18), ← hk2, if_neg (by simp only; omega)], by simp only; omega⟩ (by simp only; omega)))))
    · refine .q (.notB rfl) (.nil (.code ?_))
      refine .tt (.exit (.thE (.inbX (.code ?_))))
      refine .reg (.q (.add rfl rfl (IntWalk.i64_in _ (by omega))) (.q (.move rfl) (.nil (.rd (i + 1, n, la) ⟨rfl, rfl, rfl, rfl, rfl, rfl, trivial⟩ (fun _ h => h) ⟨by simp only; omega, by rw [pre_next hi, if_neg (of_decide_eq_false h18)]; exact hk2, by simp only; omega⟩ (by simp only; omega)))))
  · refine .nil (.code ?_)
    refine .seq (.ff (.exit (.thE (.thE (.inbX (.code ?_))))))
    refine .seq (.reg (.q (.move rfl) (.q (.assign rfl) (.nil (.code ?_)))))
    refine .ret (.ret1 Try.results21 rfl fun w1 hz => ⟨iv (by rw [preS, show sch.length = i by omega, ← hk2]), hz⟩)

end Go.Proofs.Ytjccenbacjhglaa.S7
