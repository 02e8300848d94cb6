import Derived.Test.YtjccenbacjhglaaGreatDoorProg
import Derived.Test.YtjccenbacjhglaaGreatDoorK
import Derived.Test.YtjccenbacjhglaaGreatDoorM2
import Derived.Test.YtjccenbacjhglaaGreatDoorKS
import Derived.Test.YtjccenbacjhglaaGreatDoorKB
import Derived.Test.YtjccenbacjhglaaGreatDoorST
import Derived.Test.YtjccenbacjhglaaGreatDoorSH
import Derived.Test.YtjccenbacjhglaaGreatDoorSC
import Derived.Test.YtjccenbacjhglaaGreatDoorAU
import Derived.Test.YtjccenbacjhglaaGreatDoorAU4
import Derived.Test.YtjccenbacjhglaaGreatDoorAU8
import Derived.Test.YtjccenbacjhglaaGreatDoorT1
import Derived.Test.YtjccenbacjhglaaGreatDoorT2
import Derived.Test.YtjccenbacjhglaaGreatDoorT3
import Derived.Test.YtjccenbacjhglaaGreatDoorT4
set_option linter.unusedVariables false
set_option linter.unusedSimpArgs false
set_option maxRecDepth 100000
set_option maxHeartbeats 1000000
namespace Go.Proofs.YtjccenbacjhglaaGreatDoor.T5
open Go Go.Proofs Go.RowKit Go.Proofs.YtjccenbacjhglaaGreatDoor.K Go.Proofs.YtjccenbacjhglaaGreatDoor.M Go.Proofs.YtjccenbacjhglaaGreatDoor.ST Go.Proofs.YtjccenbacjhglaaGreatDoor.SC Go.Proofs.YtjccenbacjhglaaGreatDoor.AU Go.Proofs.YtjccenbacjhglaaGreatDoor.AU4 Go.Proofs.YtjccenbacjhglaaGreatDoor.AU8 Go.Proofs.YtjccenbacjhglaaGreatDoor.T1 Go.Proofs.YtjccenbacjhglaaGreatDoor.T2 Go.Proofs.YtjccenbacjhglaaGreatDoor.T3 Go.Proofs.YtjccenbacjhglaaGreatDoor.T4
theorem a26 : Ag Tryz.prog 26 8 := ⟨_, Tryz.underlying26, rfl, by kernel_rfl⟩
theorem eq26 : EqS Tryz.prog 26 [.i64, .i64, .i64, .i64, .u8, .i64, .i64, .i64] := ⟨by kernel_rfl⟩
theorem f26_0 : Fld Tryz.prog 26 0 0 := ⟨_, _, Tryz.underlying26, rfl, rfl, 0, by kernel_rfl⟩
theorem f26_1 : Fld Tryz.prog 26 1 1 := ⟨_, _, Tryz.underlying26, rfl, rfl, 0, by kernel_rfl⟩
theorem f26_2 : Fld Tryz.prog 26 2 2 := ⟨_, _, Tryz.underlying26, rfl, rfl, 0, by kernel_rfl⟩
theorem f26_3 : Fld Tryz.prog 26 3 3 := ⟨_, _, Tryz.underlying26, rfl, rfl, 0, by kernel_rfl⟩
theorem f26_5 : Fld Tryz.prog 26 5 5 := ⟨_, _, Tryz.underlying26, rfl, rfl, 0, by kernel_rfl⟩
theorem f26_6 : Fld Tryz.prog 26 6 6 := ⟨_, _, Tryz.underlying26, rfl, rfl, 0, by kernel_rfl⟩
theorem f26_7 : Fld Tryz.prog 26 7 7 := ⟨_, _, Tryz.underlying26, rfl, rfl, 0, by kernel_rfl⟩
theorem mix : Tryz.prog.follows .mixedOrders = true := by kernel_rfl
theorem o3 : One Tryz.prog 3 := ⟨_, Tryz.underlying3, rfl, by kernel_rfl⟩
theorem s22 : Slc Tryz.prog 22 26 8 64 [.int .i64 0, .int .i64 0, .int .i64 0, .int .i64 0, .int .u8 0, .int .i64 0, .int .i64 0, .int .i64 0] := ⟨Tryz.underlying22, by kernel_rfl, rfl⟩
theorem s41 : Slc Tryz.prog 41 3 1 8 [.int .i64 0] := ⟨Tryz.underlying41, by kernel_rfl, rfl⟩
theorem z26 : Zr Tryz.prog 26 [.int .i64 0, .int .i64 0, .int .i64 0, .int .i64 0, .int .u8 0, .int .i64 0, .int .i64 0, .int .i64 0] := ⟨by kernel_rfl⟩

def big (n : Int) : Bool := decide (1152921504606846976 < n ∨ n < -1152921504606846976)
def nums7 (e : Ev) : List Int := [e.s, e.cy, e.t, e.j, e.c, e.v, e.po]
def hugeB (l : List Ev) : Bool := l.any fun e => (nums7 e).any big
theorem huge_yes {l : List Ev} {i j : Nat} (hi : i < l.length) (hj : j < 7) (h : big ((nums7 l[i])[j]'hj) = true) : hugeB l = true :=
  List.any_eq_true.2 ⟨l[i], List.getElem_mem hi, List.any_eq_true.2 ⟨_, List.getElem_mem (show j < (nums7 l[i]).length from hj), h⟩⟩
theorem any_step {α : Type} {f : α → Bool} {l : List α} {j : Nat} (hj : j < l.length) (h : (l.take j).any f = false) (hf : f l[j] = false) : (l.take (j + 1)).any f = false := by
  rw [List.take_succ_eq_append_getElem hj, List.any_append, h]; simp [hf]
theorem big_63 {n : Int} (h : big n = false) : R63 n := by simp [big] at h; exact ⟨by omega, by omega⟩
theorem huge_63 {l : List Ev} (h : hugeB l = false) : ∀ e ∈ l, E63 e := fun e he => by
  have h1 := List.any_eq_false.1 h e he
  have h2 : ∀ n ∈ nums7 e, R63 n := fun n hn => big_63 (by have := List.any_eq_false.1 (by simpa using h1 : (nums7 e).any big = false) n hn; simpa using this)
  exact ⟨h2 _ (by simp [nums7]), h2 _ (by simp [nums7]), h2 _ (by simp [nums7]), h2 _ (by simp [nums7]), h2 _ (by simp [nums7]), h2 _ (by simp [nums7]), h2 _ (by simp [nums7])⟩
theorem OS.rd {α : Type} {enc : α → List Value} {e k : Nat} {v : Value} {xs : List α} {Lx : List Blk} (hk : ∀ x, (enc x).length = k) (h : OS e k v (xs.flatMap enc) xs.length Lx) (hn : xs.length ≤ 140737488355328) {w0 we w : World} {Le L : List Blk} (hz : Z w0 we Le L w) (hs : ∀ x ∈ Lx, x ∈ L) : Rd enc k w v xs := by
  obtain ⟨A, c, rfl⟩ := OS.form h
  refine ⟨A, c, rfl, hn, hk, ?_⟩
  by_cases h0 : xs = []
  · exact .inl h0
  · have hpos : 0 < xs.length := List.length_pos_iff.2 h0
    obtain ⟨b, c', e1, _⟩ := OS.read hk h hpos
    injection e1 with e1
    refine .inr ⟨b, 0, e1, fun i hi j hj => ?_⟩
    obtain ⟨b', c', e2, h2⟩ := OS.read hk h hi
    injection e2 with e2
    rw [e1] at e2
    injection e2 with e2
    injection e2 with e2
    subst e2
    exact h2 _ _ w _ _ hz hs j hj
theorem eqE {a b : Ev} (h : [a.s, a.c, a.t, a.j, a.k, a.v, a.cy, a.po] = [b.s, b.c, b.t, b.j, b.k, b.v, b.cy, b.po]) : a = b := by
  cases a; cases b; simp only [List.cons.injEq, and_true] at h; obtain ⟨h1, h2, h3, h4, h5, h6, h7, h8⟩ := h
  subst h1; subst h2; subst h3; subst h4; subst h5; subst h6; subst h7; subst h8; rfl
theorem take_eq {a b : List Ev} {i : Nat} (ha : i < a.length) (hb : i < b.length) (h : a.take i = b.take i) (he : a[i] = b[i]) : a.take (i + 1) = b.take (i + 1) := by
  rw [List.take_succ_eq_append_getElem ha, List.take_succ_eq_append_getElem hb, h, he]

theorem huge_calls (w : World) (tv : Value) (l : List Ev) (ht : Rd encE 8 w tv l) (hn : l.length ≤ 1000000) : Calls Tryz.prog 7 #[tv] w fun r w' => r = .returned (.bool (hugeB l)) ∧ Z w w [] [] w' := by
  obtain ⟨tA, tc, rfl⟩ : ∃ A c, tv = .slice A l.length c := by obtain ⟨A, c, h, _⟩ := ht; exact ⟨A, c, h⟩
  refine enter (args := [_]) Tryz.func7 rfl rfl rfl (C := Z w w [] []) (Z.start (H.nil w)) ?_
  refine .seq (.reg (.q (.assign rfl) (.nil (.code ?_))))
  refine .seq (.seq (.reg (.q (.move rfl) (.q (.lenS s22.t rfl) (.q (.move rfl) (.nil (.code ?_)))))))
  refine .block (.lp (fun i : Nat => [(7, .slice tA l.length tc), (8, .int .i64 (l.length : Int)), (9, .int .i64 (i : Int))]) (fun _ => []) (fun i => i ≤ l.length ∧ hugeB (l.take i) = false) (fun i => l.length - i) 0 ⟨rfl, rfl, rfl, trivial⟩ (fun _ h => h) ⟨Nat.zero_le _, rfl⟩ fun i hi0 => ?_)
  obtain ⟨hi1, hi2⟩ := hi0
  refine .seq (.reg (.ltS rfl rfl (fun h10 => ?_) (fun h10 => ?_)))
  · have hi : i < l.length := by omega
    obtain ⟨tb, toff, tc2, hte, hrd⟩ := Rd.at ht hi
    cases hte
    refine .nil (.code ?_)
    refine .seq (.tt (.skip (.code ?_)))
    refine .seq (.block (.seq (.reg (.q (.ix s22 rfl rfl (by omega)) (.q (.ldWA a26 (cs := encE l[i]) rfl rfl fun j hj => hrd j hj) (.alloc z26 fun b4 => .stA a26 0 rfl rfl rfl rfl rfl rfl (?_)))))))
    show W _ _ _ _ (Z w w _ [(b4, .cells (encE l[i]).toArray 26 (0, 0))]) _ _
    refine .nil (.code ?_)
    refine .seq (.reg (.q (.fld f26_0 rfl) (.q (.ldO (v := .int .i64 l[i].s) o3 0 rfl rfl rfl) (.q (.fld f26_6 rfl) (.q (.ldO (v := .int .i64 l[i].cy) o3 0 rfl rfl rfl) (.q (.fld f26_2 rfl) (.q (.ldO (v := .int .i64 l[i].t) o3 0 rfl rfl rfl) (.q (.fld f26_3 rfl) (.q (.ldO (v := .int .i64 l[i].j) o3 0 rfl rfl rfl) (.q (.fld f26_1 rfl) (.q (.ldO (v := .int .i64 l[i].c) o3 0 rfl rfl rfl) (.q (.fld f26_5 rfl) (.q (.ldO (v := .int .i64 l[i].v) o3 0 rfl rfl rfl) (.q (.fld f26_7 rfl) (.q (.ldO (v := .int .i64 l[i].po) o3 0 rfl rfl rfl) (.bslice s41 rfl rfl rfl fun b27 => (.q (.lenS s41.t rfl) (.q (.move rfl) (.nil (.code ?_))))))))))))))))))))
    refine .block (.lp (fun j : Nat => [(7, .slice (some ⟨tb, toff, none⟩) l.length tc), (8, .int .i64 (l.length : Int)), (9, .int .i64 (i : Int)), (27, .slice (some ⟨b27, 0, none⟩) 7 7), (28, .int .i64 7), (29, .int .i64 (j : Int))]) (fun _ => [(b27, .cells ((nums7 l[i]).map intV).toArray 3 (0, 0)), (b4, .cells (encE l[i]).toArray 26 (0, 0))]) (fun j => j ≤ 7 ∧ ((nums7 l[i]).take j).any big = false) (fun j => 7 - j) 0 ⟨rfl, rfl, rfl, rfl, rfl, rfl, trivial⟩ (fun _ h => h) ⟨by omega, rfl⟩ fun j hj0 => ?_)
    obtain ⟨hj1, hj2⟩ := hj0
    refine .seq (.reg (.ltS rfl rfl (fun h30 => ?_) (fun h30 => ?_)))
    · have hj : j < 7 := by omega
      refine .nil (.code ?_)
      refine .seq (.tt (.skip (.code ?_)))
      refine .seq (.block (.seq (.reg (.q (.ix s41 rfl rfl (by omega)) (.q (.ldO (v := .int .i64 ((nums7 l[i])[j]'hj)) o3 0 rfl rfl (by rw [Nat.zero_add, Nat.mul_one, List.getElem?_map, List.getElem?_eq_getElem (show j < (nums7 l[i]).length from hj)]; rfl)) (.q (.assign rfl) (.nil (.code ?_))))))))
      refine .seq (.reg (.q (.move rfl) (.gtS rfl rfl (fun h34 => ?_) (fun h34 => ?_))))
      · refine .q (.move rfl) (.skip (.skip (.q (.pickT rfl rfl) (.nil (.code ?_)))))
        refine .tt (.seq (.reg (.q (.assign rfl) (.nil (.code ?_)))))
        refine .ret (.inbR (.thR (.thR (.inbR (.inbR (.thR (.thR (.inbR (.thR (.ret1 Tryz.results7 rfl fun w1 hz => ⟨bv (huge_yes hi hj (by simp only [big, decide_eq_true_eq]; omega)), hz.sublist (List.nil_sublist _)⟩))))))))))
      · refine .q (.move rfl) (.q (.move rfl) (.ltS rfl rfl (fun h37 => ?_) (fun h37 => ?_)))
        · refine .q (.pickF rfl rfl) (.nil (.code ?_))
          refine .tt (.seq (.reg (.q (.assign rfl) (.nil (.code ?_)))))
          refine .ret (.inbR (.thR (.thR (.inbR (.inbR (.thR (.thR (.inbR (.thR (.ret1 Tryz.results7 rfl fun w1 hz => ⟨bv (huge_yes hi hj (by simp only [big, decide_eq_true_eq]; omega)), hz.sublist (List.nil_sublist _)⟩))))))))))
        · refine .q (.pickF rfl rfl) (.nil (.code ?_))
          refine .ff (.skip (.inbN (.code ?_)))
          refine .reg (.q (.add rfl rfl (IntWalk.i64_in _ (by omega))) (.q (.move rfl) (.nil (.rd (j + 1) ⟨rfl, rfl, rfl, rfl, rfl, rfl, trivial⟩ (fun _ h => h) ⟨by omega, any_step (show j < (nums7 l[i]).length from hj) hj2 (by simp only [big, decide_eq_false_iff_not]; omega)⟩ (by omega)))))
    · refine .nil (.code ?_)
      refine .seq (.ff (.exit (.thE (.thE (.inbX (.inbN (.code ?_)))))))
      refine .reg (.q (.add rfl rfl (IntWalk.i64_in _ (by omega))) (.q (.move rfl) (.nil (.rd (i + 1) ⟨rfl, rfl, rfl, trivial⟩ (fun _ h => drp (drp h)) ⟨by omega, any_step hi hi2 (by rw [← List.take_of_length_le (show (nums7 l[i]).length ≤ j by simp [nums7]; omega)]; exact hj2)⟩ (by omega)))))
  · refine .nil (.code ?_)
    refine .seq (.ff (.exit (.thE (.thE (.inbX (.code ?_))))))
    refine .seq (.reg (.q (.assign rfl) (.nil (.code ?_))))
    refine .ret (.ret1 Tryz.results7 rfl fun w1 hz => ⟨bv (by rw [← List.take_of_length_le (show l.length ≤ i by omega)]; exact hi2), hz⟩)

theorem same_calls (w : World) (xv yv : Value) (a b : List Ev) (hx : Rd encE 8 w xv a) (hy : Rd encE 8 w yv b) (hn : a.length ≤ 1000000) (hm : b.length ≤ 1000000) : Calls Tryz.prog 10 #[xv, yv] w fun r w' => r = .returned (.bool (decide (a = b))) ∧ Z w w [] [] w' := by
  obtain ⟨xA, xc, rfl⟩ : ∃ A c, xv = .slice A a.length c := by obtain ⟨A, c, h, _⟩ := hx; exact ⟨A, c, h⟩
  obtain ⟨yA, yc, rfl⟩ : ∃ A c, yv = .slice A b.length c := by obtain ⟨A, c, h, _⟩ := hy; exact ⟨A, c, h⟩
  refine enter (args := [_, _]) Tryz.func10 rfl rfl rfl (C := Z w w [] []) (Z.start (H.nil w)) ?_
  refine .seq (.reg (.q (.assign rfl) (.nil (.code ?_))))
  refine .seq (.seq (.reg (.q (.move rfl) (.q (.lenS s22.t rfl) (.q (.move rfl) (.q (.lenS s22.t rfl) (.neS rfl rfl (fun h10 => ?_) (fun h10 => ?_))))))))
  · refine .nil (.code ?_)
    refine .tt (.seq (.reg (.q (.assign rfl) (.nil (.code ?_)))))
    refine .ret (.thR (.ret1 Tryz.results10 rfl fun w1 hz => ⟨bv (decide_eq_false fun e => by subst e; omega), hz⟩))
  · have hab : a.length = b.length := by omega
    refine .nil (.code ?_)
    refine .ff (.skip (.code ?_))
    refine .seq (.seq (.reg (.q (.move rfl) (.q (.lenS s22.t rfl) (.q (.move rfl) (.nil (.code ?_)))))))
    refine .block (.lp (fun i : Nat => [(0, .slice xA a.length xc), (1, .slice yA b.length yc), (12, .int .i64 (a.length : Int)), (13, .int .i64 (i : Int))]) (fun _ => []) (fun i => i ≤ a.length ∧ a.take i = b.take i) (fun i => a.length - i) 0 ⟨rfl, rfl, rfl, rfl, trivial⟩ (fun _ h => h) ⟨Nat.zero_le _, rfl⟩ fun i hi0 => ?_)
    obtain ⟨hi1, hi2⟩ := hi0
    refine .seq (.reg (.ltS rfl rfl (fun h14 => ?_) (fun h14 => ?_)))
    · have ha : i < a.length := by omega
      have hb : i < b.length := by omega
      obtain ⟨xb, xoff, xc2, hxe, hxr⟩ := Rd.at hx ha
      cases hxe
      obtain ⟨yb, yoff, yc2, hye, hyr⟩ := Rd.at hy hb
      cases hye
      refine .nil (.code ?_)
      refine .seq (.tt (.skip (.code ?_)))
      refine .seq (.block (.seq (.reg (.q (.move rfl) (.q (.assign rfl) (.nil (.code ?_)))))))
      refine .seq (.draw mix (by kernel_rfl) (fun _ h => h.drew) (.q (.move rfl) (.q (.move rfl) (.q (.ix s22 rfl rfl (by omega)) (.q (.ldWA a26 (cs := encE a[i]) rfl rfl fun j hj => hxr j hj) (.q (.move rfl) (.q (.move rfl) (.q (.ix s22 rfl rfl (by omega)) (.q (.ldWA a26 (cs := encE b[i]) rfl rfl fun j hj => hyr j hj) (.qB (.neS eq26 (us := [a[i].s, a[i].c, a[i].t, a[i].j, a[i].k, a[i].v, a[i].cy, a[i].po]) (vs := [b[i].s, b[i].c, b[i].t, b[i].j, b[i].k, b[i].v, b[i].cy, b[i].po]) rfl rfl rfl rfl rfl) (fun h24 => ?_) (fun h24 => ?_)))))))))))
      · have hne : a[i] ≠ b[i] := fun e => by rw [e] at h24; simp at h24
        refine .nil (.code ?_)
        refine .tt (.seq (.reg (.q (.assign rfl) (.nil (.code ?_)))))
        refine .ret (.inbR (.thR (.thR (.inbR (.thR (.ret1 Tryz.results10 rfl fun w1 hz => ⟨bv (decide_eq_false fun e => by subst e; exact hne rfl), hz⟩))))))
      · have heq : a[i] = b[i] := eqE (by simpa using h24)
        refine .nil (.code ?_)
        refine .ff (.skip (.inbN (.code ?_)))
        refine .reg (.q (.add rfl rfl (IntWalk.i64_in _ (by omega))) (.q (.move rfl) (.nil (.rd (i + 1) ⟨rfl, rfl, rfl, rfl, trivial⟩ (fun _ h => h) ⟨by omega, take_eq ha hb hi2 heq⟩ (by omega)))))
    · refine .nil (.code ?_)
      refine .seq (.ff (.exit (.thE (.thE (.inbX (.code ?_))))))
      refine .seq (.reg (.q (.assign rfl) (.nil (.code ?_))))
      refine .ret (.ret1 Tryz.results10 rfl fun w1 hz => ⟨bv (decide_eq_true (by rw [← List.take_of_length_le (show a.length ≤ i by omega), hi2, List.take_of_length_le (show b.length ≤ i by omega)])), hz⟩)

end Go.Proofs.YtjccenbacjhglaaGreatDoor.T5
