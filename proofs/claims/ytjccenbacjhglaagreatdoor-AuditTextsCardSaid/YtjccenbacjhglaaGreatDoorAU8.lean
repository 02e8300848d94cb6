import Derived.Test.YtjccenbacjhglaaGreatDoorProg
import Derived.Test.YtjccenbacjhglaaGreatDoorK
import Derived.Test.YtjccenbacjhglaaGreatDoorM
import Derived.Test.YtjccenbacjhglaaGreatDoorIS
import Derived.Test.YtjccenbacjhglaaGreatDoorM2
import Derived.Test.YtjccenbacjhglaaGreatDoorPF
import Derived.Test.YtjccenbacjhglaaGreatDoorSO
import Derived.Test.YtjccenbacjhglaaGreatDoorAU
import Derived.Test.YtjccenbacjhglaaGreatDoorAU2
import Derived.Test.YtjccenbacjhglaaGreatDoorM3
import Derived.Test.YtjccenbacjhglaaGreatDoorAU3
import Derived.Test.YtjccenbacjhglaaGreatDoorAU4
import Derived.Test.YtjccenbacjhglaaGreatDoorAU5
import Derived.Test.YtjccenbacjhglaaGreatDoorAU6
import Derived.Test.YtjccenbacjhglaaGreatDoorAU7
set_option linter.unusedVariables false
set_option linter.unusedSimpArgs false
set_option maxRecDepth 100000
set_option maxHeartbeats 1000000
namespace Go.Proofs.YtjccenbacjhglaaGreatDoor.AU8
open Go Go.Proofs Go.RowKit Go.Proofs.YtjccenbacjhglaaGreatDoor.K Go.Proofs.YtjccenbacjhglaaGreatDoor.M Go.Proofs.YtjccenbacjhglaaGreatDoor.PF Go.Proofs.YtjccenbacjhglaaGreatDoor.SO Go.Proofs.YtjccenbacjhglaaGreatDoor.AU Go.Proofs.YtjccenbacjhglaaGreatDoor.AU2 Go.Proofs.YtjccenbacjhglaaGreatDoor.AU3 Go.Proofs.YtjccenbacjhglaaGreatDoor.AU4 Go.Proofs.YtjccenbacjhglaaGreatDoor.AU5 Go.Proofs.YtjccenbacjhglaaGreatDoor.AU6 Go.Proofs.YtjccenbacjhglaaGreatDoor.AU7
theorem a26 : Ag Tryz.prog 26 8 := ⟨_, Tryz.underlying26, rfl, by kernel_rfl⟩
theorem a40 : Ag Tryz.prog 40 2 := ⟨_, Tryz.underlying40, rfl, by kernel_rfl⟩
theorem eq40 : EqS Tryz.prog 40 [.i64, .i64] := ⟨by kernel_rfl⟩
theorem fn14 : Fnc Tryz.prog 14 := ⟨by kernel_rfl⟩
theorem mix : Tryz.prog.follows .mixedOrders = true := by kernel_rfl
theorem s22 : Slc Tryz.prog 22 26 8 64 [.int .i64 0, .int .i64 0, .int .i64 0, .int .i64 0, .int .u8 0, .int .i64 0, .int .i64 0, .int .i64 0] := ⟨Tryz.underlying22, by kernel_rfl, rfl⟩
theorem s36 : Slc Tryz.prog 36 35 3 32 [.string ⟨#[]⟩, .int .i64 0, .int .i64 0] := ⟨Tryz.underlying36, by kernel_rfl, rfl⟩
theorem s37 : Slc Tryz.prog 37 40 2 16 [.int .i64 0, .int .i64 0] := ⟨Tryz.underlying37, by kernel_rfl, rfl⟩
theorem s41 : Slc Tryz.prog 41 3 1 8 [.int .i64 0] := ⟨Tryz.underlying41, by kernel_rfl, rfl⟩
theorem st26 : Str Tryz.prog 26 [.int .i64 0, .int .i64 0, .int .i64 0, .int .i64 0, .int .u8 0, .int .i64 0, .int .i64 0, .int .i64 0] #[(0, 1), (1, 1), (2, 1), (3, 1), (4, 1), (5, 1), (6, 1), (7, 1)] := ⟨⟨by kernel_rfl⟩, _, Tryz.underlying26, fun w => by kernel_rfl⟩
theorem st35 : Str Tryz.prog 35 [.string ⟨#[]⟩, .int .i64 0, .int .i64 0] #[(0, 1), (1, 1), (2, 1)] := ⟨⟨by kernel_rfl⟩, _, Tryz.underlying35, fun w => by kernel_rfl⟩
theorem st40 : Str Tryz.prog 40 [.int .i64 0, .int .i64 0] #[(0, 1), (1, 1)] := ⟨⟨by kernel_rfl⟩, _, Tryz.underlying40, fun w => by kernel_rfl⟩

def lateStep (n : Nat) (out : List Int) (e : Ev) : List Int := if e.k = 6 ∧ 0 ≤ e.t ∧ e.t < n then out.set e.t.toNat ((out[e.t.toNat]?).getD 0 + 1) else out
def latesN (n : Nat) (tr : List Ev) : List Int := tr.foldl (lateStep n) (List.replicate n 0)
theorem lateStep_len {n : Nat} {out : List Int} {e : Ev} : (lateStep n out e).length = out.length := by unfold lateStep; split <;> simp
theorem fold_take {n i : Nat} {tr : List Ev} {z : List Int} (hi : i < tr.length) : (tr.take (i + 1)).foldl (lateStep n) z = lateStep n ((tr.take i).foldl (lateStep n) z) tr[i] := by
  rw [List.take_succ_eq_append_getElem hi, List.foldl_append]; rfl
theorem lateStep_bd {n : Nat} {out : List Int} {e : Ev} {K : Int} (h : ∀ x ∈ out, 0 ≤ x ∧ x ≤ K) (h0 : 0 ≤ K) : ∀ x ∈ lateStep n out e, 0 ≤ x ∧ x ≤ K + 1 := by
  intro x hx
  unfold lateStep at hx
  split at hx
  · rcases List.mem_or_eq_of_mem_set hx with h1 | rfl
    · have := h x h1; omega
    · cases hq : out[e.t.toNat]? with
      | none => simp only [Option.getD_none]; omega
      | some y => have := h y (List.mem_of_getElem? hq); simp only [Option.getD_some]; omega
  · have := h x hx; omega


def encI (x : Int) : List Value := [.int .i64 x]
theorem Rd.ints {w : World} {b c : Nat} {xs : List Int} (hb : w.heap[b]? = some (.cells (xs.map intV).toArray 3 (0, 0))) (hn : xs.length ≤ 1000000) : Rd encI 1 w (.slice (some ⟨b, 0, none⟩) xs.length c) xs :=
  Rd.own (T := 3) (c := xs.map intV) (fr := (0, 0)) hb (fun _ => rfl) (by
    rw [Nat.mul_one, List.take_of_length_le (by simp)]
    exact (flat_one intV xs).symm) (by omega)
theorem ints_no {xs ys : List Int} {i : Nat} (h1 : i < xs.length) (h2 : i < ys.length) (h : xs[i] ≠ ys[i]) : decide (xs = ys) = false := by
  rw [decide_eq_false_iff_not]
  rintro rfl
  exact h rfl
theorem ints_yes {xs ys : List Int} (hl : xs.length = ys.length) (h : ∀ j (h1 : j < xs.length) (h2 : j < ys.length), xs[j] = ys[j]) : decide (xs = ys) = true := by
  rw [decide_eq_true_iff]
  exact List.ext_getElem hl fun i h1 h2 => h i h1 h2


def exT : Tk := ⟨⟨#[]⟩, 1, 2⟩
def exE0 : Ev := ⟨0, -1, 0, 0, 1, 0, 0, 0⟩
def exE1 : Ev := ⟨0, 0, 0, 0, 2, 1, 0, 0⟩
def exE2 : Ev := ⟨0, 0, 0, 0, 3, 0, 0, 0⟩
theorem ex_bad : checkA [exT] 1 [exE0, exE2] = some (1, 5) := by decide +kernel
theorem ex_good : checkA [exT] 1 [exE0, exE1, exE2] = none := by decide +kernel
def encF (x : Int × Int) : List Value := [.int .i64 x.1, .int .i64 x.2]

theorem awake50_calls (w : World) : Calls Tryz.prog 6 #[] w fun r w' => r = .returned (.bool true) ∧ Z w w [] [] w' := by
  refine enter (args := []) Tryz.func6 rfl rfl rfl (C := Z w w [] []) (Z.start (H.nil w)) ?_
  refine .seq (.reg (.q (.assign rfl) (.nil (.code ?_))))
  refine .seq (.reg (.q (.build st35 rfl rfl) (.bslice s36 rfl rfl rfl fun b5 => .q (.assign rfl) (.nil (.code ?_)))))
  refine .seq (.reg (.q (.build st26 rfl rfl) (.q (.build st26 rfl rfl) (.q (.build st26 rfl rfl) (.bslice s22 rfl rfl rfl fun b9 => .q (.assign rfl) (.nil (.code ?_)))))))
  refine .seq (.drawS mix [] [] [0, 1, 2, 3, 4, 5, 6] (.one 7 (.one 8 (.one 9 .nil))) (by kernel_rfl) (fun _ h => h.drew) (fun _ h => h) (.toS (.q (.move rfl) (.q (.move rfl) (.q (.ix (j := 0) s22 rfl rfl (by omega)) (.q (.ldOA (cs := encE exE0) a26 0 rfl rfl rfl rfl) (.q (.move rfl) (.q (.ix (j := 2) s22 rfl rfl (by omega)) (.q (.ldOA (cs := encE exE2) a26 0 rfl rfl rfl rfl) (.toT (.step rfl (.bslice s22 rfl rfl rfl fun b17 => .nil (.tk (fun _ h => drp h) (.step rfl (.callA fn14 rfl (fun w hz => check_calls w _ _ [exT] 1 [exE0, exE2] (Rd.own (xs := [exT]) (T := 35) (c := encT exT) (fr := (0, 0)) (hz.has (i := 2) rfl) encT_len rfl (by simp)) (Rd.own (xs := [exE0, exE2]) (T := 26) (c := (encE exE0 ++ encE exE2)) (fr := (0, 0)) (hz.has (i := 0) rfl) encE_len rfl (by simp)) (by simp) (by simp)) fun v18 L18 p18 => ?_)))))))))))))))
  rw [ex_bad] at p18
  refine .nil (.tk (fun _ h => h.sublist ((List.sublist_cons_self _ _).trans (List.sublist_append_right _ _))) (.step rfl (.q (.assign rfl) (.nil (.tk (fun _ h => h.sublist ((List.sublist_cons_self _ _).trans (List.sublist_append_right _ _))) (.nil (.code ?_)))))))
  refine .seq (.reg (.q (.move rfl) (.q (.move rfl) (.callA fn14 rfl (fun w hz => check_calls w _ _ [exT] 1 [exE0, exE1, exE2] (by refine Rd.own (xs := [exT]) (T := 35) (c := encT exT) (fr := (0, 0)) (hz.h.has (b5, .cells (encT exT).toArray 35 (0, 0)) (List.mem_append_right _ (.tail _ (.tail _ (.head _))))) encT_len rfl (by simp)) (by refine Rd.own (xs := [exE0, exE1, exE2]) (T := 26) (c := (encE exE0 ++ encE exE1 ++ encE exE2)) (fr := (0, 0)) (hz.h.has (b9, .cells (encE exE0 ++ encE exE1 ++ encE exE2).toArray 26 (0, 0)) (List.mem_append_right _ (.tail _ (.head _)))) encE_len rfl (by simp)) (by simp) (by simp)) fun v21 L21 p21 => ?_))))
  rw [ex_good] at p21
  obtain rfl := p21
  obtain ⟨fb, fc, hfe, hfr⟩ := OS.read (enc := encF) (k := 2) (xs := [((1 : Int), (5 : Int))]) (i := 0) (fun _ => rfl) p18 (by simp)
  subst hfe
  refine .q (.lenS s37.t rfl) (.q (.cmp rfl rfl (eqT (by omega))) (.q (.move rfl) (.q (.move rfl) (.q (.lenS s37.t rfl) (.q (.cmp rfl rfl (eqT (rfl))) (.q (.pickT rfl rfl) (.q (.move rfl) (.q (.move rfl) (.q (.ix (j := 0) s37 rfl rfl (by simp)) (.q (.ldA a40 (cs := encF (1, 5)) rfl rfl (fun w1 hz q hq => hfr _ _ w1 _ _ hz (fun x hx => List.mem_append_right _ (List.mem_append_left _ hx)) q hq)) (.q (.build st40 rfl rfl) (.q (.eqS (b := true) eq40 (us := [1, 5]) (vs := [1, 5]) rfl rfl rfl rfl rfl) (.q (.pickT rfl rfl) (.q (.assign rfl) (.nil (.code ?_))))))))))))))))
  refine .ret (.ret1 Tryz.results6 rfl fun w1 hz => ⟨rfl, hz.sublist (List.nil_sublist _)⟩)

end Go.Proofs.YtjccenbacjhglaaGreatDoor.AU8
