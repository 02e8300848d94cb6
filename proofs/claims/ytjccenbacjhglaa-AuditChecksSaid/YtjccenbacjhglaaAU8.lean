import Derived.Test.YtjccenbacjhglaaProg
import Derived.Test.YtjccenbacjhglaaK
import Derived.Test.YtjccenbacjhglaaM
import Derived.Test.YtjccenbacjhglaaIS
import Derived.Test.YtjccenbacjhglaaM2
import Derived.Test.YtjccenbacjhglaaPF
import Derived.Test.YtjccenbacjhglaaSO
import Derived.Test.YtjccenbacjhglaaAU
import Derived.Test.YtjccenbacjhglaaAU2
import Derived.Test.YtjccenbacjhglaaM3
import Derived.Test.YtjccenbacjhglaaAU3
import Derived.Test.YtjccenbacjhglaaAU4
import Derived.Test.YtjccenbacjhglaaAU5
import Derived.Test.YtjccenbacjhglaaAU6
import Derived.Test.YtjccenbacjhglaaAU7
set_option linter.unusedVariables false
set_option linter.unusedSimpArgs false
set_option maxRecDepth 100000
namespace Go.Proofs.Ytjccenbacjhglaa.AU8
open Go Go.Proofs Go.RowKit Go.Proofs.Ytjccenbacjhglaa.K Go.Proofs.Ytjccenbacjhglaa.M Go.Proofs.Ytjccenbacjhglaa.PF Go.Proofs.Ytjccenbacjhglaa.SO Go.Proofs.Ytjccenbacjhglaa.AU Go.Proofs.Ytjccenbacjhglaa.AU2 Go.Proofs.Ytjccenbacjhglaa.AU3 Go.Proofs.Ytjccenbacjhglaa.AU4 Go.Proofs.Ytjccenbacjhglaa.AU5 Go.Proofs.Ytjccenbacjhglaa.AU6 Go.Proofs.Ytjccenbacjhglaa.AU7
theorem a35 : Ag Try.prog 35 2 := ⟨_, Try.underlying35, rfl, by kernel_rfl⟩
theorem a39 : Ag Try.prog 39 8 := ⟨_, Try.underlying39, rfl, by kernel_rfl⟩
theorem eq35 : EqS Try.prog 35 [.i64, .i64] := ⟨by kernel_rfl⟩
theorem f39_2 : Fld Try.prog 39 2 2 := ⟨_, _, Try.underlying39, rfl, rfl, 0, by kernel_rfl⟩
theorem f39_4 : Fld Try.prog 39 4 4 := ⟨_, _, Try.underlying39, rfl, rfl, 0, by kernel_rfl⟩
theorem fn9 : Fnc Try.prog 9 := ⟨by kernel_rfl⟩
theorem fn10 : Fnc Try.prog 10 := ⟨by kernel_rfl⟩
theorem fn11 : Fnc Try.prog 11 := ⟨by kernel_rfl⟩
theorem fn15 : Fnc Try.prog 15 := ⟨by kernel_rfl⟩
theorem fn16 : Fnc Try.prog 16 := ⟨by kernel_rfl⟩
theorem mix : Try.prog.follows .mixedOrders = true := by kernel_rfl
theorem o3 : One Try.prog 3 := ⟨_, Try.underlying3, rfl, by kernel_rfl⟩
theorem o5 : One Try.prog 5 := ⟨_, Try.underlying5, rfl, by kernel_rfl⟩
theorem s22 : Slc Try.prog 22 62 3 32 [.string ⟨#[]⟩, .int .i64 0, .int .i64 0] := ⟨Try.underlying22, by kernel_rfl, rfl⟩
theorem s23 : Slc Try.prog 23 39 8 64 [.int .i64 0, .int .i64 0, .int .i64 0, .int .i64 0, .int .u8 0, .int .i64 0, .int .i64 0, .int .i64 0] := ⟨Try.underlying23, by kernel_rfl, rfl⟩
theorem s26 : Slc Try.prog 26 35 2 16 [.int .i64 0, .int .i64 0] := ⟨Try.underlying26, by kernel_rfl, rfl⟩
theorem s37 : Slc Try.prog 37 3 1 8 [.int .i64 0] := ⟨Try.underlying37, by kernel_rfl, rfl⟩
theorem st35 : Str Try.prog 35 [.int .i64 0, .int .i64 0] #[(0, 1), (1, 1)] := ⟨⟨by kernel_rfl⟩, _, Try.underlying35, fun w => by kernel_rfl⟩
theorem st39 : Str Try.prog 39 [.int .i64 0, .int .i64 0, .int .i64 0, .int .i64 0, .int .u8 0, .int .i64 0, .int .i64 0, .int .i64 0] #[(0, 1), (1, 1), (2, 1), (3, 1), (4, 1), (5, 1), (6, 1), (7, 1)] := ⟨⟨by kernel_rfl⟩, _, Try.underlying39, fun w => by kernel_rfl⟩
theorem st62 : Str Try.prog 62 [.string ⟨#[]⟩, .int .i64 0, .int .i64 0] #[(0, 1), (1, 1), (2, 1)] := ⟨⟨by kernel_rfl⟩, _, Try.underlying62, fun w => by kernel_rfl⟩
theorem z39 : Zr Try.prog 39 [.int .i64 0, .int .i64 0, .int .i64 0, .int .i64 0, .int .u8 0, .int .i64 0, .int .i64 0, .int .i64 0] := ⟨by kernel_rfl⟩

def lateStep (n : Nat) (out : List Int) (e : Ev) : List Int := if e.k = 6 ∧ 0 ≤ e.t ∧ e.t < n then out.set e.t.toNat ((out[e.t.toNat]?).getD 0 + 1) else out
def latesN (n : Nat) (tr : List Ev) : List Int := tr.foldl (lateStep n) (List.replicate n 0)
theorem lateStep_len {n : Nat} {out : List Int} {e : Ev} : (lateStep n out e).length = out.length := by unfold lateStep; split <;> simp
theorem fold_take {n i : Nat} {tr : List Ev} {z : List Int} (hi : i < tr.length) : (tr.take (i + 1)).foldl (lateStep n) z = lateStep n ((tr.take i).foldl (lateStep n) z) tr[i] := by
  rw [List.take_succ_eq_append_getElem hi, List.foldl_append]; rfl
theorem lateStep_bd {n : Nat} {out : List Int} {e : Ev} {K : Int} (h : ∀ x ∈ out, 0 ≤ x ∧ x ≤ K) (h0 : 0 ≤ K) : ∀ x ∈ lateStep n out e, 0 ≤ x ∧ x ≤ K + 1 := by
  intro x hx
  unfold lateStep at hx
  split at hx
  · rcases List.mem_or_eq_of_mem_set hx with h1 | rfl
    · have := h x h1; omega
    · cases hq : out[e.t.toNat]? with
      | none => simp only [Option.getD_none]; omega
      | some y => have := h y (List.mem_of_getElem? hq); simp only [Option.getD_some]; omega
  · have := h x hx; omega

theorem late_all_calls (w : World) (lv tv : Value) (l : List Tk) (tr : List Ev) (hl : Rd encT 3 w lv l) (ht : Rd encE 8 w tv tr) (h12 : l.length ≤ 12) (hlen : tr.length ≤ 1000000) : Calls Try.prog 16 #[lv, tv] w fun r w' => ∃ v L', r = .returned v ∧ Z w w [] L' w' ∧ (∃ b, v = .slice (some ⟨b, 0, none⟩) l.length l.length ∧ L' = [(b, .cells ((latesN l.length tr).map intV).toArray 3 (0, 0))]) := by
  obtain ⟨lA, lc, rfl⟩ : ∃ A c, lv = .slice A l.length c := by obtain ⟨A, c, h, _⟩ := hl; exact ⟨A, c, h⟩
  obtain ⟨tA, tc, rfl⟩ : ∃ A c, tv = .slice A tr.length c := by obtain ⟨A, c, h, _⟩ := ht; exact ⟨A, c, h⟩
  refine enter (args := [_, _]) Try.func16 rfl rfl rfl (C := Z w w [] []) (Z.start (H.nil w)) ?_
  refine .seq (.reg (.q (.assign rfl) (.nil (.code ?_))))
  refine .seq (.reg (.q (.move rfl) (.q (.lenS s22.t rfl) (.mk s37 rfl rfl (by omega) (by omega) (by omega) fun b10 => (.q (.assign rfl) (.nil (.code ?_)))))))
  refine .seq (.seq (.reg (.q (.move rfl) (.q (.lenS s23.t rfl) (.q (.move rfl) (.nil (.code ?_)))))))
  refine .block (.lp (fun s : Nat × List Int => [(0, .slice lA l.length lc), (1, .slice tA tr.length tc), (5, .slice (some ⟨b10, 0, none⟩) l.length l.length), (11, .slice tA tr.length tc), (12, .int .i64 (tr.length : Int)), (13, .int .i64 (s.1 : Int))]) (fun s => [(b10, .cells (s.2.map intV).toArray 3 (0, 0))]) (fun s => s.1 ≤ tr.length ∧ s.2 = (tr.take s.1).foldl (lateStep l.length) (List.replicate l.length 0) ∧ s.2.length = l.length ∧ ∀ x ∈ s.2, 0 ≤ x ∧ x ≤ (s.1 : Int)) (fun s => tr.length - s.1) (0, List.replicate l.length 0) ⟨rfl, rfl, rfl, rfl, rfl, rfl, trivial⟩ (fun _ h => by rw [flat_rep] at h; rw [List.map_replicate]; exact h) ⟨Nat.zero_le _, rfl, by simp, fun x hx => by rw [List.eq_of_mem_replicate hx]; exact ⟨Int.le_refl _, Int.le_refl _⟩⟩ fun ⟨i, out⟩ hk => ?_)
  obtain ⟨hk1, hk2, hk3, hk4⟩ := hk
  simp only at hk1 hk2 hk3 hk4
  show WC _ _ _ _ (Z w w _ [(b10, .cells (out.map intV).toArray 3 (0, 0))]) _
  refine .seq (.reg (.ltS rfl rfl (fun h14 => ?_) (fun h14 => ?_)))
  · have hi : i < tr.length := by omega
    obtain ⟨tb, toff, tc2, hte, hrd⟩ := Rd.at ht hi
    cases hte
    refine .nil (.code ?_)
    refine .seq (.tt (.skip (.code ?_)))
    refine .seq (.block (.seq (.reg (.q (.ix s23 rfl rfl (by omega)) (.q (.ldWA a39 (cs := encE tr[i]) rfl rfl fun j hj => hrd j hj) (.alloc z39 fun b7 => .stA a39 0 rfl rfl rfl rfl rfl rfl (.nil (.code ?_))))))))
    refine .seq (.reg (.q (.fld f39_4 rfl) (.q (.ldO o5 0 rfl rfl rfl) (.eqS rfl rfl (fun h19 => ?_) (fun h19 => ?_)))))
    · refine .q (.move rfl) (.q (.fld f39_2 rfl) (.q (.ldO o3 0 rfl rfl rfl) (.geS rfl rfl (fun h23 => ?_) (fun h23 => ?_))))
      · refine .q (.pickT rfl rfl) (.q (.move rfl) (.q (.fld f39_2 rfl) (.q (.ldO o3 0 rfl rfl rfl) (.q (.move rfl) (.q (.lenS s22.t rfl) (.ltS rfl rfl (fun h30 => ?_) (fun h30 => ?_)))))))
        · have hls : lateStep l.length out tr[i] = out.set tr[i].t.toNat (out[tr[i].t.toNat]'(by omega) + 1) := by
            unfold lateStep
            rw [if_pos (by omega), List.getElem?_eq_getElem (by omega)]; rfl
          refine .q (.pickT rfl rfl) (.nil (.code ?_))
          refine .tt (.reg (.q (.move rfl) (.q (.fld f39_2 rfl) (.q (.ldO (v := .int .i64 ((tr[i].t.toNat : Nat) : Int)) o3 0 rfl rfl (by rw [Int.toNat_of_nonneg (by omega)]; rfl)) (.q (.ix s37 rfl rfl (by omega)) (.q (.ldO (v := .int .i64 (out[tr[i].t.toNat]'(by omega))) o3 1 rfl rfl (by rw [Nat.zero_add, Nat.mul_one, List.getElem?_map, List.getElem?_eq_getElem (by omega)]; rfl)) (.q (.add rfl rfl (IntWalk.i64_in _ (by have := hk4 _ (List.getElem_mem (show tr[i].t.toNat < out.length by omega)); omega))) (.q (.ix s37 rfl rfl (by omega)) (.st o3 1 rfl rfl rfl rfl (by simp [Nat.blt_eq]; omega) (?_))))))))))
          rw [int_set]
          refine .nil (.inbN (.code ?_))
          refine .reg (.q (.add rfl rfl (IntWalk.i64_in _ (by omega))) (.q (.move rfl) (.nil (.rd (i + 1, lateStep l.length out tr[i]) ⟨rfl, rfl, rfl, rfl, rfl, rfl, trivial⟩ (fun _ h => by rw [hls]; exact drp h) ⟨by simp only; omega, by simp only; rw [fold_take hi, ← hk2], by simp only; rw [lateStep_len, hk3], by have := lateStep_bd (n := l.length) (e := tr[i]) hk4 (by omega); intro x hx; have := this x hx; simp only; omega⟩ (by simp only; omega)))))
        · have hls : lateStep l.length out tr[i] = out := by
            unfold lateStep
            rw [if_neg (by omega)]
          refine .q (.pickT rfl rfl) (.nil (.code ?_))
          refine .ff (.skip (.inbN (.code ?_)))
          refine .reg (.q (.add rfl rfl (IntWalk.i64_in _ (by omega))) (.q (.move rfl) (.nil (.rd (i + 1, lateStep l.length out tr[i]) ⟨rfl, rfl, rfl, rfl, rfl, rfl, trivial⟩ (fun _ h => by rw [hls]; exact drp h) ⟨by simp only; omega, by simp only; rw [fold_take hi, ← hk2], by simp only; rw [lateStep_len, hk3], by have := lateStep_bd (n := l.length) (e := tr[i]) hk4 (by omega); intro x hx; have := this x hx; simp only; omega⟩ (by simp only; omega)))))
      · have hls : lateStep l.length out tr[i] = out := by
          unfold lateStep
          rw [if_neg (by omega)]
        refine .q (.pickT rfl rfl) (.q (.move rfl) (.skip (.skip (.skip (.skip (.skip (.q (.pickF rfl rfl) (.nil (.code ?_)))))))))
        refine .ff (.skip (.inbN (.code ?_)))
        refine .reg (.q (.add rfl rfl (IntWalk.i64_in _ (by omega))) (.q (.move rfl) (.nil (.rd (i + 1, lateStep l.length out tr[i]) ⟨rfl, rfl, rfl, rfl, rfl, rfl, trivial⟩ (fun _ h => by rw [hls]; exact drp h) ⟨by simp only; omega, by simp only; rw [fold_take hi, ← hk2], by simp only; rw [lateStep_len, hk3], by have := lateStep_bd (n := l.length) (e := tr[i]) hk4 (by omega); intro x hx; have := this x hx; simp only; omega⟩ (by simp only; omega)))))
    · have hls : lateStep l.length out tr[i] = out := by
        unfold lateStep
        rw [if_neg (by omega)]
      refine .q (.move rfl) (.skip (.skip (.skip (.q (.pickF rfl rfl) (.q (.move rfl) (.skip (.skip (.skip (.skip (.skip (.q (.pickF rfl rfl) (.nil (.code ?_)))))))))))))
      refine .ff (.skip (.inbN (.code ?_)))
      refine .reg (.q (.add rfl rfl (IntWalk.i64_in _ (by omega))) (.q (.move rfl) (.nil (.rd (i + 1, lateStep l.length out tr[i]) ⟨rfl, rfl, rfl, rfl, rfl, rfl, trivial⟩ (fun _ h => by rw [hls]; exact drp h) ⟨by simp only; omega, by simp only; rw [fold_take hi, ← hk2], by simp only; rw [lateStep_len, hk3], by have := lateStep_bd (n := l.length) (e := tr[i]) hk4 (by omega); intro x hx; have := this x hx; simp only; omega⟩ (by simp only; omega)))))
  · refine .nil (.code ?_)
    refine .seq (.ff (.exit (.thE (.thE (.inbX (.code ?_))))))
    refine .seq (.reg (.q (.move rfl) (.q (.assign rfl) (.nil (.code ?_)))))
    refine .ret (.ret1 Try.results16 rfl fun w1 hz => ⟨_, _, rfl, hz, b10, rfl, by rw [latesN, hk2, List.take_of_length_le (by omega)]⟩)


def encI (x : Int) : List Value := [.int .i64 x]
theorem Rd.ints {w : World} {b c : Nat} {xs : List Int} (hb : w.heap[b]? = some (.cells (xs.map intV).toArray 3 (0, 0))) (hn : xs.length ≤ 1000000) : Rd encI 1 w (.slice (some ⟨b, 0, none⟩) xs.length c) xs :=
  Rd.own (T := 3) (c := xs.map intV) (fr := (0, 0)) hb (fun _ => rfl) (by
    rw [Nat.mul_one, List.take_of_length_le (by simp)]
    exact (flat_one intV xs).symm) (by omega)
theorem ints_no {xs ys : List Int} {i : Nat} (h1 : i < xs.length) (h2 : i < ys.length) (h : xs[i] ≠ ys[i]) : decide (xs = ys) = false := by
  rw [decide_eq_false_iff_not]
  rintro rfl
  exact h rfl
theorem ints_yes {xs ys : List Int} (hl : xs.length = ys.length) (h : ∀ j (h1 : j < xs.length) (h2 : j < ys.length), xs[j] = ys[j]) : decide (xs = ys) = true := by
  rw [decide_eq_true_iff]
  exact List.ext_getElem hl fun i h1 h2 => h i h1 h2

theorem ints25_calls (w : World) (u v : Value) (xs ys : List Int) (hx : Rd encI 1 w u xs) (hy : Rd encI 1 w v ys) : Calls Try.prog 15 #[u, v] w fun r w' => r = .returned (.bool (decide (xs = ys))) ∧ Z w w [] [] w' := by
  obtain ⟨xA, xc, rfl⟩ : ∃ A c, u = .slice A xs.length c := by obtain ⟨A, c, h, _⟩ := hx; exact ⟨A, c, h⟩
  obtain ⟨yA, yc, rfl⟩ : ∃ A c, v = .slice A ys.length c := by obtain ⟨A, c, h, _⟩ := hy; exact ⟨A, c, h⟩
  have hbx : xs.length ≤ 140737488355328 := hx.choose_spec.choose_spec.2.1
  refine enter (args := [_, _]) Try.func15 rfl rfl rfl (C := Z w w [] []) (Z.start (H.nil w)) ?_
  refine .seq (.reg (.q (.assign rfl) (.nil (.code ?_))))
  refine .seq (.seq (.reg (.q (.move rfl) (.q (.lenS s37.t rfl) (.q (.move rfl) (.q (.lenS s37.t rfl) (.neS rfl rfl (fun h10 => ?_) (fun h10 => ?_))))))))
  · refine .nil (.code ?_)
    refine .tt (.seq (.reg (.q (.assign rfl) (.nil (.code ?_)))))
    refine .ret (.thR (.ret1 Try.results15 rfl fun w1 hz => ⟨by rw [show decide (xs = ys) = false by rw [decide_eq_false_iff_not]; rintro rfl; omega], hz⟩))
  · refine .nil (.code ?_)
    refine .ff (.skip (.code ?_))
    refine .seq (.seq (.reg (.q (.assign rfl) (.nil (.code ?_)))))
    refine .block (.lp (fun i : Nat => [(0, .slice xA xs.length xc), (1, .slice yA ys.length yc), (5, .int .i64 (i : Int))]) (fun _ => []) (fun i => i ≤ xs.length ∧ ∀ j (h1 : j < xs.length) (h2 : j < ys.length), j < i → xs[j] = ys[j]) (fun i => xs.length - i) 0 ⟨rfl, rfl, rfl, trivial⟩ (fun _ h => h) ⟨Nat.zero_le _, fun _ _ _ h => absurd h (by omega)⟩ fun i hk => ?_)
    obtain ⟨hk1, hk2⟩ := hk
    refine .seq (.seq (.reg (.q (.move rfl) (.q (.move rfl) (.q (.lenS s37.t rfl) (.ltS rfl rfl (fun h14 => ?_) (fun h14 => ?_)))))))
    · have hi : i < xs.length := by omega
      have hj : i < ys.length := by omega
      obtain ⟨xb, xo, xc2, hxe, hxr⟩ := Rd.at hx hi
      cases hxe
      obtain ⟨yb, yo, yc2, hye, hyr⟩ := Rd.at hy hj
      cases hye
      refine .nil (.code ?_)
      refine .tt (.skip (.code ?_))
      refine .seq (.block (.seq (.draw mix (by kernel_rfl) (fun _ h => h.drew) (.q (.move rfl) (.q (.move rfl) (.q (.ix s37 rfl rfl (by omega)) (.q (.ldW (v := .int .i64 xs[i]) o3 rfl (by have := hxr 0 (by omega); exact this)) (.q (.move rfl) (.q (.move rfl) (.q (.ix s37 rfl rfl (by omega)) (.q (.ldW (v := .int .i64 ys[i]) o3 rfl (by have := hyr 0 (by omega); exact this)) (.neS rfl rfl (fun h25 => ?_) (fun h25 => ?_)))))))))))))
      · refine .nil (.code ?_)
        refine .tt (.seq (.reg (.q (.assign rfl) (.nil (.code ?_)))))
        refine .ret (.inbR (.thR (.thR (.inbR (.thR (.ret1 Try.results15 rfl fun w1 hz => ⟨by rw [ints_no hi hj h25], hz⟩))))))
      · refine .nil (.code ?_)
        refine .ff (.skip (.inbN (.code ?_)))
        refine .reg (.q (.move rfl) (.q (.add rfl rfl (IntWalk.i64_in _ (by omega))) (.q (.assign rfl) (.nil (.rd (i + 1) ⟨rfl, rfl, rfl, trivial⟩ (fun _ h => h) ⟨by omega, fun j h1 h2 h => by
      rcases Nat.lt_or_ge j i with h3 | h3
      · exact hk2 j h1 h2 h3
      · obtain rfl : j = i := by omega
        omega⟩ (by omega))))))
    · refine .nil (.code ?_)
      refine .ff (.exit (.thE (.thE (.inbX (.code ?_)))))
      refine .seq (.reg (.q (.assign rfl) (.nil (.code ?_))))
      refine .ret (.ret1 Try.results15 rfl fun w1 hz => ⟨by rw [ints_yes (by omega) fun j h1 h2 => hk2 j h1 h2 (by omega)], hz⟩)

theorem great_calls (w : World) (lv tv : Value) (l : List Tk) (tr : List Ev) (hl : Rd encT 3 w lv l) (ht : Rd encE 8 w tv tr) : Calls Try.prog 10 #[lv, tv] w fun r w' => r = .returned (.bool (decide (8 < l.length ∨ 200 < tr.length))) ∧ Z w w [] [] w' := by
  obtain ⟨lA, lc, rfl⟩ : ∃ A c, lv = .slice A l.length c := by obtain ⟨A, c, h, _⟩ := hl; exact ⟨A, c, h⟩
  obtain ⟨tA, tc, rfl⟩ : ∃ A c, tv = .slice A tr.length c := by obtain ⟨A, c, h, _⟩ := ht; exact ⟨A, c, h⟩
  refine enter (args := [_, _]) Try.func10 rfl rfl rfl (C := Z w w [] []) (Z.start (H.nil w)) ?_
  refine .seq (.reg (.q (.assign rfl) (.nil (.code ?_))))
  refine .seq (.reg (.q (.move rfl) (.q (.lenS s22.t rfl) (.gtS rfl rfl (fun h7 => ?_) (fun h7 => ?_)))))
  · refine .q (.move rfl) (.skip (.skip (.skip (.q (.pickT rfl rfl) (.q (.assign rfl) (.nil (.code ?_)))))))
    refine .ret (.ret1 Try.results10 rfl fun w1 hz => ⟨by rw [decide_eq_true (show 8 < l.length ∨ 200 < tr.length by omega)], hz⟩)
  · refine .q (.move rfl) (.q (.move rfl) (.q (.lenS s23.t rfl) (.q (.cmp rfl rfl rfl) (.q (.pickF rfl rfl) (.q (.assign rfl) (.nil (.code ?_)))))))
    refine .ret (.ret1 Try.results10 rfl fun w1 hz => ⟨by rw [show decide (8 < l.length ∨ 200 < tr.length) = decide ((200 : Int) < (tr.length : Int)) from decide_eq_decide.2 (by omega)], hz⟩)


def exT : Tk := ⟨⟨#[]⟩, 1, 2⟩
def exE0 : Ev := ⟨0, -1, 0, 0, 1, 0, 0, 0⟩
def exE1 : Ev := ⟨0, 0, 0, 0, 2, 1, 0, 0⟩
def exE2 : Ev := ⟨0, 0, 0, 0, 3, 0, 0, 0⟩
theorem ex_bad : checkA [exT] 1 [exE0, exE2] = some (1, 5) := by decide +kernel
theorem ex_good : checkA [exT] 1 [exE0, exE1, exE2] = none := by decide +kernel
def encF (x : Int × Int) : List Value := [.int .i64 x.1, .int .i64 x.2]

theorem awake50_calls (w : World) : Calls Try.prog 9 #[] w fun r w' => r = .returned (.bool true) ∧ Z w w [] [] w' := by
  refine enter (args := []) Try.func9 rfl rfl rfl (C := Z w w [] []) (Z.start (H.nil w)) ?_
  refine .seq (.reg (.q (.assign rfl) (.nil (.code ?_))))
  refine .seq (.reg (.q (.build st62 rfl rfl) (.bslice s22 rfl rfl rfl fun b5 => .q (.assign rfl) (.nil (.code ?_)))))
  refine .seq (.reg (.q (.build st39 rfl rfl) (.q (.build st39 rfl rfl) (.q (.build st39 rfl rfl) (.bslice s23 rfl rfl rfl fun b9 => .q (.assign rfl) (.nil (.code ?_)))))))
  refine .seq (.drawS mix [] [] [0, 1, 2, 3, 4, 5, 6] (.one 7 (.one 8 (.one 9 .nil))) (by kernel_rfl) (fun _ h => h.drew) (fun _ h => h) (.toS (.q (.move rfl) (.q (.move rfl) (.q (.ix (j := 0) s23 rfl rfl (by omega)) (.q (.ldOA (cs := encE exE0) a39 0 rfl rfl rfl rfl) (.q (.move rfl) (.q (.ix (j := 2) s23 rfl rfl (by omega)) (.q (.ldOA (cs := encE exE2) a39 0 rfl rfl rfl rfl) (.toT (.step rfl (.bslice s23 rfl rfl rfl fun b17 => .nil (.tk (fun _ h => drp h) (.step rfl (.callA fn11 rfl (fun w hz => check_calls w _ _ [exT] 1 [exE0, exE2] (Rd.own (xs := [exT]) (T := 62) (c := encT exT) (fr := (0, 0)) (hz.has (i := 2) rfl) encT_len rfl (by simp)) (Rd.own (xs := [exE0, exE2]) (T := 39) (c := (encE exE0 ++ encE exE2)) (fr := (0, 0)) (hz.has (i := 0) rfl) encE_len rfl (by simp)) (by simp) (by simp)) fun v18 L18 p18 => ?_)))))))))))))))
  rw [ex_bad] at p18
  refine .nil (.tk (fun _ h => h.sublist ((List.sublist_cons_self _ _).trans (List.sublist_append_right _ _))) (.step rfl (.q (.assign rfl) (.nil (.tk (fun _ h => h.sublist ((List.sublist_cons_self _ _).trans (List.sublist_append_right _ _))) (.nil (.code ?_)))))))
  refine .seq (.reg (.q (.move rfl) (.q (.move rfl) (.callA fn11 rfl (fun w hz => check_calls w _ _ [exT] 1 [exE0, exE1, exE2] (by refine Rd.own (xs := [exT]) (T := 62) (c := encT exT) (fr := (0, 0)) (hz.h.has (b5, .cells (encT exT).toArray 62 (0, 0)) (List.mem_append_right _ (.tail _ (.tail _ (.head _))))) encT_len rfl (by simp)) (by refine Rd.own (xs := [exE0, exE1, exE2]) (T := 39) (c := (encE exE0 ++ encE exE1 ++ encE exE2)) (fr := (0, 0)) (hz.h.has (b9, .cells (encE exE0 ++ encE exE1 ++ encE exE2).toArray 39 (0, 0)) (List.mem_append_right _ (.tail _ (.head _)))) encE_len rfl (by simp)) (by simp) (by simp)) fun v21 L21 p21 => ?_))))
  rw [ex_good] at p21
  obtain rfl := p21
  obtain ⟨fb, fc, hfe, hfr⟩ := OS.read (enc := encF) (k := 2) (xs := [((1 : Int), (5 : Int))]) (i := 0) (fun _ => rfl) p18 (by simp)
  subst hfe
  refine .q (.lenS s26.t rfl) (.q (.cmp rfl rfl (eqT (by omega))) (.q (.move rfl) (.q (.move rfl) (.q (.lenS s26.t rfl) (.q (.cmp rfl rfl (eqT (rfl))) (.q (.pickT rfl rfl) (.q (.move rfl) (.q (.move rfl) (.q (.ix (j := 0) s26 rfl rfl (by simp)) (.q (.ldA a35 (cs := encF (1, 5)) rfl rfl (fun w1 hz q hq => hfr _ _ w1 _ _ hz (fun x hx => List.mem_append_right _ (List.mem_append_left _ hx)) q hq)) (.q (.build st35 rfl rfl) (.q (.eqS (b := true) eq35 (us := [1, 5]) (vs := [1, 5]) rfl rfl rfl rfl rfl) (.q (.pickT rfl rfl) (.q (.assign rfl) (.nil (.code ?_))))))))))))))))
  refine .ret (.ret1 Try.results9 rfl fun w1 hz => ⟨rfl, hz.sublist (List.nil_sublist _)⟩)

theorem auditLate_calls (w : World) (lv tv : Value) (l : List Tk) (tr : List Ev) (hl : Rd encT 3 w lv l) (ht : Rd encE 8 w tv tr) : Calls Try.prog 4 #[lv, tv] w fun r w' => r = .returned (.bool true) ∧ Below w.heap.size w w' := by
  obtain ⟨lA, lc, rfl⟩ : ∃ A c, lv = .slice A l.length c := by obtain ⟨A, c, h, _⟩ := hl; exact ⟨A, c, h⟩
  obtain ⟨tA, tc, rfl⟩ : ∃ A c, tv = .slice A tr.length c := by obtain ⟨A, c, h, _⟩ := ht; exact ⟨A, c, h⟩
  refine enter (args := [_, _]) Try.func4 rfl rfl rfl (C := Z w w [] []) (Z.start (H.nil w)) ?_
  refine .seq (.reg (.q (.assign rfl) (.nil (.code ?_))))
  refine .seq (.seq (.reg (.q (.call fn9 rfl (fun w hz => awake50_calls w)) (.q (.notB rfl) (.nil (.code ?_))))))
  refine .ff (.skip (.code ?_))
  refine .seq (.seq (.reg (.q (.move rfl) (.q (.move rfl) (.q (.call fn10 rfl (fun w hz => great_calls w _ _ l tr (hl.below hz.h.below) (ht.below hz.h.below))) (.nil (.code ?_)))))))
  refine .condP (fun h12 => ?_) (fun h12 => ?_)
  · refine .seq (.reg (.q (.assign rfl) (.nil (.code ?_))))
    refine .ret (.thR (.ret1 Try.results4 rfl fun w1 hz => ⟨rfl, hz.h.below⟩))
  · have hl8 : l.length ≤ 8 := by omega
    have ht2 : tr.length ≤ 200 := by omega
    refine .skip (.code ?_)
    refine .seq (.reg (.q (.move rfl) (.q (.lenS s22.t rfl) (.mk s37 rfl rfl (by omega) (by omega) (by omega) fun b15 => (.q (.assign rfl) (.nil (.code ?_)))))))
    refine .seq (.seq (.reg (.q (.move rfl) (.q (.lenS s23.t rfl) (.q (.move rfl) (.nil (.code ?_)))))))
    refine .block (.lp (fun s : Nat × List Int => [(0, .slice lA l.length lc), (1, .slice tA tr.length tc), (5, .slice (some ⟨b15, 0, none⟩) l.length l.length), (16, .slice tA tr.length tc), (17, .int .i64 (tr.length : Int)), (18, .int .i64 (s.1 : Int))]) (fun s => [(b15, .cells (s.2.map intV).toArray 3 (0, 0))]) (fun s => s.1 ≤ tr.length ∧ s.2 = (tr.take s.1).foldl (lateStep l.length) (List.replicate l.length 0) ∧ s.2.length = l.length ∧ ∀ x ∈ s.2, 0 ≤ x ∧ x ≤ (s.1 : Int)) (fun s => tr.length - s.1) (0, List.replicate l.length 0) ⟨rfl, rfl, rfl, rfl, rfl, rfl, trivial⟩ (fun _ h => by rw [flat_rep] at h; rw [List.map_replicate]; exact h) ⟨Nat.zero_le _, rfl, by simp, fun x hx => by rw [List.eq_of_mem_replicate hx]; exact ⟨Int.le_refl _, Int.le_refl _⟩⟩ fun ⟨i, out⟩ hk => ?_)
    obtain ⟨hk1, hk2, hk3, hk4⟩ := hk
    simp only at hk1 hk2 hk3 hk4
    show WC _ _ _ _ (Z w w _ [(b15, .cells (out.map intV).toArray 3 (0, 0))]) _
    refine .seq (.reg (.ltS rfl rfl (fun h19 => ?_) (fun h19 => ?_)))
    · have hi : i < tr.length := by omega
      obtain ⟨tb, toff, tc2, hte, hrd⟩ := Rd.at ht hi
      cases hte
      refine .nil (.code ?_)
      refine .seq (.tt (.skip (.code ?_)))
      refine .seq (.block (.seq (.reg (.q (.ix s23 rfl rfl (by omega)) (.q (.ldWA a39 (cs := encE tr[i]) rfl rfl fun j hj => hrd j hj) (.alloc z39 fun b7 => .stA a39 0 rfl rfl rfl rfl rfl rfl (.nil (.code ?_))))))))
      refine .seq (.reg (.q (.fld f39_4 rfl) (.q (.ldO o5 0 rfl rfl rfl) (.eqS rfl rfl (fun h24 => ?_) (fun h24 => ?_)))))
      · refine .q (.move rfl) (.q (.fld f39_2 rfl) (.q (.ldO o3 0 rfl rfl rfl) (.geS rfl rfl (fun h28 => ?_) (fun h28 => ?_))))
        · refine .q (.pickT rfl rfl) (.q (.move rfl) (.q (.fld f39_2 rfl) (.q (.ldO o3 0 rfl rfl rfl) (.q (.move rfl) (.q (.lenS s22.t rfl) (.ltS rfl rfl (fun h35 => ?_) (fun h35 => ?_)))))))
          · have hls : lateStep l.length out tr[i] = out.set tr[i].t.toNat (out[tr[i].t.toNat]'(by omega) + 1) := by
              unfold lateStep
              rw [if_pos (by omega), List.getElem?_eq_getElem (by omega)]; rfl
            refine .q (.pickT rfl rfl) (.nil (.code ?_))
            refine .tt (.reg (.q (.move rfl) (.q (.fld f39_2 rfl) (.q (.ldO (v := .int .i64 ((tr[i].t.toNat : Nat) : Int)) o3 0 rfl rfl (by rw [Int.toNat_of_nonneg (by omega)]; rfl)) (.q (.ix s37 rfl rfl (by omega)) (.q (.ldO (v := .int .i64 (out[tr[i].t.toNat]'(by omega))) o3 1 rfl rfl (by rw [Nat.zero_add, Nat.mul_one, List.getElem?_map, List.getElem?_eq_getElem (by omega)]; rfl)) (.q (.add rfl rfl (IntWalk.i64_in _ (by have := hk4 _ (List.getElem_mem (show tr[i].t.toNat < out.length by omega)); omega))) (.q (.ix s37 rfl rfl (by omega)) (.st o3 1 rfl rfl rfl rfl (by simp [Nat.blt_eq]; omega) (?_))))))))))
            rw [int_set]
            refine .nil (.inbN (.code ?_))
            refine .reg (.q (.add rfl rfl (IntWalk.i64_in _ (by omega))) (.q (.move rfl) (.nil (.rd (i + 1, lateStep l.length out tr[i]) ⟨rfl, rfl, rfl, rfl, rfl, rfl, trivial⟩ (fun _ h => by rw [hls]; exact drp h) ⟨by simp only; omega, by simp only; rw [fold_take hi, ← hk2], by simp only; rw [lateStep_len, hk3], by have := lateStep_bd (n := l.length) (e := tr[i]) hk4 (by omega); intro x hx; have := this x hx; simp only; omega⟩ (by simp only; omega)))))
          · have hls : lateStep l.length out tr[i] = out := by
              unfold lateStep
              rw [if_neg (by omega)]
            refine .q (.pickT rfl rfl) (.nil (.code ?_))
            refine .ff (.skip (.inbN (.code ?_)))
            refine .reg (.q (.add rfl rfl (IntWalk.i64_in _ (by omega))) (.q (.move rfl) (.nil (.rd (i + 1, lateStep l.length out tr[i]) ⟨rfl, rfl, rfl, rfl, rfl, rfl, trivial⟩ (fun _ h => by rw [hls]; exact drp h) ⟨by simp only; omega, by simp only; rw [fold_take hi, ← hk2], by simp only; rw [lateStep_len, hk3], by have := lateStep_bd (n := l.length) (e := tr[i]) hk4 (by omega); intro x hx; have := this x hx; simp only; omega⟩ (by simp only; omega)))))
        · have hls : lateStep l.length out tr[i] = out := by
            unfold lateStep
            rw [if_neg (by omega)]
          refine .q (.pickT rfl rfl) (.q (.move rfl) (.skip (.skip (.skip (.skip (.skip (.q (.pickF rfl rfl) (.nil (.code ?_)))))))))
          refine .ff (.skip (.inbN (.code ?_)))
          refine .reg (.q (.add rfl rfl (IntWalk.i64_in _ (by omega))) (.q (.move rfl) (.nil (.rd (i + 1, lateStep l.length out tr[i]) ⟨rfl, rfl, rfl, rfl, rfl, rfl, trivial⟩ (fun _ h => by rw [hls]; exact drp h) ⟨by simp only; omega, by simp only; rw [fold_take hi, ← hk2], by simp only; rw [lateStep_len, hk3], by have := lateStep_bd (n := l.length) (e := tr[i]) hk4 (by omega); intro x hx; have := this x hx; simp only; omega⟩ (by simp only; omega)))))
      · have hls : lateStep l.length out tr[i] = out := by
          unfold lateStep
          rw [if_neg (by omega)]
        refine .q (.move rfl) (.skip (.skip (.skip (.q (.pickF rfl rfl) (.q (.move rfl) (.skip (.skip (.skip (.skip (.skip (.q (.pickF rfl rfl) (.nil (.code ?_)))))))))))))
        refine .ff (.skip (.inbN (.code ?_)))
        refine .reg (.q (.add rfl rfl (IntWalk.i64_in _ (by omega))) (.q (.move rfl) (.nil (.rd (i + 1, lateStep l.length out tr[i]) ⟨rfl, rfl, rfl, rfl, rfl, rfl, trivial⟩ (fun _ h => by rw [hls]; exact drp h) ⟨by simp only; omega, by simp only; rw [fold_take hi, ← hk2], by simp only; rw [lateStep_len, hk3], by have := lateStep_bd (n := l.length) (e := tr[i]) hk4 (by omega); intro x hx; have := this x hx; simp only; omega⟩ (by simp only; omega)))))
    · refine .nil (.code ?_)
      refine .seq (.ff (.exit (.thE (.thE (.inbX (.code ?_))))))
      refine .seq (.reg (?_))
      obtain rfl : out = latesN l.length tr := by rw [hk2, List.take_of_length_le (by omega)]; rfl
      refine .q (.move rfl) (.q (.move rfl) (.callA fn16 rfl (fun w hz => late_all_calls w _ _ l tr (hl.below hz.h.below) (ht.below hz.h.below) (by omega) (by omega)) fun v47 L47 p47 => ?_))
      obtain ⟨ob, rfl, rfl⟩ := p47
      refine .q (.move rfl) (.q (.call (v := .bool true) fn15 rfl (fun w hz => by have h8 : Rd encI 1 w (.slice (some ⟨ob, 0, none⟩) l.length l.length) (latesN l.length tr) := (by have := Rd.ints (c := l.length) (hz.has (i := 0) rfl) (by rw [hk3]; omega); rw [hk3] at this; exact this); have h7 : Rd encI 1 w (.slice (some ⟨b15, 0, none⟩) l.length l.length) (latesN l.length tr) := (by have := Rd.ints (c := l.length) (hz.has (i := 1) rfl) (by rw [hk3]; omega); rw [hk3] at this; exact this); have h9 := ints25_calls w _ _ _ _ h8 h7; rw [decide_eq_true rfl] at h9; exact h9)) (.q (.assign rfl) (.nil (.code ?_))))
      refine .ret (.ret1 Try.results4 rfl fun w1 hz => ⟨rfl, hz.h.below⟩)

end Go.Proofs.Ytjccenbacjhglaa.AU8
