import Derived.Test.YtjccenbacjhglaaGreatDoorProg
import Derived.Test.YtjccenbacjhglaaGreatDoorK
import Derived.Test.YtjccenbacjhglaaGreatDoorM2
import Derived.Test.YtjccenbacjhglaaGreatDoorKS
import Derived.Test.YtjccenbacjhglaaGreatDoorKB
import Derived.Test.YtjccenbacjhglaaGreatDoorST
import Derived.Test.YtjccenbacjhglaaGreatDoorSH
import Derived.Test.YtjccenbacjhglaaGreatDoorSC
import Derived.Test.YtjccenbacjhglaaGreatDoorAU
import Derived.Test.YtjccenbacjhglaaGreatDoorAU4
import Derived.Test.YtjccenbacjhglaaGreatDoorAU8
import Derived.Test.YtjccenbacjhglaaGreatDoorT1
import Derived.Test.YtjccenbacjhglaaGreatDoorT2
import Derived.Test.YtjccenbacjhglaaGreatDoorT3
import Derived.Test.YtjccenbacjhglaaGreatDoorT4
import Derived.Test.YtjccenbacjhglaaGreatDoorT5
set_option linter.unusedVariables false
set_option linter.unusedSimpArgs false
set_option maxRecDepth 100000
set_option maxHeartbeats 1000000
namespace Go.Proofs.YtjccenbacjhglaaGreatDoor.T6
open Go Go.Proofs Go.RowKit Go.Proofs.YtjccenbacjhglaaGreatDoor.K Go.Proofs.YtjccenbacjhglaaGreatDoor.M Go.Proofs.YtjccenbacjhglaaGreatDoor.ST Go.Proofs.YtjccenbacjhglaaGreatDoor.SC Go.Proofs.YtjccenbacjhglaaGreatDoor.AU Go.Proofs.YtjccenbacjhglaaGreatDoor.AU4 Go.Proofs.YtjccenbacjhglaaGreatDoor.AU8 Go.Proofs.YtjccenbacjhglaaGreatDoor.T1 Go.Proofs.YtjccenbacjhglaaGreatDoor.T2 Go.Proofs.YtjccenbacjhglaaGreatDoor.T3 Go.Proofs.YtjccenbacjhglaaGreatDoor.T4 Go.Proofs.YtjccenbacjhglaaGreatDoor.T5
theorem a26 : Ag Tryz.prog 26 8 := ⟨_, Tryz.underlying26, rfl, by kernel_rfl⟩
theorem f26_4 : Fld Tryz.prog 26 4 4 := ⟨_, _, Tryz.underlying26, rfl, rfl, 0, by kernel_rfl⟩
theorem fn6 : Fnc Tryz.prog 6 := ⟨by kernel_rfl⟩
theorem fn7 : Fnc Tryz.prog 7 := ⟨by kernel_rfl⟩
theorem fn8 : Fnc Tryz.prog 8 := ⟨by kernel_rfl⟩
theorem fn9 : Fnc Tryz.prog 9 := ⟨by kernel_rfl⟩
theorem fn10 : Fnc Tryz.prog 10 := ⟨by kernel_rfl⟩
theorem mix : Tryz.prog.follows .mixedOrders = true := by kernel_rfl
theorem o3 : One Tryz.prog 3 := ⟨_, Tryz.underlying3, rfl, by kernel_rfl⟩
theorem o5 : One Tryz.prog 5 := ⟨_, Tryz.underlying5, rfl, by kernel_rfl⟩
theorem s22 : Slc Tryz.prog 22 26 8 64 [.int .i64 0, .int .i64 0, .int .i64 0, .int .i64 0, .int .u8 0, .int .i64 0, .int .i64 0, .int .i64 0] := ⟨Tryz.underlying22, by kernel_rfl, rfl⟩
theorem z26 : Zr Tryz.prog 26 [.int .i64 0, .int .i64 0, .int .i64 0, .int .i64 0, .int .u8 0, .int .i64 0, .int .i64 0, .int .i64 0] := ⟨by kernel_rfl⟩

theorem fb_snoc : ∀ (l : List Ev) (k : Int) (e : Ev), 1 ≤ k → firstBad k (l ++ [e]) = if firstBad k l = 0 then (if 1 ≤ e.k ∧ e.k ≤ 7 then 0 else k + l.length) else firstBad k l
  | [], k, e, h => by
    show (if 1 ≤ e.k ∧ e.k ≤ 7 then firstBad (k + 1) [] else k) = if firstBad k [] = 0 then _ else _
    rw [if_pos (show firstBad k [] = 0 from rfl)]
    simp [firstBad]
  | x :: l, k, e, h => by
    rw [List.cons_append]
    unfold firstBad
    split
    · rw [fb_snoc l (k + 1) e (by omega)]
      rw [show k + 1 + (l.length : Int) = k + ((x :: l).length : Nat) by simp only [List.length_cons]; omega]
    · rw [if_neg (by omega)]
theorem fb_step {l : List Ev} {i : Nat} (hi : i < l.length) : firstBad 1 (l.take (i + 1)) = if firstBad 1 (l.take i) = 0 then (if 1 ≤ l[i].k ∧ l[i].k ≤ 7 then 0 else (i : Int) + 1) else firstBad 1 (l.take i) := by
  rw [List.take_succ_eq_append_getElem hi, fb_snoc _ _ _ (by omega), List.length_take_of_le (by omega), show (1 : Int) + (i : Nat) = (i : Int) + 1 by omega]
theorem fb_bd (l : List Ev) : 0 ≤ firstBad 1 l ∧ firstBad 1 l ≤ l.length := by
  have key : ∀ (l : List Ev) (k : Int), 1 ≤ k → 0 ≤ firstBad k l ∧ firstBad k l ≤ k - 1 + l.length := by
    intro l
    induction l with
    | nil => intro k hk; simp [firstBad]; omega
    | cons e l ih =>
      intro k hk
      unfold firstBad
      have := ih (k + 1) (by omega)
      simp only [List.length_cons]
      split <;> omega
  have := key l 1 (by omega)
  omega
theorem parse_all {l : List Ev} (h : ∀ e ∈ l, EvR e) : parse (fmtOf l) = if firstBad 1 l = 0 then (l, 0, 0) else ([], firstBad 1 l, 3) := by
  unfold parse
  rw [parse_fmt l _ [] 1 h (by omega) (Nat.le_refl _)]
  rfl
theorem bef_at (c : UInt8) : ∀ (s : By) (j : Nat), j ≤ (bef c s).length → (∀ h : j < s.length, s[j]'h = c → j = (bef c s).length) ∧ (∀ h : j < s.length, s[j]'h ≠ c → j < (bef c s).length) ∧ (s.length ≤ j → j = (bef c s).length)
  | [], j, h => by
    have h0 : j = 0 := by simpa [bef] using h
    subst h0
    exact ⟨fun h => absurd h (by simp), fun h => absurd h (by simp), fun _ => rfl⟩
  | b :: l, j, h => by
    unfold bef at h ⊢
    by_cases hb : b = c
    · rw [if_pos hb] at h ⊢
      have h0 : j = 0 := by simpa using h
      subst h0
      exact ⟨fun _ _ => rfl, fun _ hn => absurd hb hn, fun hl => absurd hl (by simp)⟩
    · rw [if_neg hb] at h ⊢
      cases j with
      | zero => exact ⟨fun _ he => absurd he hb, fun _ _ => by simp, fun hl => absurd hl (by simp)⟩
      | succ j =>
        obtain ⟨h1, h2, h3⟩ := bef_at c l j (by simpa using h)
        refine ⟨fun hl he => ?_, fun hl hn => ?_, fun hl => ?_⟩
        · have := h1 (by simpa using hl) (by simpa using he); simp; omega
        · have := h2 (by simpa using hl) (by simpa using hn); simp; omega
        · have := h3 (by simpa using hl); simp; omega
theorem byte_eq {a b : UInt8} (h : (a.toNat : Int) = (b.toNat : Int)) : a = b := UInt8.toNat_inj.1 (by omega)
theorem u8lt (a : UInt8) : a.toNat < 256 := a.toNat_lt
/-- Behind i bytes of the text: the line, and where it begins. -/
def At (pre : By) (i : Nat) (start line : Int) : Prop := i ≤ pre.length ∧ line = 1 + (List.count 10 (pre.take i) : Nat) ∧ 0 ≤ start ∧ start ≤ i ∧ (i = 0 → start = 0) ∧ ∀ j (h : j < pre.length), i = j + 1 → pre[j]'h = 10 → start = i
theorem At.zero (pre : By) : At pre 0 0 1 := ⟨Nat.zero_le _, by simp, Int.le_refl _, Int.le_refl _, fun _ => rfl, fun j h e => by omega⟩
theorem At.done {pre : By} {i : Nat} {start line : Int} (hp : pre = [] ∨ ∃ q, pre = q ++ [10]) (h : At pre i start line) (hl : 1 + (List.count 10 pre : Nat) ≤ line) : i = pre.length ∧ start = pre.length ∧ line = 1 + (List.count 10 pre : Nat) := by
  obtain ⟨h1, h2, h3, h4, h5, h6⟩ := h
  rcases hp with rfl | ⟨q, rfl⟩
  · have : i = 0 := by simpa using h1
    subst this
    exact ⟨rfl, by simpa using h5 rfl, by simpa using h2⟩
  · have hq : (q ++ [(10 : UInt8)]).length = q.length + 1 := by simp
    have hi : i = q.length + 1 := by
      rcases Nat.lt_or_ge q.length i with h7 | h7
      · omega
      · exfalso
        rw [List.take_append_of_le_length h7] at h2
        rw [List.count_append] at hl
        have h8 : List.count 10 (q.take i) ≤ List.count 10 q := (List.take_sublist i q).count_le _
        have h9 : List.count (10 : UInt8) [10] = 1 := by decide
        omega
    refine ⟨by omega, ?_, ?_⟩
    · rw [h6 q.length (by omega) hi (by simp), hi, hq]
    · rw [h2, List.take_of_length_le (by omega)]
theorem At.step {pre rest : By} {i : Nat} {start line : Int} (hp : pre = [] ∨ ∃ q, pre = q ++ [10]) (h : At pre i start line) (hl : line < 1 + (List.count 10 pre : Nat)) (hi : i < (pre ++ rest).length) :
    ((pre ++ rest)[i]'hi = 10 → At pre (i + 1) ((i : Int) + 1) (line + 1)) ∧ ((pre ++ rest)[i]'hi ≠ 10 → At pre (i + 1) start line) := by
  obtain ⟨h1, h2, h3, h4, h5, h6⟩ := h
  have hlt : i < pre.length := by
    rcases Nat.lt_or_ge i pre.length with h7 | h7
    · exact h7
    · rw [List.take_of_length_le h7] at h2; omega
  rw [List.getElem_append_left hlt]
  have ht : List.count 10 (pre.take (i + 1)) = List.count 10 (pre.take i) + List.count 10 [pre[i]] := by rw [List.take_succ_eq_append_getElem hlt, List.count_append]
  refine ⟨fun he => ⟨hlt, ?_, by omega, by omega, fun h => by omega, fun j hj e _ => by omega⟩, fun hn => ⟨hlt, ?_, h3, by omega, fun h => by omega, fun j hj e h7 => ?_⟩⟩
  · rw [ht, he]; have h9 : List.count (10 : UInt8) [10] = 1 := by decide
    omega
  · rw [ht]; have h9 : List.count (10 : UInt8) [pre[i]] = 0 := List.count_eq_zero.2 (by simpa using fun e => hn e.symm)
    omega
  · obtain rfl : i = j := by omega
    exact absurd h7 hn

theorem auditTexts_calls (w : World) (hg : GV w) (tv : Value) (l : List Ev) (ht : Rd encE 8 w tv l) (hK : ∀ e ∈ l, 0 ≤ e.k ∧ e.k ≤ 255) : Calls Tryz.prog 3 #[tv] w fun r w' => r = .returned (.bool true) ∧ Below w.heap.size w w' := by
  obtain ⟨tA, tc, rfl⟩ : ∃ A c, tv = .slice A l.length c := by obtain ⟨A, c, h, _⟩ := ht; exact ⟨A, c, h⟩
  refine enter (args := [_]) Tryz.func3 rfl rfl rfl (C := Z w w [] []) (Z.start (H.nil w)) ?_
  refine .seq (.reg (.q (.assign rfl) (.nil (.code ?_))))
  refine .seq (.seq (.reg (.q (.call (v := .bool true) fn6 rfl (fun w hz => awake50_calls w)) (.q (.notB rfl) (.nil (.code ?_))))))
  refine .ff (.skip (.code ?_))
  refine .seq (.seq (.reg (.q (.move rfl) (.q (.lenS s22.t rfl) (.gtS rfl rfl (fun h13 => ?_) (fun h13 => ?_))))))
  · refine .q (.move rfl) (.skip (.skip (.q (.pickT rfl rfl) (.nil (.code ?_)))))
    refine .tt (.seq (.reg (.q (.assign rfl) (.nil (.code ?_)))))
    refine .ret (.thR (.ret1 Tryz.results3 rfl fun w1 hz => ⟨rfl, hz.h.below⟩))
  · refine .q (.move rfl) (.q (.move rfl) (.qB (.call fn7 rfl (fun w hz => huge_calls w _ l (ht.below hz.h.below) (by omega))) (fun h16 => ?_) (fun h16 => ?_)))
    · refine .q (.pickF rfl rfl) (.nil (.code ?_))
      refine .tt (.seq (.reg (.q (.assign rfl) (.nil (.code ?_)))))
      refine .ret (.thR (.ret1 Tryz.results3 rfl fun w1 hz => ⟨rfl, hz.h.below⟩))
    · have hh : hugeB l = false := h16
      have h63 := huge_63 hh
      have hR : ∀ e ∈ l, EvR e := fun e he => (h63 e he).r
      refine .q (.pickF rfl rfl) (.nil (.code ?_))
      refine .ff (.skip (.code ?_))
      refine .seq (.reg (.q (.assign rfl) (.nil (.code ?_))))
      refine .seq (.seq (.reg (.q (.move rfl) (.q (.lenS s22.t rfl) (.q (.move rfl) (.nil (.code ?_)))))))
      refine .block (.lp (fun i : Nat => [(0, .slice tA l.length tc), (3, .int .i64 (firstBad 1 (l.take i))), (18, .slice tA l.length tc), (19, .int .i64 (l.length : Int)), (20, .int .i64 (i : Int))]) (fun _ => []) (fun i => i ≤ l.length) (fun i => l.length - i) 0 ⟨rfl, rfl, rfl, rfl, rfl, trivial⟩ (fun _ h => h) (Nat.zero_le _) fun i hi1 => ?_)
      refine .seq (.reg (.ltS rfl rfl (fun h21 => ?_) (fun h21 => ?_)))
      · have hi : i < l.length := by omega
        obtain ⟨tb, toff, tc2, hte, hrd⟩ := Rd.at ht hi
        cases hte
        have hKi := hK l[i] (List.getElem_mem hi)
        refine .nil (.code ?_)
        refine .seq (.tt (.skip (.code ?_)))
        refine .seq (.block (.seq (.reg (.q (.move rfl) (.q (.ix s22 rfl rfl (by omega)) (.q (.ldWA a26 (cs := encE l[i]) rfl rfl fun j hj => hrd j hj) (.alloc z26 fun b5 => .q (.assign rfl) (.stA a26 0 rfl rfl rfl rfl rfl rfl (?_)))))))))
        show W _ _ _ _ (Z w w _ [(b5, .cells (encE l[i]).toArray 26 (0, 0))]) _ _
        refine .nil (.code ?_)
        refine .seq (.reg (.q (.move rfl) (.eqS rfl rfl (fun h26 => ?_) (fun h26 => ?_))))
        · refine .q (.move rfl) (.q (.fld f26_4 rfl) (.q (.ldO (v := .int .u8 l[i].k) o5 0 rfl rfl rfl) (.ltS rfl rfl (fun h30 => ?_) (fun h30 => ?_))))
          · refine .q (.move rfl) (.skip (.skip (.skip (.q (.pickT rfl rfl) (.q (.pickT rfl rfl) (.nil (.code ?_)))))))
            refine .tt (.reg (.q (.move rfl) (.q (.add rfl rfl (IntWalk.i64_in _ (by omega))) (.q (.assign rfl) (.nil (.inbN (.code ?_)))))))
            refine .reg (.q (.add rfl rfl (IntWalk.i64_in _ (by omega))) (.q (.move rfl) (.nil (.rd (i + 1) ⟨rfl, by rw [fb_step hi]; first | rw [if_neg (by omega)]; rfl | (rw [if_pos (by omega), if_neg (by omega)]; rfl) | (rw [if_pos (by omega), if_pos (by omega)]; rw [show firstBad 1 (l.take i) = 0 by omega]; rfl), rfl, rfl, rfl, trivial⟩ (fun _ h => drp h) (by omega) (by omega)))))
          · refine .q (.move rfl) (.q (.fld f26_4 rfl) (.q (.ldO (v := .int .u8 l[i].k) o5 0 rfl rfl rfl) (.gtS rfl rfl (fun h34 => ?_) (fun h34 => ?_))))
            · refine .q (.pickF rfl rfl) (.q (.pickT rfl rfl) (.nil (.code ?_)))
              refine .tt (.reg (.q (.move rfl) (.q (.add rfl rfl (IntWalk.i64_in _ (by omega))) (.q (.assign rfl) (.nil (.inbN (.code ?_)))))))
              refine .reg (.q (.add rfl rfl (IntWalk.i64_in _ (by omega))) (.q (.move rfl) (.nil (.rd (i + 1) ⟨rfl, by rw [fb_step hi]; first | rw [if_neg (by omega)]; rfl | (rw [if_pos (by omega), if_neg (by omega)]; rfl) | (rw [if_pos (by omega), if_pos (by omega)]; rw [show firstBad 1 (l.take i) = 0 by omega]; rfl), rfl, rfl, rfl, trivial⟩ (fun _ h => drp h) (by omega) (by omega)))))
            · refine .q (.pickF rfl rfl) (.q (.pickT rfl rfl) (.nil (.code ?_)))
              refine .ff (.skip (.inbN (.code ?_)))
              refine .reg (.q (.add rfl rfl (IntWalk.i64_in _ (by omega))) (.q (.move rfl) (.nil (.rd (i + 1) ⟨rfl, by rw [fb_step hi]; first | rw [if_neg (by omega)]; rfl | (rw [if_pos (by omega), if_neg (by omega)]; rfl) | (rw [if_pos (by omega), if_pos (by omega)]; rw [show firstBad 1 (l.take i) = 0 by omega]; rfl), rfl, rfl, rfl, trivial⟩ (fun _ h => drp h) (by omega) (by omega)))))
        · refine .q (.move rfl) (.skip (.skip (.skip (.skip (.skip (.skip (.skip (.skip (.q (.pickF rfl rfl) (.nil (.code ?_)))))))))))
          refine .ff (.skip (.inbN (.code ?_)))
          refine .reg (.q (.add rfl rfl (IntWalk.i64_in _ (by omega))) (.q (.move rfl) (.nil (.rd (i + 1) ⟨rfl, by rw [fb_step hi]; first | rw [if_neg (by omega)]; rfl | (rw [if_pos (by omega), if_neg (by omega)]; rfl) | (rw [if_pos (by omega), if_pos (by omega)]; rw [show firstBad 1 (l.take i) = 0 by omega]; rfl), rfl, rfl, rfl, trivial⟩ (fun _ h => drp h) (by omega) (by omega)))))
      · refine .nil (.code ?_)
        refine .seq (.ff (.exit (.thE (.thE (.inbX (.code ?_))))))
        refine .seq (.reg (?_))
        have hfl := fmtOf_len hR
        have hpa := parse_all hR
        obtain rfl : i = l.length := by omega
        rw [List.take_length]
        have hfb := fb_bd l
        refine .q (.move rfl) (.q (.call fn9 rfl (fun w hz => fmt_calls w (hg.z hz) _ l (ht.below hz.h.below) hR hK (by omega))) (.callA fn8 rfl (fun w hz => parse_calls w (hg.z hz) (fmtOf l) (by omega)) fun v43 L43 p43 => ?_))
        obtain ⟨nv, rfl, onv⟩ := p43
        obtain ⟨xA, xc, rfl⟩ := OS.form onv
        generalize parse (fmtOf l) = pp at hpa onv
        obtain ⟨px, pa, pe⟩ := pp
        simp only at onv
        refine .q (.move rfl) (.q (.ext rfl rfl) (.q (.ext rfl rfl) (.q (.ext rfl rfl) (.q (.assign rfl) (.q (.assign rfl) (.q (.assign rfl) (.nil (.code ?_))))))))
        refine .seq (.seq (.reg (.q (.move rfl) (.gtS rfl rfl (fun h48 => ?_) (fun h48 => ?_)))))
        · rw [if_neg (by omega)] at hpa
          cases hpa
          refine .nil (.code ?_)
          refine .tt (.seq (.reg (.q (.move rfl) (.q (.lenS s22.t rfl) (.q (.cmp rfl rfl (eqT (rfl))) (.q (.move rfl) (.q (.move rfl) (.q (.move rfl) (.q (.cmp rfl rfl (eqT (rfl))) (.q (.pickT rfl rfl) (.q (.move rfl) (.q (.move rfl) (.q (.cmp rfl rfl (eqT (rfl))) (.q (.pickT rfl rfl) (.q (.assign rfl) (.nil (.code ?_)))))))))))))))))
          refine .ret (.thR (.ret1 Tryz.results3 rfl fun w1 hz => ⟨rfl, hz.h.below⟩))
        · rw [if_pos (by omega)] at hpa
          cases hpa
          refine .nil (.code ?_)
          refine .ff (.skip (.code ?_))
          refine .seq (.reg (.q (.move rfl) (.q (.cmp rfl rfl (eqT (rfl))) (.q (.move rfl) (.q (.move rfl) (.q (.cmp rfl rfl (eqT (rfl))) (.q (.pickT rfl rfl) (.q (.move rfl) (.q (.move rfl) (.q (.move rfl) (.q (.call (v := .bool true) fn10 rfl (fun w hz => (same_calls w _ _ l l (OS.rd AU.encE_len onv (by omega) hz (fun x hx => List.mem_append_left _ hx)) (ht.below hz.h.below) (by omega) (by omega)).mono fun r w1 h => ⟨by rw [h.1]; simp, h.2⟩)) (.q (.pickT rfl rfl) (.q (.assign rfl) (.nil (.code ?_)))))))))))))))
          refine .ret (.ret1 Tryz.results3 rfl fun w1 hz => ⟨rfl, hz.h.below⟩)

end Go.Proofs.YtjccenbacjhglaaGreatDoor.T6
