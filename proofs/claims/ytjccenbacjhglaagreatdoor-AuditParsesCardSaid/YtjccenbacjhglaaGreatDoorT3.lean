import Derived.Test.YtjccenbacjhglaaGreatDoorProg
import Derived.Test.YtjccenbacjhglaaGreatDoorK
import Derived.Test.YtjccenbacjhglaaGreatDoorM2
import Derived.Test.YtjccenbacjhglaaGreatDoorKS
import Derived.Test.YtjccenbacjhglaaGreatDoorKB
import Derived.Test.YtjccenbacjhglaaGreatDoorST
import Derived.Test.YtjccenbacjhglaaGreatDoorSH
import Derived.Test.YtjccenbacjhglaaGreatDoorSC
import Derived.Test.YtjccenbacjhglaaGreatDoorAU
import Derived.Test.YtjccenbacjhglaaGreatDoorT1
import Derived.Test.YtjccenbacjhglaaGreatDoorT2
set_option linter.unusedVariables false
set_option linter.unusedSimpArgs false
set_option maxRecDepth 100000
set_option maxHeartbeats 1000000
namespace Go.Proofs.YtjccenbacjhglaaGreatDoor.T3
open Go Go.Proofs Go.RowKit Go.Proofs.YtjccenbacjhglaaGreatDoor.K Go.Proofs.YtjccenbacjhglaaGreatDoor.M Go.Proofs.YtjccenbacjhglaaGreatDoor.ST Go.Proofs.YtjccenbacjhglaaGreatDoor.SC Go.Proofs.YtjccenbacjhglaaGreatDoor.AU Go.Proofs.YtjccenbacjhglaaGreatDoor.T1 Go.Proofs.YtjccenbacjhglaaGreatDoor.T2
theorem a26 : Ag Tryz.prog 26 8 := ⟨_, Tryz.underlying26, rfl, by kernel_rfl⟩
theorem f26_0 : Fld Tryz.prog 26 0 0 := ⟨_, _, Tryz.underlying26, rfl, rfl, 0, by kernel_rfl⟩
theorem f26_1 : Fld Tryz.prog 26 1 1 := ⟨_, _, Tryz.underlying26, rfl, rfl, 0, by kernel_rfl⟩
theorem f26_2 : Fld Tryz.prog 26 2 2 := ⟨_, _, Tryz.underlying26, rfl, rfl, 0, by kernel_rfl⟩
theorem f26_3 : Fld Tryz.prog 26 3 3 := ⟨_, _, Tryz.underlying26, rfl, rfl, 0, by kernel_rfl⟩
theorem f26_4 : Fld Tryz.prog 26 4 4 := ⟨_, _, Tryz.underlying26, rfl, rfl, 0, by kernel_rfl⟩
theorem f26_5 : Fld Tryz.prog 26 5 5 := ⟨_, _, Tryz.underlying26, rfl, rfl, 0, by kernel_rfl⟩
theorem f26_6 : Fld Tryz.prog 26 6 6 := ⟨_, _, Tryz.underlying26, rfl, rfl, 0, by kernel_rfl⟩
theorem f26_7 : Fld Tryz.prog 26 7 7 := ⟨_, _, Tryz.underlying26, rfl, rfl, 0, by kernel_rfl⟩
theorem fn15 : Fnc Tryz.prog 15 := ⟨by kernel_rfl⟩
theorem fn16 : Fnc Tryz.prog 16 := ⟨by kernel_rfl⟩
theorem fn17 : Fnc Tryz.prog 17 := ⟨by kernel_rfl⟩
theorem fn18 : Fnc Tryz.prog 18 := ⟨by kernel_rfl⟩
theorem fn19 : Fnc Tryz.prog 19 := ⟨by kernel_rfl⟩
theorem fn20 : Fnc Tryz.prog 20 := ⟨by kernel_rfl⟩
theorem fn21 : Fnc Tryz.prog 21 := ⟨by kernel_rfl⟩
theorem mix : Tryz.prog.follows .mixedOrders = true := by kernel_rfl
theorem o3 : One Tryz.prog 3 := ⟨_, Tryz.underlying3, rfl, by kernel_rfl⟩
theorem o5 : One Tryz.prog 5 := ⟨_, Tryz.underlying5, rfl, by kernel_rfl⟩
theorem o9 : One Tryz.prog 9 := ⟨_, Tryz.underlying9, rfl, by kernel_rfl⟩
theorem s22 : Slc Tryz.prog 22 26 8 64 [.int .i64 0, .int .i64 0, .int .i64 0, .int .i64 0, .int .u8 0, .int .i64 0, .int .i64 0, .int .i64 0] := ⟨Tryz.underlying22, by kernel_rfl, rfl⟩
theorem s41 : Slc Tryz.prog 41 3 1 8 [.int .i64 0] := ⟨Tryz.underlying41, by kernel_rfl, rfl⟩
theorem z26 : Zr Tryz.prog 26 [.int .i64 0, .int .i64 0, .int .i64 0, .int .i64 0, .int .u8 0, .int .i64 0, .int .i64 0, .int .i64 0] := ⟨by kernel_rfl⟩
theorem z49 : Zr Tryz.prog 49 [.pointer none, .slice none 0 0] := ⟨by kernel_rfl⟩

theorem bef_len (c : UInt8) : ∀ s : By, (bef c s).length ≤ s.length
  | [] => Nat.le_refl _
  | b :: l => by
    unfold bef
    split
    · simp
    · have := bef_len c l; simp; omega
theorem pf_nil {n : Nat} {out : List Ev} {k : Int} : parseF n [] out k = (out, 0, 0) := by cases n <;> simp [parseF]
theorem pf_none {n : Nat} {l : By} {out : List Ev} {k : Int} (hl : l ≠ []) (hn : l.length ≤ n) (h : lineOf (bef 10 l) = none) : parseF n l out k = ([], k, 3) := by
  cases n with
  | zero => exact absurd (List.length_eq_zero_iff.1 (by omega)) hl
  | succ n => unfold parseF; rw [if_neg hl, h]
theorem pf_end {n : Nat} {l : By} {out : List Ev} {k : Int} {x : Ev} (hl : l ≠ []) (hn : l.length ≤ n) (h : lineOf (bef 10 l) = some x) (h10 : (10 : UInt8) ∉ l) : parseF n l out k = ([], k, 4) := by
  cases n with
  | zero => exact absurd (List.length_eq_zero_iff.1 (by omega)) hl
  | succ n => unfold parseF; rw [if_neg hl, h]; simp only; rw [if_neg h10]
theorem pf_step {n : Nat} {l : By} {out : List Ev} {k : Int} {x : Ev} (hl : l ≠ []) (hn : l.length ≤ n) (h : lineOf (bef 10 l) = some x) (h10 : (10 : UInt8) ∈ l) : parseF n l out k = parseF (n - 1) (aft 10 l) (out ++ [x]) (k + 1) := by
  cases n with
  | zero => exact absurd (List.length_eq_zero_iff.1 (by omega)) hl
  | succ n =>
    conv => lhs; unfold parseF
    rw [if_neg hl, h]; simp only; rw [if_pos h10]; rfl
theorem encE_snoc {out : List Ev} {x : Ev} {v : Value} {L : List Blk} {T : TypeId} (o : OS T 8 v (out.flatMap encE ++ encE x) (out.length + 1) L) : OS T 8 v ((out ++ [x]).flatMap encE) (out ++ [x]).length L := by
  have h1 : (out ++ [x]).flatMap encE = out.flatMap encE ++ encE x := by simp
  have h2 : (out ++ [x]).length = out.length + 1 := by simp
  rw [h1, h2]; exact o

theorem parse_calls (w : World) (hg : GV w) (s : By) (hs : s.length ≤ 1048576) : Calls Tryz.prog 8 #[sv s] w fun r w' => ∃ v L', r = .returned v ∧ Z w w [] L' w' ∧ (∃ nv, v = .tuple #[nv, .int .i64 (parse s).2.1, .int .i64 (parse s).2.2] ∧ OS 26 8 nv ((parse s).1.flatMap encE) (parse s).1.length L') := by
  refine enter (args := [_]) Tryz.func8 rfl rfl rfl (C := Z w w [] []) (Z.start (H.nil w)) ?_
  refine .seq (.reg (.q (.assign rfl) (.q (.assign rfl) (.q (.assign rfl) (.nil (.code ?_))))))
  refine .seq (.seq (.reg (.q (.move rfl) (.q (.lenT Tryz.underlying9 rfl) (.q (.cmp rfl rfl (gtF (by omega))) (.nil (.code ?_)))))))
  refine .ff (.skip (.code ?_))
  refine .seq (.reg (.q (.assign rfl) (.nil (.code ?_))))
  refine .seq (.seq (.reg (.q (.assign rfl) (.nil (.code ?_)))))
  refine .block (.lp (fun q : Nat × By × Int × List Ev × Value × List Blk => [(0, sv q.2.1), (5, q.2.2.2.2.1), (6, .int .i64 q.2.2.1)]) (fun q => q.2.2.2.2.2) (fun q => q.2.1.length ≤ q.1 ∧ parse s = parseF q.1 q.2.1 q.2.2.2.1 q.2.2.1 ∧ 1 ≤ q.2.2.1 ∧ q.2.2.1 + (q.2.1.length : Nat) ≤ 1 + (s.length : Nat) ∧ q.2.2.2.1.length + q.2.1.length ≤ s.length ∧ OS 26 8 q.2.2.2.2.1 (q.2.2.2.1.flatMap encE) q.2.2.2.1.length q.2.2.2.2.2) (fun q => q.2.1.length) (s.length, s, 1, [], .slice none 0 0, []) ⟨rfl, rfl, rfl, trivial⟩ (fun _ h => h) ⟨Nat.le_refl _, rfl, Int.le_refl _, by simp only; omega, by simp, OS.nil _ _⟩ fun ⟨n, l, k, out, nv, Ln⟩ hk => ?_)
  obtain ⟨hk1, hk2, hk3, hk4, hk5, hk6⟩ := hk
  simp only at hk1 hk2 hk3 hk4 hk5 hk6
  show WC _ _ _ _ (Z w w _ Ln) [(0, sv l), (5, nv), (6, .int .i64 k)]
  refine .seq (.seq (.reg (.q (.move rfl) (.q (.neS' (b := []) rfl rfl) (.nil (.code ?_))))))
  refine .condP (fun h16 => ?_) (fun h16 => ?_)
  · have hal := aft_len 10 l h16
    have hbl := bef_len 10 l
    refine .skip (.code ?_)
    refine .seq (.block (.seq (.reg (.q (.move rfl) (.q (.call fn15 rfl (fun w hz => cut_calls w (hg.z hz) l 10 (by omega))) (.q (.move rfl) (.q (.ext rfl rfl) (.q (.ext rfl rfl) (.q (.ext rfl rfl) (.q (.assign rfl) (.q (.assign rfl) (.q (.assign rfl) (.nil (.code ?_))))))))))))))
    refine .seq (.reg (.q (.move rfl) (.callA fn16 rfl (fun w hz => line_calls w (hg.z hz) (bef 10 l) (by omega)) fun v27 L27 p27 => ?_)))
    obtain ⟨rfl, e, rfl, hle⟩ := p27
    rw [List.nil_append]
    refine .q (.move rfl) (.q (.ext rfl rfl) (.q (.ext rfl rfl) (.alloc z26 fun b10 => .stA a26 0 rfl rfl rfl rfl rfl rfl (.q (.assign rfl) (.nil (.code ?_))))))
    refine .seq (.block (.seq (.reg (?_))))
    rcases hq : lineOf (bef 10 l) with _ | x
    · refine .q (.move rfl) (.q (.notB rfl) (.q (.assign rfl) (.nil (.code ?_))))
      refine .tt (.seq (.reg (.q (.move rfl) (.q (.assign rfl) (.q (.assign rfl) (.q (.assign rfl) (.nil (.code ?_))))))))
      refine .ret (.inbR (.thR (.inbR (.thR (.thR (.inbR (.thR (.ret3 Tryz.results8 rfl rfl rfl fun w1 hz => ⟨_, [], rfl, hz.sublist (List.nil_sublist _), _, by rw [hk2, pf_none h16 hk1 hq], by rw [hk2, pf_none h16 hk1 hq]; exact OS.nil _ _⟩))))))))
    · obtain rfl := hle x hq
      refine .q (.move rfl) (.q (.notB rfl) (.q (.assign rfl) (.nil (.code ?_))))
      refine .ff (.seq (.reg (?_)))
      by_cases h10 : (10 : UInt8) ∈ l
      · rw [decide_eq_true h10]
        refine .q (.move rfl) (.q (.notB rfl) (.q (.assign rfl) (.nil (.code ?_))))
        refine .ff (.skip (.inbN (.code ?_)))
        refine .reg (.q (.move rfl) (.q (.ldOA (cs := encE e) a26 0 rfl rfl rfl rfl) (.bslice s22 rfl rfl rfl fun b40 => .app1 s22 (by omega) (by omega) rfl rfl hk6 (pkC (pkN _)) (by rfl) (encE_one e) (by omega) fun v41 L41 o41 => (.q (.move rfl) (.q (.assign rfl) (.q (.assign rfl) (.nil (.inbN (.code ?_)))))))))
        refine .reg (.q (.move rfl) (.q (.add rfl rfl (IntWalk.i64_in _ (by omega))) (.q (.assign rfl) (.nil (.rd (n - 1, aft 10 l, k + 1, out ++ [e], v41, L41) ⟨rfl, rfl, rfl, trivial⟩ (fun _ h => h.sublist (List.sublist_append_left _ _)) ⟨by simp only; omega, by simp only; rw [hk2, pf_step h16 hk1 hq h10], by simp only; omega, by simp only; omega, by simp only [List.length_append, List.length_singleton]; omega, encE_snoc o41⟩ (by simp only; omega))))))
      · rw [decide_eq_false h10]
        refine .q (.move rfl) (.q (.notB rfl) (.q (.assign rfl) (.nil (.code ?_))))
        refine .tt (.seq (.reg (.q (.move rfl) (.q (.assign rfl) (.q (.assign rfl) (.q (.assign rfl) (.nil (.code ?_))))))))
        refine .ret (.inbR (.thR (.inbR (.thR (.thR (.inbR (.thR (.ret3 Tryz.results8 rfl rfl rfl fun w1 hz => ⟨_, [], rfl, hz.sublist (List.nil_sublist _), _, by rw [hk2, pf_end h16 hk1 hq h10], by rw [hk2, pf_end h16 hk1 hq h10]; exact OS.nil _ _⟩))))))))
  · have h16 : l = [] := Decidable.of_not_not h16
    refine .exit (.thE (.thE (.inbX (.code ?_))))
    refine .seq (.reg (.q (.move rfl) (.q (.assign rfl) (.q (.assign rfl) (.q (.assign rfl) (.nil (.code ?_)))))))
    refine .ret (.ret3 Tryz.results8 rfl rfl rfl fun w1 hz => ⟨_, Ln, rfl, hz, nv, by rw [hk2, h16]; simp only [pf_nil], by rw [hk2, h16, pf_nil]; exact hk6⟩)


def head1 (e : Ev) : By := (((Lib.itoa e.s ++ [32]) ++ Lib.itoa e.cy) ++ [32]) ++ wordOf e.k
def nums5 (e : Ev) : List Int := [e.t, e.j, e.c, e.v, e.po]
def tail1 (e : Ev) (j : Nat) : By := ((nums5 e).take j).flatMap fun n => [32] ++ Lib.itoa n
theorem tail_step {e : Ev} {j : Nat} (h : j < 5) : tail1 e (j + 1) = tail1 e j ++ ([32] ++ Lib.itoa ((nums5 e)[j]'h)) := by
  have : j = 0 ∨ j = 1 ∨ j = 2 ∨ j = 3 ∨ j = 4 := by omega
  rcases this with rfl | rfl | rfl | rfl | rfl <;> simp [tail1, nums5]
theorem tail_all (e : Ev) : (head1 e ++ tail1 e 5) ++ [10] = fmt1 e := by simp [head1, tail1, nums5, fmt1, body]
theorem head_len {e : Ev} (h : EvR e) : (head1 e).length ≤ 60 := by
  obtain ⟨h1, h2, _⟩ := h
  have := itoa_len h1; have := itoa_len h2; have := word_len e.k
  simp only [head1, List.length_append, List.length_singleton]; omega
theorem nums_R {e : Ev} (h : EvR e) {j : Nat} (hj : j < 5) : R64 ((nums5 e)[j]'hj) := by
  obtain ⟨h1, h2, h3, h4, h5, h6, h7⟩ := h
  have : j = 0 ∨ j = 1 ∨ j = 2 ∨ j = 3 ∨ j = 4 := by omega
  rcases this with rfl | rfl | rfl | rfl | rfl <;> assumption
theorem tail_len {e : Ev} (h : EvR e) : ∀ {j : Nat}, j ≤ 5 → (tail1 e j).length ≤ 21 * j
  | 0, _ => by simp [tail1]
  | j + 1, hj => by
    have := tail_len h (j := j) (by omega)
    have := itoa_len (nums_R h (show j < 5 by omega))
    rw [tail_step (by omega)]
    simp only [List.length_append, List.length_singleton]; omega
theorem take_fmt {l : List Ev} {i : Nat} (hi : i < l.length) : fmtOf (l.take (i + 1)) = fmtOf (l.take i) ++ fmt1 l[i] := by rw [List.take_succ_eq_append_getElem hi, fmtOf_snoc]
theorem take_len {l : List Ev} (h : ∀ e ∈ l, EvR e) (i : Nat) : (fmtOf (l.take i)).length ≤ 160 * l.length := by
  have := fmtOf_len (l := l.take i) fun e he => h e (List.mem_of_mem_take he)
  have := List.length_take_le' i l
  omega
theorem no8b {b b' : Nat} {cs cs' : Array Value} {T T' e : TypeId} {fr fr' : Nat × Nat} (hT : T ≠ e) (hT' : T' ≠ e) : ∀ x ∈ [((b, Obj.cells cs T fr) : Blk), (b', Obj.cells cs' T' fr')], ∀ c fz, x.2 ≠ .cells c e fz := by
  intro x hx c fz h1
  simp only [List.mem_cons, List.not_mem_nil, or_false] at hx
  rcases hx with rfl | rfl
  · injection h1 with _ h2; exact hT h2
  · injection h1 with _ h2; exact hT' h2
theorem no8 {x : Blk} {b : Nat} {cs : Array Value} {T e : TypeId} {fr : Nat × Nat} (h : x ∈ [((b, Obj.cells cs T fr) : Blk)]) (hT : T ≠ e) : ∀ c fz, x.2 ≠ .cells c e fz := by
  rw [List.mem_singleton] at h
  subst h
  intro c fz h1
  injection h1 with _ h2
  exact hT h2

theorem fmt_calls (w : World) (hg : GV w) (tv : Value) (l : List Ev) (ht : Rd encE 8 w tv l) (hR : ∀ e ∈ l, EvR e) (hK : ∀ e ∈ l, 0 ≤ e.k ∧ e.k ≤ 255) (hn : l.length ≤ 1000000) : Calls Tryz.prog 9 #[tv] w fun r w' => r = .returned (sv (fmtOf l)) ∧ Z w w [] [] w' := by
  obtain ⟨tA, tc, rfl⟩ : ∃ A c, tv = .slice A l.length c := by obtain ⟨A, c, h, _⟩ := ht; exact ⟨A, c, h⟩
  refine enter (args := [_]) Tryz.func9 rfl rfl rfl (C := Z w w [] []) (Z.start (H.nil w)) ?_
  refine .seq (.reg (.q (.assign rfl) (.nil (.code ?_))))
  refine .seq (.reg (.alloc z49 fun b3 => .nil (.code ?_)))
  refine .seq (.seq (.reg (.q (.move rfl) (.q (.lenS s22.t rfl) (.q (.move rfl) (.nil (.code ?_)))))))
  refine .block (.lp (fun q : Nat × List Blk => [(3, .pointer (some ⟨b3, 0, none⟩)), (8, .slice tA l.length tc), (9, .int .i64 (l.length : Int)), (10, .int .i64 (q.1 : Int))]) (fun q => q.2) (fun q => q.1 ≤ l.length ∧ BdO 49 5 b3 (fmtOf (l.take q.1)) q.2) (fun q => l.length - q.1) (0, [_]) ⟨rfl, rfl, rfl, rfl, trivial⟩ (fun _ h => h) ⟨Nat.zero_le _, BdO.new _ _ _⟩ fun ⟨i, Lb⟩ hk => ?_)
  obtain ⟨hk1, hk2⟩ := hk
  simp only at hk1 hk2
  show WC _ _ _ _ (Z w w _ Lb) [(3, .pointer (some ⟨b3, 0, none⟩)), (8, .slice tA l.length tc), (9, .int .i64 (l.length : Int)), (10, .int .i64 (i : Int))]
  have hlen := take_len hR i
  refine .seq (.reg (.ltS rfl rfl (fun h11 => ?_) (fun h11 => ?_)))
  · have hi : i < l.length := by omega
    obtain ⟨tb, toff, tc2, hte, hrd⟩ := Rd.at ht hi
    cases hte
    have hRi := hR l[i] (List.getElem_mem hi)
    have hKi := hK l[i] (List.getElem_mem hi)
    have hRj := hRi
    obtain ⟨r1, r2, r3, r4, r5, r6, r7⟩ := hRj
    have hhl := head_len hRi
    have ha1 := itoa_len r1
    have ha2 := itoa_len r2
    have ha3 := word_len l[i].k
    refine .nil (.code ?_)
    refine .seq (.tt (.skip (.code ?_)))
    refine .seq (.block (.seq (.reg (.q (.ix s22 rfl rfl (by omega)) (.q (.ldWA a26 (cs := encE l[i]) rfl rfl fun j hj => hrd j hj) (.alloc z26 fun b5 => .stA a26 0 rfl rfl rfl rfl rfl rfl (?_)))))))
    show W _ _ _ _ (Z w w _ ((b5, .cells (encE l[i]).toArray 26 (0, 0)) :: Lb)) _ _
    refine .nil (.code ?_)
    refine .seq (.drawT mix 13 (by kernel_rfl) (fun _ h => h.drew) (.q (.fld f26_0 rfl) (.q (.ldO (v := .int .i64 l[i].s) o3 0 rfl rfl rfl) (.q (.call fn18 rfl (fun w hz => itoa_calls w (hg.z hz) _ r1)) (.q (.addS (b := [32]) rfl rfl (by first | omega | (simp only [List.length_append, List.length_singleton]; omega)) rfl) (.q (.fld f26_6 rfl) (.q (.ldO (v := .int .i64 l[i].cy) o3 0 rfl rfl rfl) (.q (.call fn18 rfl (fun w hz => itoa_calls w (hg.z hz) _ r2)) (.q (.addS rfl rfl (by first | omega | (simp only [List.length_append, List.length_singleton]; omega)) rfl) (.q (.addS (b := [32]) rfl rfl (by first | omega | (simp only [List.length_append, List.length_singleton]; omega)) rfl) (.q (.fld f26_4 rfl) (.q (.ldO (v := .int .u8 l[i].k) o5 0 rfl rfl rfl) (.q (.call fn19 rfl (fun w hz => word_calls w _ hKi.1 hKi.2)) (.q (.addS (r := head1 l[i]) rfl rfl (by first | omega | (simp only [List.length_append, List.length_singleton]; omega)) rfl) (.tail (.callB fn17 rfl hk2 (pkC (pkN _)) (fun x hx => no8 hx (by decide)) (fun w1 hb hs => wstr_calls w w1 b3 _ (head1 l[i]) hb hs (by first | omega | (simp only [List.length_append, List.length_singleton]; omega))) fun v27 L27 o27 _ => (.nil (.code ?_))))))))))))))))))
    refine .seq (.seq (.reg (.q (.fld f26_2 rfl) (.q (.ld (v := .int .i64 l[i].t) o3 rfl (fun w1 hz => by rw [cells_at hz (List.mem_append_right _ (.head _))]; rfl)) (.q (.fld f26_3 rfl) (.q (.ld (v := .int .i64 l[i].j) o3 rfl (fun w1 hz => by rw [cells_at hz (List.mem_append_right _ (.head _))]; rfl)) (.q (.fld f26_1 rfl) (.q (.ld (v := .int .i64 l[i].c) o3 rfl (fun w1 hz => by rw [cells_at hz (List.mem_append_right _ (.head _))]; rfl)) (.q (.fld f26_5 rfl) (.q (.ld (v := .int .i64 l[i].v) o3 rfl (fun w1 hz => by rw [cells_at hz (List.mem_append_right _ (.head _))]; rfl)) (.q (.fld f26_7 rfl) (.q (.ld (v := .int .i64 l[i].po) o3 rfl (fun w1 hz => by rw [cells_at hz (List.mem_append_right _ (.head _))]; rfl)) (.bslice s41 rfl rfl rfl fun b38 => (.q (.lenS s41.t rfl) (.q (.move rfl) (.nil (.code ?_)))))))))))))))))
    refine .block (.lp (fun q : Nat × List Blk => [(3, .pointer (some ⟨b3, 0, none⟩)), (8, .slice (some ⟨tb, toff, none⟩) l.length tc), (9, .int .i64 (l.length : Int)), (10, .int .i64 (i : Int)), (38, .slice (some ⟨b38, 0, none⟩) 5 5), (39, .int .i64 5), (40, .int .i64 (q.1 : Int))]) (fun q => (b38, .cells ((nums5 l[i]).map intV).toArray 3 (0, 0)) :: q.2 ++ [(b5, .cells (encE l[i]).toArray 26 (0, 0))]) (fun q => q.1 ≤ 5 ∧ BdO 49 5 b3 (fmtOf (l.take i) ++ (head1 l[i] ++ tail1 l[i] q.1)) q.2) (fun q => 5 - q.1) (0, L27) ⟨rfl, rfl, rfl, rfl, rfl, rfl, rfl, trivial⟩ (fun _ h => h) ⟨Nat.zero_le _, by show BdO _ _ _ (_ ++ (head1 l[i] ++ [])) _; rw [List.append_nil]; exact o27⟩ fun ⟨j, Lc⟩ hq => ?_)
    obtain ⟨hq1, hq2⟩ := hq
    simp only at hq1 hq2
    show WC _ _ _ _ (Z w w _ ((b38, .cells ((nums5 l[i]).map intV).toArray 3 (0, 0)) :: (Lc ++ [(b5, .cells (encE l[i]).toArray 26 (0, 0))]))) [(3, .pointer (some ⟨b3, 0, none⟩)), (8, .slice (some ⟨tb, toff, none⟩) l.length tc), (9, .int .i64 (l.length : Int)), (10, .int .i64 (i : Int)), (38, .slice (some ⟨b38, 0, none⟩) 5 5), (39, .int .i64 5), (40, .int .i64 (j : Int))]
    have htl := tail_len hRi hq1
    refine .seq (.reg (.ltS rfl rfl (fun h41 => ?_) (fun h41 => ?_)))
    · have hj : j < 5 := by omega
      have hnr := nums_R hRi hj
      have hnl := itoa_len hnr
      refine .nil (.code ?_)
      refine .seq (.tt (.skip (.code ?_)))
      refine .seq (.block (.seq (.reg (.q (.ix s41 rfl rfl (by omega)) (.q (.ldO (v := .int .i64 ((nums5 l[i])[j]'hj)) o3 0 rfl rfl (by rw [Nat.zero_add, Nat.mul_one, List.getElem?_map, List.getElem?_eq_getElem (show j < (nums5 l[i]).length from hj)]; rfl)) (.q (.assign rfl) (.nil (.code ?_))))))))
      refine .reg (.q (.move rfl) (.q (.call fn18 rfl (fun w hz => itoa_calls w (hg.z hz) _ hnr)) (.q (.addS (a := [32]) rfl rfl (by first | omega | (simp only [List.length_append, List.length_singleton]; omega)) rfl) (.callB fn17 rfl hq2 (pkC (.refl _)) (no8b (by decide) (by decide)) (fun w1 hb hs => wstr_calls w w1 b3 _ ([32] ++ Lib.itoa ((nums5 l[i])[j]'hj)) hb hs (by first | omega | (simp only [List.length_append, List.length_singleton]; omega))) fun v47 L47 o47 _ => (.nil (.inbN (.code ?_)))))))
      refine .reg (.q (.add rfl rfl (IntWalk.i64_in _ (by omega))) (.q (.move rfl) (.nil (.rd (j + 1, L47) ⟨rfl, rfl, rfl, rfl, rfl, rfl, rfl, trivial⟩ (fun _ h => h.perm List.perm_middle) ⟨by simp only; omega, by simp only; rw [tail_step hj, ← List.append_assoc (head1 _), ← List.append_assoc]; exact o47⟩ (by simp only; omega)))))
    · refine .nil (.code ?_)
      refine .seq (.ff (.exit (.thE (.thE (.inbX (.code ?_))))))
      refine .reg (.callB fn20 rfl hq2 (pkC (.refl _)) (no8b (by decide) (by decide)) (fun w1 hb hs => wbyte_calls w w1 b3 _ 10 hb hs (by first | omega | (simp only [List.length_append, List.length_singleton]; omega))) fun v49 L49 o49 _ => (.nil (.inbN (.code ?_))))
      refine .reg (.q (.add rfl rfl (IntWalk.i64_in _ (by omega))) (.q (.move rfl) (.nil (.rd (i + 1, L49) ⟨rfl, rfl, rfl, rfl, trivial⟩ (fun _ h => h.sublist (List.sublist_append_left _ _)) ⟨by simp only; omega, by simp only; rw [take_fmt hi, ← tail_all, ← List.append_assoc]; exact (show BdO _ _ b3 (fmtOf (List.take i l) ++ (head1 l[i] ++ tail1 l[i] 5) ++ [10]) L49 from (show j = 5 by omega) ▸ o49)⟩ (by simp only; omega)))))
  · refine .nil (.code ?_)
    refine .seq (.ff (.exit (.thE (.thE (.inbX (.code ?_))))))
    refine .seq (.reg (.callB fn21 rfl hk2 (pkN _) (fun x hx => absurd hx List.not_mem_nil) (fun w1 hb hs => bstr_calls w w1 b3 _ hb hs) fun v51 L51 o51 p51 => (?_)))
    subst p51
    refine .q (.assign rfl) (.nil (.code ?_))
    refine .ret (.ret1 Tryz.results9 rfl fun w1 hz => ⟨by rw [List.take_of_length_le (show l.length ≤ i by omega)], hz.sublist (List.nil_sublist _)⟩)

end Go.Proofs.YtjccenbacjhglaaGreatDoor.T3
