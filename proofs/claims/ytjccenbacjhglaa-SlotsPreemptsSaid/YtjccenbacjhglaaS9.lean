import Derived.Test.YtjccenbacjhglaaProg
import Derived.Test.YtjccenbacjhglaaK
import Derived.Test.YtjccenbacjhglaaM
import Derived.Test.YtjccenbacjhglaaIS
import Derived.Test.YtjccenbacjhglaaM2
import Derived.Test.YtjccenbacjhglaaMS
import Derived.Test.YtjccenbacjhglaaPF
import Derived.Test.YtjccenbacjhglaaSO
import Derived.Test.YtjccenbacjhglaaAU
import Derived.Test.YtjccenbacjhglaaR1
import Derived.Test.YtjccenbacjhglaaR2
import Derived.Test.YtjccenbacjhglaaR3
import Derived.Test.YtjccenbacjhglaaS1
import Derived.Test.YtjccenbacjhglaaS2
import Derived.Test.YtjccenbacjhglaaS3
import Derived.Test.YtjccenbacjhglaaS4
import Derived.Test.YtjccenbacjhglaaS5
import Derived.Test.YtjccenbacjhglaaS6
import Derived.Test.YtjccenbacjhglaaS7
import Derived.Test.YtjccenbacjhglaaS8
set_option linter.unusedVariables false
set_option linter.unusedSimpArgs false
set_option maxRecDepth 100000
set_option maxHeartbeats 1000000
namespace Go.Proofs.Ytjccenbacjhglaa.S9
open Go Go.Proofs Go.RowKit Go.Proofs.Ytjccenbacjhglaa.K Go.Proofs.Ytjccenbacjhglaa.M Go.Proofs.Ytjccenbacjhglaa.PF Go.Proofs.Ytjccenbacjhglaa.SO Go.Proofs.Ytjccenbacjhglaa.AU Go.Proofs.Ytjccenbacjhglaa.R1 Go.Proofs.Ytjccenbacjhglaa.R2 Go.Proofs.Ytjccenbacjhglaa.R3 Go.Proofs.Ytjccenbacjhglaa.S1 Go.Proofs.Ytjccenbacjhglaa.S2 Go.Proofs.Ytjccenbacjhglaa.S3 Go.Proofs.Ytjccenbacjhglaa.S4 Go.Proofs.Ytjccenbacjhglaa.S5 Go.Proofs.Ytjccenbacjhglaa.S6 Go.Proofs.Ytjccenbacjhglaa.S7 Go.Proofs.Ytjccenbacjhglaa.S8
theorem a62 : Ag Try.prog 62 3 := ⟨_, Try.underlying62, rfl, by kernel_rfl⟩
theorem a98 : Ag Try.prog 98 3 := ⟨_, Try.underlying98, rfl, by kernel_rfl⟩
theorem a99 : Ag Try.prog 99 3 := ⟨_, Try.underlying99, rfl, by kernel_rfl⟩
theorem eq98 : EqS Try.prog 98 [.i64, .i64, .i64] := ⟨by kernel_rfl⟩
theorem f44_0 : Fld Try.prog 44 0 0 := ⟨_, _, Try.underlying44, rfl, rfl, 0, by kernel_rfl⟩
theorem f44_1 : Fld Try.prog 44 1 1 := ⟨_, _, Try.underlying44, rfl, rfl, 0, by kernel_rfl⟩
theorem f44_2 : Fld Try.prog 44 2 2 := ⟨_, _, Try.underlying44, rfl, rfl, 0, by kernel_rfl⟩
theorem f44_3 : Fld Try.prog 44 3 3 := ⟨_, _, Try.underlying44, rfl, rfl, 0, by kernel_rfl⟩
theorem fn37 : Fnc Try.prog 37 := ⟨by kernel_rfl⟩
theorem fn55 : Fnc Try.prog 55 := ⟨by kernel_rfl⟩
theorem fn56 : Fnc Try.prog 56 := ⟨by kernel_rfl⟩
theorem mix : Try.prog.follows .mixedOrders = true := by kernel_rfl
theorem o3 : One Try.prog 3 := ⟨_, Try.underlying3, rfl, by kernel_rfl⟩
theorem o22 : One Try.prog 22 := ⟨_, Try.underlying22, rfl, by kernel_rfl⟩
theorem o37 : One Try.prog 37 := ⟨_, Try.underlying37, rfl, by kernel_rfl⟩
theorem o42 : One Try.prog 42 := ⟨_, Try.underlying42, rfl, by kernel_rfl⟩
theorem s22 : Slc Try.prog 22 62 3 32 [.string ⟨#[]⟩, .int .i64 0, .int .i64 0] := ⟨Try.underlying22, by kernel_rfl, rfl⟩
theorem s30 : Slc Try.prog 30 87 3 32 [.string ⟨#[]⟩, .int .i64 0, .int .i64 0] := ⟨Try.underlying30, by kernel_rfl, rfl⟩
theorem s37 : Slc Try.prog 37 3 1 8 [.int .i64 0] := ⟨Try.underlying37, by kernel_rfl, rfl⟩
theorem s42 : Slc Try.prog 42 37 1 24 [.slice none 0 0] := ⟨Try.underlying42, by kernel_rfl, rfl⟩
theorem s45 : Slc Try.prog 45 37 1 24 [.slice none 0 0] := ⟨Try.underlying45, by kernel_rfl, rfl⟩
theorem s46 : Slc Try.prog 46 99 3 24 [.int .i64 0, .int .i64 0, .int .i64 0] := ⟨Try.underlying46, by kernel_rfl, rfl⟩
theorem s57 : Slc Try.prog 57 98 3 24 [.int .i64 0, .int .i64 0, .int .i64 0] := ⟨Try.underlying57, by kernel_rfl, rfl⟩
theorem z62 : Zr Try.prog 62 [.string ⟨#[]⟩, .int .i64 0, .int .i64 0] := ⟨by kernel_rfl⟩
theorem z99 : Zr Try.prog 99 [.int .i64 0, .int .i64 0, .int .i64 0] := ⟨by kernel_rfl⟩
theorem ints41_calls (w : World) (u v : Value) (xs : List Int) (hx : Rd eI 1 w u xs) (hy : Rd eI 1 w v xs) : Calls Try.prog 19 #[u, v] w fun e w' => e = .returned (.bool true) ∧ Z w w [] [] w' := by
  obtain ⟨xA, xc, rfl⟩ : ∃ A c, u = .slice A xs.length c := by obtain ⟨A, c, h, _⟩ := hx; exact ⟨A, c, h⟩
  obtain ⟨yA, yc, rfl⟩ : ∃ A c, v = .slice A xs.length c := by obtain ⟨A, c, h, _⟩ := hy; exact ⟨A, c, h⟩
  have hbx := Rd.len_bd hx
  refine enter (args := [_, _]) Try.func19 rfl rfl rfl (C := Z w w [] []) (Z.start (H.nil w)) ?_
  refine .seq (.reg (.q (.assign rfl) (.nil (.code ?_))))
  refine .seq (.seq (.reg (.q (.move rfl) (.q (.lenS s37.t rfl) (.q (.move rfl) (.q (.lenS s37.t rfl) (.q (.cmp rfl rfl (neF (rfl))) (.nil (.code ?_)))))))))
  refine .ff (.skip (.code ?_))
  refine .seq (.seq (.reg (.q (.assign rfl) (.nil (.code ?_)))))
  refine .block (.lp (fun i : Nat => [(0, .slice xA xs.length xc), (1, .slice yA xs.length yc), (5, .int .i64 (i : Int))]) (fun _ => []) (fun i => i ≤ xs.length) (fun i => xs.length - i) 0 ⟨rfl, rfl, rfl, trivial⟩ (fun _ h => h) (Nat.zero_le _) fun i hk1 => ?_)
  refine .seq (.seq (.reg (.q (.move rfl) (.q (.move rfl) (.q (.lenS s37.t rfl) (.ltS rfl rfl (fun h14 => ?_) (fun h14 => ?_)))))))
  · have hi : i < xs.length := by omega
    obtain ⟨xb, xo, xc2, hxe, hxr⟩ := Rd.at hx hi
    cases hxe
    obtain ⟨yb, yo, yc2, hye, hyr⟩ := Rd.at hy hi
    cases hye
    refine .nil (.code ?_)
    refine .tt (.skip (.code ?_))
    refine .seq (.block (.seq (.draw mix (by kernel_rfl) (fun _ h => h.drew) (.q (.move rfl) (.q (.move rfl) (.q (.ix s37 rfl rfl (by omega)) (.q (.ldW (v := .int .i64 xs[i]) o3 rfl (by have := hxr 0 (by omega); exact this)) (.q (.move rfl) (.q (.move rfl) (.q (.ix s37 rfl rfl (by omega)) (.q (.ldW (v := .int .i64 xs[i]) o3 rfl (by have := hyr 0 (by omega); exact this)) (.q (.cmp rfl rfl (neF (rfl))) (.nil (.code ?_))))))))))))))
    refine .ff (.skip (.inbN (.code ?_)))
    refine .reg (.q (.move rfl) (.q (.add rfl rfl (IntWalk.i64_in _ (by omega))) (.q (.assign rfl) (.nil (.rd (i + 1) ⟨rfl, rfl, rfl, trivial⟩ (fun _ h => h) (by omega) (by omega))))))
  · refine .nil (.code ?_)
    refine .ff (.exit (.thE (.thE (.inbX (.code ?_)))))
    refine .seq (.reg (.q (.assign rfl) (.nil (.code ?_))))
    refine .ret (.ret1 Try.results19 rfl fun w1 hz => ⟨rfl, hz⟩)

theorem same46_calls (w : World) (u v : Value) (xs : List Ms) (hx : Rd encM 3 w u xs) (hy : Rd encM 3 w v xs) : Calls Try.prog 23 #[u, v] w fun e w' => e = .returned (.bool true) ∧ Z w w [] [] w' := by
  obtain ⟨xA, xc, rfl⟩ : ∃ A c, u = .slice A xs.length c := by obtain ⟨A, c, h, _⟩ := hx; exact ⟨A, c, h⟩
  obtain ⟨yA, yc, rfl⟩ : ∃ A c, v = .slice A xs.length c := by obtain ⟨A, c, h, _⟩ := hy; exact ⟨A, c, h⟩
  have hbx := Rd.len_bd hx
  refine enter (args := [_, _]) Try.func23 rfl rfl rfl (C := Z w w [] []) (Z.start (H.nil w)) ?_
  refine .seq (.reg (.q (.assign rfl) (.nil (.code ?_))))
  refine .seq (.seq (.reg (.q (.move rfl) (.q (.lenS s57.t rfl) (.q (.move rfl) (.q (.lenS s57.t rfl) (.q (.cmp rfl rfl (neF (rfl))) (.nil (.code ?_)))))))))
  refine .ff (.skip (.code ?_))
  refine .seq (.seq (.reg (.q (.assign rfl) (.nil (.code ?_)))))
  refine .block (.lp (fun i : Nat => [(0, .slice xA xs.length xc), (1, .slice yA xs.length yc), (5, .int .i64 (i : Int))]) (fun _ => []) (fun i => i ≤ xs.length) (fun i => xs.length - i) 0 ⟨rfl, rfl, rfl, trivial⟩ (fun _ h => h) (Nat.zero_le _) fun i hk1 => ?_)
  refine .seq (.seq (.reg (.q (.move rfl) (.q (.move rfl) (.q (.lenS s57.t rfl) (.ltS rfl rfl (fun h14 => ?_) (fun h14 => ?_)))))))
  · have hi : i < xs.length := by omega
    obtain ⟨xb, xo, xc2, hxe, hxr⟩ := Rd.at hx hi
    cases hxe
    obtain ⟨yb, yo, yc2, hye, hyr⟩ := Rd.at hy hi
    cases hye
    refine .nil (.code ?_)
    refine .tt (.skip (.code ?_))
    refine .seq (.block (.seq (.draw mix (by kernel_rfl) (fun _ h => h.drew) (.q (.move rfl) (.q (.move rfl) (.q (.ix s57 rfl rfl (by omega)) (.q (.ldWA (cs := encM xs[i]) a98 rfl rfl fun j hj => hxr j hj) (.q (.move rfl) (.q (.move rfl) (.q (.ix s57 rfl rfl (by omega)) (.q (.ldWA (cs := encM xs[i]) a98 rfl rfl fun j hj => hyr j hj) (.q (.neS (b := false) eq98 (us := [xs[i].t, xs[i].r, xs[i].d]) (vs := [xs[i].t, xs[i].r, xs[i].d]) rfl rfl rfl rfl (by simp)) (.nil (.code ?_))))))))))))))
    refine .ff (.skip (.inbN (.code ?_)))
    refine .reg (.q (.move rfl) (.q (.add rfl rfl (IntWalk.i64_in _ (by omega))) (.q (.assign rfl) (.nil (.rd (i + 1) ⟨rfl, rfl, rfl, trivial⟩ (fun _ h => h) (by omega) (by omega))))))
  · refine .nil (.code ?_)
    refine .ff (.exit (.thE (.thE (.inbX (.code ?_)))))
    refine .seq (.reg (.q (.assign rfl) (.nil (.code ?_))))
    refine .ret (.ret1 Try.results23 rfl fun w1 hz => ⟨rfl, hz⟩)


theorem encT_one (x : Tk) : ∀ u ∈ encT x, u.oneCell' = true := by simp [encT, Value.oneCell']
theorem os_take {α : Type} {enc : α → List Value} {e k : Nat} {v : Value} {l : List α} {i : Nat} {L : List Blk} (hi : i < l.length) (h : OS e k v ((l.take i).flatMap enc ++ enc l[i]) ((l.take i).length + 1) L) : OS e k v ((l.take (i + 1)).flatMap enc) (l.take (i + 1)).length L := by
  rw [List.take_succ_eq_append_getElem hi]
  exact OS.snoc h
theorem encM_len (x : Ms) : (encM x).length = 3 := rfl

theorem plain46_calls (w : World) (v : Value) (l : List Tk) (hl : Rd encT 3 w v l) (hn : l.length ≤ 1000000) : Calls Try.prog 56 #[v] w fun e w' => ∃ v L', e = .returned v ∧ Z w w [] L' w' ∧ OS 87 3 v (l.flatMap encT) l.length L' := by
  obtain ⟨A, c, rfl⟩ : ∃ A c, v = .slice A l.length c := by obtain ⟨A, c, h, _⟩ := hl; exact ⟨A, c, h⟩
  refine enter (args := [_]) Try.func56 rfl rfl rfl (C := Z w w [] []) (Z.start (H.nil w)) ?_
  refine .seq (.reg (.q (.assign rfl) (.nil (.code ?_))))
  refine .seq (.reg (.q (.assign rfl) (.nil (.code ?_))))
  refine .seq (.seq (.reg (.q (.move rfl) (.q (.lenS s22.t rfl) (.q (.move rfl) (.nil (.code ?_)))))))
  refine .block (.lp (fun s : Nat × Value × List Blk => [(3, s.2.1), (6, .slice A l.length c), (7, .int .i64 (l.length : Int)), (8, .int .i64 (s.1 : Int))]) (fun s => s.2.2) (fun s => s.1 ≤ l.length ∧ OS 87 3 s.2.1 ((l.take s.1).flatMap encT) (l.take s.1).length s.2.2) (fun s => l.length - s.1) (0, .slice none 0 0, []) ⟨rfl, rfl, rfl, rfl, trivial⟩ (fun _ h => h) ⟨Nat.zero_le _, OS.nil _ _⟩ fun ⟨i, v, Lx⟩ hk => ?_)
  obtain ⟨hk1, hk2⟩ := hk
  simp only at hk1 hk2
  show WC _ _ _ _ (Z w w _ Lx) _
  refine .seq (.reg (.ltS rfl rfl (fun h9 => ?_) (fun h9 => ?_)))
  · have hi : i < l.length := by omega
    obtain ⟨lb, lo, lc2, he, hlr⟩ := Rd.at hl hi
    cases he
    refine .nil (.code ?_)
    refine .seq (.tt (.skip (.code ?_)))
    refine .seq (.block (.seq (.reg (.q (.ix s22 rfl rfl (by omega)) (.q (.ldWA a62 (cs := encT l[i]) rfl rfl fun j hj => hlr j hj) (.alloc z62 fun b5 => .stA a62 0 rfl rfl rfl rfl rfl rfl (.nil (.code ?_))))))))
    refine .reg (.q (.move rfl) (.q (.ldOA a62 0 rfl rfl rfl rfl) (.bslice s30 rfl rfl rfl fun b14 => .app1 s30 (by omega) (by omega) rfl rfl hk2 (pkC (pkN _)) (by rfl) (encT_one l[i]) (by rw [List.length_take]; omega) fun v15 L15 o15 => (.q (.assign rfl) (.nil (.inbN (.code ?_)))))))
    refine .reg (.q (.add rfl rfl (IntWalk.i64_in _ (by omega))) (.q (.move rfl) (.nil (.rd (i + 1, v15, L15) ⟨rfl, rfl, rfl, rfl, trivial⟩ (fun _ h => h.sublist (List.sublist_append_left _ _)) ⟨by simp only; omega, os_take hi o15⟩ (by simp only; omega)))))
  · refine .nil (.code ?_)
    refine .seq (.ff (.exit (.thE (.thE (.inbX (.code ?_))))))
    refine .seq (.reg (.q (.move rfl) (.q (.assign rfl) (.nil (.code ?_)))))
    refine .ret (.ret1 Try.results56 rfl fun w1 hz => ⟨_, _, rfl, hz, by rw [List.take_of_length_le (by omega)] at hk2; exact hk2⟩)

theorem misses46_calls (w : World) (v : Value) (l : List Ms) (hl : Rd encM 3 w v l) (hn : l.length ≤ 1000000) : Calls Try.prog 24 #[v] w fun e w' => ∃ v L', e = .returned v ∧ Z w w [] L' w' ∧ OS 98 3 v (l.flatMap encM) l.length L' := by
  obtain ⟨A, c, rfl⟩ : ∃ A c, v = .slice A l.length c := by obtain ⟨A, c, h, _⟩ := hl; exact ⟨A, c, h⟩
  refine enter (args := [_]) Try.func24 rfl rfl rfl (C := Z w w [] []) (Z.start (H.nil w)) ?_
  refine .seq (.reg (.q (.assign rfl) (.nil (.code ?_))))
  refine .seq (.reg (.q (.assign rfl) (.nil (.code ?_))))
  refine .seq (.seq (.reg (.q (.move rfl) (.q (.lenS s46.t rfl) (.q (.move rfl) (.nil (.code ?_)))))))
  refine .block (.lp (fun s : Nat × Value × List Blk => [(3, s.2.1), (6, .slice A l.length c), (7, .int .i64 (l.length : Int)), (8, .int .i64 (s.1 : Int))]) (fun s => s.2.2) (fun s => s.1 ≤ l.length ∧ OS 98 3 s.2.1 ((l.take s.1).flatMap encM) (l.take s.1).length s.2.2) (fun s => l.length - s.1) (0, .slice none 0 0, []) ⟨rfl, rfl, rfl, rfl, trivial⟩ (fun _ h => h) ⟨Nat.zero_le _, OS.nil _ _⟩ fun ⟨i, v, Lx⟩ hk => ?_)
  obtain ⟨hk1, hk2⟩ := hk
  simp only at hk1 hk2
  show WC _ _ _ _ (Z w w _ Lx) _
  refine .seq (.reg (.ltS rfl rfl (fun h9 => ?_) (fun h9 => ?_)))
  · have hi : i < l.length := by omega
    obtain ⟨lb, lo, lc2, he, hlr⟩ := Rd.at hl hi
    cases he
    refine .nil (.code ?_)
    refine .seq (.tt (.skip (.code ?_)))
    refine .seq (.block (.seq (.reg (.q (.ix s46 rfl rfl (by omega)) (.q (.ldWA a99 (cs := encM l[i]) rfl rfl fun j hj => hlr j hj) (.alloc z99 fun b5 => .stA a99 0 rfl rfl rfl rfl rfl rfl (.nil (.code ?_))))))))
    refine .reg (.q (.move rfl) (.q (.ldOA a99 0 rfl rfl rfl rfl) (.bslice s57 rfl rfl rfl fun b14 => .app1 s57 (by omega) (by omega) rfl rfl hk2 (pkC (pkN _)) (by rfl) (encM_one l[i]) (by rw [List.length_take]; omega) fun v15 L15 o15 => (.q (.assign rfl) (.nil (.inbN (.code ?_)))))))
    refine .reg (.q (.add rfl rfl (IntWalk.i64_in _ (by omega))) (.q (.move rfl) (.nil (.rd (i + 1, v15, L15) ⟨rfl, rfl, rfl, rfl, trivial⟩ (fun _ h => h.sublist (List.sublist_append_left _ _)) ⟨by simp only; omega, os_take hi o15⟩ (by simp only; omega)))))
  · refine .nil (.code ?_)
    refine .seq (.ff (.exit (.thE (.thE (.inbX (.code ?_))))))
    refine .seq (.reg (.q (.move rfl) (.q (.assign rfl) (.nil (.code ?_)))))
    refine .ret (.ret1 Try.results24 rfl fun w1 hz => ⟨_, _, rfl, hz, by rw [List.take_of_length_le (by omega)] at hk2; exact hk2⟩)


def plV (lv : Value) (cores : Int) (rv : Value) (U : Int) : List Value := [lv, .int .i64 cores, rv, .int .i64 U]
def GreatP (l : List Tk) (rs : List (List Int)) (U : Int) : Prop := (∃ i, ∃ h : i < rs.length, 20 < rs[i].length) ∨ 8 < l.length ∨ 10 < rs.length ∨ 100 < U
noncomputable def greatP (l : List Tk) (rs : List (List Int)) (U : Int) : Bool := @decide (GreatP l rs U) (Classical.propDecidable _)
theorem great_yes {l : List Tk} {rs : List (List Int)} {U : Int} (h : GreatP l rs U) : greatP l rs U = true := by unfold greatP; exact @decide_eq_true _ (Classical.propDecidable _) h
theorem great_no {l : List Tk} {rs : List (List Int)} {U : Int} (h : ¬ GreatP l rs U) : greatP l rs U = false := by unfold greatP; exact @decide_eq_false _ (Classical.propDecidable _) h
theorem great_out {l : List Tk} {rs : List (List Int)} {U : Int} (h : greatP l rs U = false) : ¬ GreatP l rs U := by unfold greatP at h; exact @of_decide_eq_false _ (Classical.propDecidable _) h

theorem great46_calls (w : World) (lv rv : Value) (l : List Tk) (cores : Int) (rs : List (List Int)) (U : Int) (hl : Rd encT 3 w lv l) (hr : Rd2 w rv rs) : Calls Try.prog 38 #[.agg (plV lv cores rv U).toArray] w fun e w' => e = .returned (.bool (greatP l rs U)) ∧ Z w w [] [] w' := by
  obtain ⟨lA, lc, rfl⟩ : ∃ A c, lv = .slice A l.length c := by obtain ⟨A, c, h, _⟩ := hl; exact ⟨A, c, h⟩
  obtain ⟨rA, rc, rfl⟩ := hr.len
  have hbr := hr.bd
  refine enter (args := [_]) Try.func38 rfl rfl rfl (C := Z w w [] []) (Z.start (H.nil w)) ?_
  refine .seq (.reg (.box rfl fun b1 => .q (.assign rfl) (.nil (.code ?_))))
  refine .seq (.seq (.reg (.q (.fld f44_2 rfl) (.q (.ldO o42 0 rfl rfl rfl) (.q (.lenS s42.t rfl) (.q (.move rfl) (.nil (.code ?_))))))))
  refine .block (.lp (fun i : Nat => [(1, .pointer (some ⟨b1, 0, none⟩)), (6, .slice rA rs.length rc), (7, .int .i64 (rs.length : Int)), (8, .int .i64 (i : Int))]) (fun _ => [(b1, .cells (plV (.slice lA l.length lc) cores (.slice rA rs.length rc) U).toArray 44 (0, 0))]) (fun i => i ≤ rs.length ∧ ∀ j (h : j < rs.length), j < i → rs[j].length ≤ 20) (fun i => rs.length - i) 0 ⟨rfl, rfl, rfl, rfl, trivial⟩ (fun _ h => h) ⟨Nat.zero_le _, fun _ _ h => absurd h (by omega)⟩ fun i hk => ?_)
  obtain ⟨hk1, hk2⟩ := hk
  refine .seq (.reg (.ltS rfl rfl (fun h9 => ?_) (fun h9 => ?_)))
  · have hi : i < rs.length := by omega
    obtain ⟨b, off, c, A2, c3, he, hcell, hrow⟩ := Rd2.at hr hi
    cases he
    refine .nil (.code ?_)
    refine .seq (.tt (.skip (.code ?_)))
    refine .seq (.block (.seq (.reg (.q (.ix s42 rfl rfl (by omega)) (.q (.ldW o37 rfl hcell) (.q (.assign rfl) (.nil (.code ?_))))))))
    refine .seq (.reg (.q (.move rfl) (.q (.lenS s37.t rfl) (.gtS rfl rfl (fun h14 => ?_) (fun h14 => ?_)))))
    · refine .nil (.code ?_)
      refine .tt (.seq (.reg (.q (.assign rfl) (.nil (.code ?_)))))
      refine .ret (.inbR (.thR (.thR (.inbR (.thR (.ret1 Try.results38 rfl fun w1 hz => ⟨bv (by rw [great_yes (.inl ⟨i, hi, by omega⟩)]), hz.sublist (List.nil_sublist _)⟩))))))
    · refine .nil (.code ?_)
      refine .ff (.skip (.inbN (.code ?_)))
      refine .reg (.q (.add rfl rfl (IntWalk.i64_in _ (by omega))) (.q (.move rfl) (.nil (.rd (i + 1) ⟨rfl, rfl, rfl, rfl, trivial⟩ (fun _ h => h) ⟨by omega, fun j hj h => by
      rcases Nat.lt_or_ge j i with h2 | h2
      · exact hk2 j hj h2
      · obtain rfl : j = i := by omega
        omega⟩ (by omega)))))
  · refine .nil (.code ?_)
    refine .seq (.ff (.exit (.thE (.thE (.inbX (.code ?_))))))
    refine .seq (.reg (.q (.fld f44_0 rfl) (.q (.ldO o22 0 rfl rfl rfl) (.q (.lenS s22.t rfl) (.gtS rfl rfl (fun h19 => ?_) (fun h19 => ?_))))))
    · refine .q (.move rfl) (.skip (.skip (.skip (.skip (.q (.pickT rfl rfl) (.q (.move rfl) (.skip (.skip (.skip (.q (.pickT rfl rfl) (.q (.assign rfl) (.nil (.code ?_)))))))))))))
      refine .ret (.ret1 Try.results38 rfl fun w1 hz => ⟨bv (by rw [great_yes (.inr (.inl (by omega)))]), hz.sublist (List.nil_sublist _)⟩)
    · refine .q (.move rfl) (.q (.fld f44_2 rfl) (.q (.ldO o42 0 rfl rfl rfl) (.q (.lenS s42.t rfl) (.gtS rfl rfl (fun h24 => ?_) (fun h24 => ?_)))))
      · refine .q (.pickF rfl rfl) (.q (.move rfl) (.skip (.skip (.skip (.q (.pickT rfl rfl) (.q (.assign rfl) (.nil (.code ?_))))))))
        refine .ret (.ret1 Try.results38 rfl fun w1 hz => ⟨bv (by rw [great_yes (.inr (.inr (.inl (by omega))))]), hz.sublist (List.nil_sublist _)⟩)
      · refine .q (.pickF rfl rfl) (.q (.move rfl) (.q (.fld f44_3 rfl) (.q (.ldO o3 0 rfl rfl rfl) (.gtS rfl rfl (fun h29 => ?_) (fun h29 => ?_)))))
        · refine .q (.pickF rfl rfl) (.q (.assign rfl) (.nil (.code ?_)))
          refine .ret (.ret1 Try.results38 rfl fun w1 hz => ⟨bv (by rw [great_yes (.inr (.inr (.inr (by omega))))]), hz.sublist (List.nil_sublist _)⟩)
        · refine .q (.pickF rfl rfl) (.q (.assign rfl) (.nil (.code ?_)))
          refine .ret (.ret1 Try.results38 rfl fun w1 hz => ⟨bv (by rw [great_no (by rintro (⟨j, hj, h9⟩ | h9 | h9 | h9); exact absurd (hk2 j hj (by omega)) (by omega); all_goals omega)]), hz.sublist (List.nil_sublist _)⟩)

theorem valid46_calls (w : World) (lv rv : Value) (l : List Tk) (cores : Int) (rs : List (List Int)) (U : Int) (hl : Rd encT 3 w lv l) (hr : Rd2 w rv rs) (hR : inI rs) (hn : l.length ≤ 1000000) : Calls Try.prog 39 #[.agg (plV lv cores rv U).toArray] w fun e w' => e = .returned (.bool (validS l cores rs && decide (0 ≤ U))) ∧ Z w w [] [] w' := by
  obtain ⟨lA, lc, rfl⟩ : ∃ A c, lv = .slice A l.length c := by obtain ⟨A, c, h, _⟩ := hl; exact ⟨A, c, h⟩
  obtain ⟨rA, rc, rfl⟩ := hr.len
  refine enter (args := [_]) Try.func39 rfl rfl rfl (C := Z w w [] []) (Z.start (H.nil w)) ?_
  refine .seq (.reg (.box rfl fun b1 => .q (.assign rfl) (.nil (.code ?_))))
  refine .seq (.drawS (F := Z w w [] [(b1, .cells (plV (.slice lA l.length lc) cores (.slice rA rs.length rc) U).toArray 44 (0, 0))]) mix [] [] [0, 1, 3, 4, 5, 6] (.one 2 (.one 7 (.one 8 (.one 9 (.one 10 (.one 11 (.one 12 (.one 13 .nil)))))))) (by kernel_rfl) (fun _ h => h.drew) (fun _ h => h) (.toS (.q (.fld f44_0 rfl) (.q (.ldO o22 0 rfl rfl rfl) (.q (.fld f44_1 rfl) (.q (.ldO o3 0 rfl rfl rfl) (.q (.fld f44_2 rfl) (.q (.ldO o42 0 rfl rfl rfl) (.toT (.step rfl (.callA fn56 rfl (fun w hz => plain46_calls w _ l (hl.below hz.h.below) hn) fun v5 L5 p5 => .nil (.tk (fun _ h => h.sublist (List.sublist_append_right _ _)) (.step rfl (?_))))))))))))))
  refine .world ?_ (fun _ h => zperm List.perm_append_comm h)
  refine .qB (.call fn55 rfl (fun w hz => rvalid_calls w _ _ l cores rs (OS.rd encT_len p5 (by omega) hz (fun x hx => List.mem_cons_of_mem _ hx)) (hr.below hz.h.below) hR)) (fun h10 => ?_) (fun h10 => ?_)
  · refine .nil (.tk (fun _ h => h.sublist (List.sublist_append_left _ _)) (.step rfl (.q (.move rfl) (.nil (.tk (fun _ h => h.sublist (List.sublist_append_left _ _)) (.step rfl (.q (.fld f44_3 rfl) (.nil (.tk (fun _ h => h.sublist (List.sublist_append_left _ _)) (.step rfl (.q (.ldO o3 0 rfl rfl rfl) (.nil (.tk (fun _ h => h.sublist (List.sublist_append_left _ _)) (.step rfl (.q (.cmp rfl rfl rfl) (.nil (.tk (fun _ h => h.sublist (List.sublist_append_left _ _)) (.step rfl (.q (.pickT rfl rfl) (.nil (.tk (fun _ h => h.sublist (List.sublist_append_left _ _)) (.step rfl (.q (.assign rfl) (.nil (.tk (fun _ h => h.sublist (List.sublist_append_left _ _)) (.nil (.code ?_)))))))))))))))))))))))))))
    refine .ret (.ret1 Try.results39 rfl fun w1 hz => ⟨bv (by rw [h10]; simp), hz.sublist (List.nil_sublist _)⟩)
  · refine .nil (.tk (fun _ h => h.sublist (List.sublist_append_left _ _)) (.step rfl (.q (.move rfl) (.nil (.tk (fun _ h => h.sublist (List.sublist_append_left _ _)) (.step rfl (.skip (.nil (.tk (fun _ h => h.sublist (List.sublist_append_left _ _)) (.step rfl (.skip (.nil (.tk (fun _ h => h.sublist (List.sublist_append_left _ _)) (.step rfl (.skip (.nil (.tk (fun _ h => h.sublist (List.sublist_append_left _ _)) (.step rfl (.q (.pickF rfl rfl) (.nil (.tk (fun _ h => h.sublist (List.sublist_append_left _ _)) (.step rfl (.q (.assign rfl) (.nil (.tk (fun _ h => h.sublist (List.sublist_append_left _ _)) (.nil (.code ?_)))))))))))))))))))))))))))
    refine .ret (.ret1 Try.results39 rfl fun w1 hz => ⟨bv (by rw [h10]; simp), hz.sublist (List.nil_sublist _)⟩)

end Go.Proofs.Ytjccenbacjhglaa.S9
