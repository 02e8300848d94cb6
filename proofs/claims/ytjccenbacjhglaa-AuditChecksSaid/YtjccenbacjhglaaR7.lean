import Derived.Test.YtjccenbacjhglaaProg
import Derived.Test.YtjccenbacjhglaaK
import Derived.Test.YtjccenbacjhglaaM
import Derived.Test.YtjccenbacjhglaaM4
import Derived.Test.YtjccenbacjhglaaIS
import Derived.Test.YtjccenbacjhglaaM2
import Derived.Test.YtjccenbacjhglaaM5
import Derived.Test.YtjccenbacjhglaaPF
import Derived.Test.YtjccenbacjhglaaSO
import Derived.Test.YtjccenbacjhglaaAU
import Derived.Test.YtjccenbacjhglaaAU2
import Derived.Test.YtjccenbacjhglaaM3
import Derived.Test.YtjccenbacjhglaaAU3
import Derived.Test.YtjccenbacjhglaaAU4
import Derived.Test.YtjccenbacjhglaaAU5
import Derived.Test.YtjccenbacjhglaaAU6
import Derived.Test.YtjccenbacjhglaaAU7
import Derived.Test.YtjccenbacjhglaaAU8
import Derived.Test.YtjccenbacjhglaaR1
import Derived.Test.YtjccenbacjhglaaR2
import Derived.Test.YtjccenbacjhglaaR3
import Derived.Test.YtjccenbacjhglaaRI
import Derived.Test.YtjccenbacjhglaaR4
import Derived.Test.YtjccenbacjhglaaR5
import Derived.Test.YtjccenbacjhglaaR6
set_option linter.unusedVariables false
set_option linter.unusedSimpArgs false
set_option maxRecDepth 100000
set_option maxHeartbeats 4000000
namespace Go.Proofs.Ytjccenbacjhglaa.R7
open Go Go.Proofs Go.RowKit Go.Proofs.Ytjccenbacjhglaa.K Go.Proofs.Ytjccenbacjhglaa.M Go.Proofs.Ytjccenbacjhglaa.PF Go.Proofs.Ytjccenbacjhglaa.SO Go.Proofs.Ytjccenbacjhglaa.R3
theorem a35 : Ag Try.prog 35 2 := ⟨_, Try.underlying35, rfl, by kernel_rfl⟩
theorem a39 : Ag Try.prog 39 8 := ⟨_, Try.underlying39, rfl, by kernel_rfl⟩
theorem a62 : Ag Try.prog 62 3 := ⟨_, Try.underlying62, rfl, by kernel_rfl⟩
theorem eq35 : EqS Try.prog 35 [.i64, .i64] := ⟨by kernel_rfl⟩
theorem f39_0 : Fld Try.prog 39 0 0 := ⟨_, _, Try.underlying39, rfl, rfl, 0, by kernel_rfl⟩
theorem f39_1 : Fld Try.prog 39 1 1 := ⟨_, _, Try.underlying39, rfl, rfl, 0, by kernel_rfl⟩
theorem f39_2 : Fld Try.prog 39 2 2 := ⟨_, _, Try.underlying39, rfl, rfl, 0, by kernel_rfl⟩
theorem f39_3 : Fld Try.prog 39 3 3 := ⟨_, _, Try.underlying39, rfl, rfl, 0, by kernel_rfl⟩
theorem f39_4 : Fld Try.prog 39 4 4 := ⟨_, _, Try.underlying39, rfl, rfl, 0, by kernel_rfl⟩
theorem f39_5 : Fld Try.prog 39 5 5 := ⟨_, _, Try.underlying39, rfl, rfl, 0, by kernel_rfl⟩
theorem fn9 : Fnc Try.prog 9 := ⟨by kernel_rfl⟩
theorem fn10 : Fnc Try.prog 10 := ⟨by kernel_rfl⟩
theorem fn11 : Fnc Try.prog 11 := ⟨by kernel_rfl⟩
theorem fn12 : Fnc Try.prog 12 := ⟨by kernel_rfl⟩
theorem fn13 : Fnc Try.prog 13 := ⟨by kernel_rfl⟩
theorem fn14 : Fnc Try.prog 14 := ⟨by kernel_rfl⟩
theorem mix : Try.prog.follows .mixedOrders = true := by kernel_rfl
theorem o3 : One Try.prog 3 := ⟨_, Try.underlying3, rfl, by kernel_rfl⟩
theorem o5 : One Try.prog 5 := ⟨_, Try.underlying5, rfl, by kernel_rfl⟩
theorem s22 : Slc Try.prog 22 62 3 32 [.string ⟨#[]⟩, .int .i64 0, .int .i64 0] := ⟨Try.underlying22, by kernel_rfl, rfl⟩
theorem s23 : Slc Try.prog 23 39 8 64 [.int .i64 0, .int .i64 0, .int .i64 0, .int .i64 0, .int .u8 0, .int .i64 0, .int .i64 0, .int .i64 0] := ⟨Try.underlying23, by kernel_rfl, rfl⟩
theorem s26 : Slc Try.prog 26 35 2 16 [.int .i64 0, .int .i64 0] := ⟨Try.underlying26, by kernel_rfl, rfl⟩
theorem s30 : Slc Try.prog 30 87 3 32 [.string ⟨#[]⟩, .int .i64 0, .int .i64 0] := ⟨Try.underlying30, by kernel_rfl, rfl⟩
theorem s32 : Slc Try.prog 32 82 6 48 [.int .i64 0, .int .i64 0, .int .i64 0, .int .i64 0, .int .u8 0, .int .i64 0] := ⟨Try.underlying32, by kernel_rfl, rfl⟩
theorem st35 : Str Try.prog 35 [.int .i64 0, .int .i64 0] #[(0, 1), (1, 1)] := ⟨⟨by kernel_rfl⟩, _, Try.underlying35, fun w => by kernel_rfl⟩
theorem st82 : Str Try.prog 82 [.int .i64 0, .int .i64 0, .int .i64 0, .int .i64 0, .int .u8 0, .int .i64 0] #[(0, 1), (1, 1), (2, 1), (3, 1), (4, 1), (5, 1)] := ⟨⟨by kernel_rfl⟩, _, Try.underlying82, fun w => by kernel_rfl⟩
theorem z39 : Zr Try.prog 39 [.int .i64 0, .int .i64 0, .int .i64 0, .int .i64 0, .int .u8 0, .int .i64 0, .int .i64 0, .int .i64 0] := ⟨by kernel_rfl⟩
theorem z62 : Zr Try.prog 62 [.string ⟨#[]⟩, .int .i64 0, .int .i64 0] := ⟨by kernel_rfl⟩

theorem encT_one (x : Tk) : ∀ u ∈ encT x, u.oneCell' = true := by simp [encT, Value.oneCell']
theorem os_take {α : Type} {enc : α → List Value} {e k : Nat} {v : Value} {l : List α} {i : Nat} {L : List Blk} (hi : i < l.length) (h : OS e k v ((l.take i).flatMap enc ++ enc l[i]) ((l.take i).length + 1) L) : OS e k v ((l.take (i + 1)).flatMap enc) (l.take (i + 1)).length L := by
  rw [List.take_succ_eq_append_getElem hi]
  exact AU.OS.snoc h

theorem plain50_calls (w : World) (v : Value) (l : List Tk) (hl : Rd encT 3 w v l) (hn : l.length ≤ 1000000) : Calls Try.prog 13 #[v] w fun e w' => ∃ v L', e = .returned v ∧ Z w w [] L' w' ∧ OS 87 3 v ((l).flatMap encT) (l).length L' := by
  obtain ⟨A, c, rfl⟩ : ∃ A c, v = .slice A l.length c := by obtain ⟨A, c, h, _⟩ := hl; exact ⟨A, c, h⟩
  refine enter (args := [_]) Try.func13 rfl rfl rfl (C := Z w w [] []) (Z.start (H.nil w)) ?_
  refine .seq (.reg (.q (.assign rfl) (.nil (.code ?_))))
  refine .seq (.reg (.q (.assign rfl) (.nil (.code ?_))))
  refine .seq (.seq (.reg (.q (.move rfl) (.q (.lenS s22.t rfl) (.q (.move rfl) (.nil (.code ?_)))))))
  refine .block (.lp (fun s : Nat × Value × List Blk => [(3, s.2.1), (6, .slice A l.length c), (7, .int .i64 (l.length : Int)), (8, .int .i64 (s.1 : Int))]) (fun s => s.2.2) (fun s => s.1 ≤ l.length ∧ OS 87 3 s.2.1 ((l.take s.1).flatMap encT) (l.take s.1).length s.2.2) (fun s => l.length - s.1) (0, .slice none 0 0, []) ⟨rfl, rfl, rfl, rfl, trivial⟩ (fun _ h => h) ⟨Nat.zero_le _, OS.nil _ _⟩ fun ⟨i, v, Lx⟩ hk => ?_)
  obtain ⟨hk1, hk2⟩ := hk
  simp only at hk1 hk2
  show WC _ _ _ _ (Z w w _ Lx) _
  refine .seq (.reg (.ltS rfl rfl (fun h9 => ?_) (fun h9 => ?_)))
  · have hi : i < l.length := by omega
    obtain ⟨lb, lo, lc2, he, hlr⟩ := AU.Rd.at hl hi
    cases he
    refine .nil (.code ?_)
    refine .seq (.tt (.skip (.code ?_)))
    refine .seq (.block (.seq (.reg (.q (.ix s22 rfl rfl (by omega)) (.q (.ldWA a62 (cs := encT l[i]) rfl rfl fun j hj => hlr j hj) (.alloc z62 fun b5 => .stA a62 0 rfl rfl rfl rfl rfl rfl (.nil (.code ?_))))))))
    refine .reg (.q (.move rfl) (.q (.ldOA a62 0 rfl rfl rfl rfl) (.bslice s30 rfl rfl rfl fun b14 => .app1 s30 (by omega) (by omega) rfl rfl hk2 (pkC (pkN _)) (by rfl) (encT_one l[i]) (by rw [List.length_take]; omega) fun v15 L15 o15 => (.q (.assign rfl) (.nil (.inbN (.code ?_)))))))
    refine .reg (.q (.add rfl rfl (IntWalk.i64_in _ (by omega))) (.q (.move rfl) (.nil (.rd (i + 1, v15, L15) ⟨rfl, rfl, rfl, rfl, trivial⟩ (fun _ h => h.sublist (List.sublist_append_left _ _)) ⟨by simp only; omega, os_take hi o15⟩ (by simp only; omega)))))
  · refine .nil (.code ?_)
    refine .seq (.ff (.exit (.thE (.thE (.inbX (.code ?_))))))
    refine .seq (.reg (.q (.move rfl) (.q (.assign rfl) (.nil (.code ?_)))))
    refine .ret (.ret1 Try.results13 rfl fun w1 hz => ⟨_, _, rfl, hz, by rw [List.take_of_length_le (by omega)] at hk2; exact hk2⟩)

theorem bare50_calls (w : World) (v : Value) (l : List Ev) (hl : Rd encE 8 w v l) (hn : l.length ≤ 1000000) : Calls Try.prog 14 #[v] w fun e w' => ∃ v L', e = .returned v ∧ Z w w [] L' w' ∧ OS 82 6 v (((l).map bareE).flatMap encRE) ((l).map bareE).length L' := by
  obtain ⟨A, c, rfl⟩ : ∃ A c, v = .slice A l.length c := by obtain ⟨A, c, h, _⟩ := hl; exact ⟨A, c, h⟩
  refine enter (args := [_]) Try.func14 rfl rfl rfl (C := Z w w [] []) (Z.start (H.nil w)) ?_
  refine .seq (.reg (.q (.assign rfl) (.nil (.code ?_))))
  refine .seq (.reg (.q (.assign rfl) (.nil (.code ?_))))
  refine .seq (.seq (.reg (.q (.move rfl) (.q (.lenS s23.t rfl) (.q (.move rfl) (.nil (.code ?_)))))))
  refine .block (.lp (fun s : Nat × Value × List Blk => [(3, s.2.1), (6, .slice A l.length c), (7, .int .i64 (l.length : Int)), (8, .int .i64 (s.1 : Int))]) (fun s => s.2.2) (fun s => s.1 ≤ l.length ∧ OS 82 6 s.2.1 (((l.take s.1).map bareE).flatMap encRE) ((l.take s.1).map bareE).length s.2.2) (fun s => l.length - s.1) (0, .slice none 0 0, []) ⟨rfl, rfl, rfl, rfl, trivial⟩ (fun _ h => h) ⟨Nat.zero_le _, OS.nil _ _⟩ fun ⟨i, v, Lx⟩ hk => ?_)
  obtain ⟨hk1, hk2⟩ := hk
  simp only at hk1 hk2
  show WC _ _ _ _ (Z w w _ Lx) _
  refine .seq (.reg (.ltS rfl rfl (fun h9 => ?_) (fun h9 => ?_)))
  · have hi : i < l.length := by omega
    obtain ⟨lb, lo, lc2, he, hlr⟩ := AU.Rd.at hl hi
    cases he
    refine .nil (.code ?_)
    refine .seq (.tt (.skip (.code ?_)))
    refine .seq (.block (.seq (.reg (.q (.ix s23 rfl rfl (by omega)) (.q (.ldWA a39 (cs := encE l[i]) rfl rfl fun j hj => hlr j hj) (.alloc z39 fun b5 => .stA a39 0 rfl rfl rfl rfl rfl rfl (.nil (.code ?_))))))))
    refine .reg (.q (.move rfl) (.q (.fld f39_0 rfl) (.q (.ldO o3 0 rfl rfl rfl) (.q (.fld f39_1 rfl) (.q (.ldO o3 0 rfl rfl rfl) (.q (.fld f39_2 rfl) (.q (.ldO o3 0 rfl rfl rfl) (.q (.fld f39_3 rfl) (.q (.ldO o3 0 rfl rfl rfl) (.q (.fld f39_4 rfl) (.q (.ldO o5 0 rfl rfl rfl) (.q (.fld f39_5 rfl) (.q (.ldO o3 0 rfl rfl rfl) (.q (.build st82 rfl rfl) (.bslice s32 rfl rfl rfl fun b26 => .app1 s32 (by omega) (by omega) rfl rfl hk2 (pkC (pkN _)) (by rfl) (encRE_one (bareE l[i])) (by rw [List.length_map, List.length_take]; omega) fun v27 L27 o27 => (.q (.assign rfl) (.nil (.inbN (.code ?_)))))))))))))))))))
    refine .reg (.q (.add rfl rfl (IntWalk.i64_in _ (by omega))) (.q (.move rfl) (.nil (.rd (i + 1, v27, L27) ⟨rfl, rfl, rfl, rfl, trivial⟩ (fun _ h => h.sublist (List.sublist_append_left _ _)) ⟨by simp only; omega, by simp only; rw [List.take_succ_eq_append_getElem hi, List.map_append, List.map_singleton]; exact AU.OS.snoc o27⟩ (by simp only; omega)))))
  · refine .nil (.code ?_)
    refine .seq (.ff (.exit (.thE (.thE (.inbX (.code ?_))))))
    refine .seq (.reg (.q (.move rfl) (.q (.assign rfl) (.nil (.code ?_)))))
    refine .ret (.ret1 Try.results14 rfl fun w1 hz => ⟨_, _, rfl, hz, by rw [List.take_of_length_le (by omega)] at hk2; exact hk2⟩)

theorem auditChecks_calls (w : World) (lv tv : Value) (l : List Tk) (cores : Int) (tr : List Ev) (hl : Rd encT 3 w lv l) (ht : Rd encE 8 w tv tr) : Calls Try.prog 3 #[lv, .int .i64 cores, tv] w fun r w' => r = .returned (.bool true) ∧ Below w.heap.size w w' := by
  refine enter (args := [_, _, _]) Try.func3 rfl rfl rfl (C := Z w w [] []) (Z.start (H.nil w)) ?_
  refine .seq (.reg (.q (.assign rfl) (.nil (.code ?_))))
  refine .seq (.seq (.reg (.q (.call fn9 rfl (fun w hz => AU8.awake50_calls w)) (.q (.notB rfl) (.nil (.code ?_))))))
  refine .ff (.skip (.code ?_))
  refine .seq (.seq (.reg (.q (.move rfl) (.q (.move rfl) (.q (.call fn10 rfl (fun w hz => AU8.great_calls w _ _ l tr (hl.below hz.h.below) (ht.below hz.h.below))) (.nil (.code ?_)))))))
  refine .condP (fun h15 => ?_) (fun h15 => ?_)
  · refine .seq (.reg (.q (.assign rfl) (.nil (.code ?_))))
    refine .ret (.thR (.ret1 Try.results3 rfl fun w1 hz => ⟨rfl, hz.h.below⟩))
  · have hl8 : l.length ≤ 8 := by omega
    have ht2 : tr.length ≤ 200 := by omega
    refine .skip (.code ?_)
    refine .seq (.reg (.q (.move rfl) (.q (.move rfl) (.q (.move rfl) (.callA fn11 rfl (fun w hz => AU7.check_calls w _ _ l cores tr (hl.below hz.h.below) (ht.below hz.h.below) (by omega) (by omega)) fun v19 L19 p19 => ?_)))))
    rw [EQ.check_eq (by omega) (by omega) (fun hv h1 h4 => AU7.newA_I hv (by omega) h1 h4)] at p19
    refine .q (.assign rfl) (.nil (.code ?_))
    refine .seq (.reg (.q (.move rfl) (.callA fn13 rfl (fun w hz => plain50_calls w _ l (hl.below hz.h.below) (by omega)) fun v22 L22 p22 => .q (.move rfl) (.q (.move rfl) (.callA fn14 rfl (fun w hz => bare50_calls w _ tr (ht.below hz.h.below) (by omega)) fun v25 L25 p25 => .q (.call fn12 rfl (fun w hz => R6.rcheck_calls w _ _ l cores (tr.map bareE) (OS.rd encT_len p22 (by omega) hz (fun x hx => List.mem_append_right _ (List.mem_append_left _ hx))) (OS.rd encRE_len p25 (by rw [List.length_map]; omega) hz (fun x hx => List.mem_append_left _ hx)) (by omega) (by rw [List.length_map]; omega))) (.q (.move rfl) (?_)))))))
    rcases hrc : rCheck l cores (tr.map bareE) with _ | x
    · rw [hrc] at p19
      obtain rfl := p19
      refine .q (.ext rfl rfl) (.q (.ext rfl rfl) (.q (.ext rfl rfl) (.q (.assign rfl) (.q (.assign rfl) (.q (.assign rfl) (.nil (.code ?_)))))))
      refine .seq (.seq (.reg (.q (.move rfl) (.q (.notB rfl) (.nil (.code ?_))))))
      refine .tt (.seq (.reg (.q (.move rfl) (.q (.lenS s26.t rfl) (.q (.cmp rfl rfl (eqT (rfl))) (.q (.assign rfl) (.nil (.code ?_))))))))
      refine .ret (.thR (.ret1 Try.results3 rfl fun w1 hz => ⟨rfl, hz.h.below⟩))
    · rw [hrc] at p19
      obtain ⟨fb, fc, hfe, hfr⟩ := AU.OS.read (enc := AU8.encF) (k := 2) (xs := [x]) (i := 0) (fun _ => rfl) p19 (by simp)
      subst hfe
      refine .q (.ext rfl rfl) (.q (.ext rfl rfl) (.q (.ext rfl rfl) (.q (.assign rfl) (.q (.assign rfl) (.q (.assign rfl) (.nil (.code ?_)))))))
      refine .seq (.seq (.reg (.q (.move rfl) (.q (.notB rfl) (.nil (.code ?_))))))
      refine .ff (.skip (.code ?_))
      refine .seq (.reg (.q (.move rfl) (.q (.lenS s26.t rfl) (.q (.cmp rfl rfl (eqT (rfl))) (.q (.move rfl) (.q (.move rfl) (.q (.ix (j := 0) s26 rfl rfl (by simp)) (.q (.ldA a35 (cs := AU8.encF x) rfl rfl (fun w1 hz q hq => hfr _ _ w1 _ _ hz (fun x hx => List.mem_append_right _ (List.mem_append_right _ (List.mem_append_left _ hx))) q hq)) (.q (.move rfl) (.q (.move rfl) (.q (.build st35 rfl rfl) (.q (.eqS (b := true) eq35 (us := [x.1, x.2]) (vs := [x.1, x.2]) rfl rfl rfl rfl (by simp)) (.q (.pickT rfl rfl) (.q (.assign rfl) (.nil (.code ?_))))))))))))))))
      refine .ret (.ret1 Try.results3 rfl fun w1 hz => ⟨rfl, hz.h.below⟩)

end Go.Proofs.Ytjccenbacjhglaa.R7
