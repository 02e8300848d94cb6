import Derived.Test.YtjccenbacjhglaaProg
import Derived.Test.YtjccenbacjhglaaK
import Derived.Test.YtjccenbacjhglaaM
import Derived.Test.YtjccenbacjhglaaIS
import Derived.Test.YtjccenbacjhglaaM2
import Derived.Test.YtjccenbacjhglaaMS
import Derived.Test.YtjccenbacjhglaaPF
import Derived.Test.YtjccenbacjhglaaSO
import Derived.Test.YtjccenbacjhglaaAU
import Derived.Test.YtjccenbacjhglaaR1
import Derived.Test.YtjccenbacjhglaaR2
import Derived.Test.YtjccenbacjhglaaR3
import Derived.Test.YtjccenbacjhglaaS1
import Derived.Test.YtjccenbacjhglaaS2
import Derived.Test.YtjccenbacjhglaaS3
import Derived.Test.YtjccenbacjhglaaS4
set_option linter.unusedVariables false
set_option linter.unusedSimpArgs false
set_option maxRecDepth 100000
set_option maxHeartbeats 4000000
namespace Go.Proofs.Ytjccenbacjhglaa.S5
open Go Go.Proofs Go.RowKit Go.Proofs.Ytjccenbacjhglaa.K Go.Proofs.Ytjccenbacjhglaa.M Go.Proofs.Ytjccenbacjhglaa.PF Go.Proofs.Ytjccenbacjhglaa.SO Go.Proofs.Ytjccenbacjhglaa.AU Go.Proofs.Ytjccenbacjhglaa.R1 Go.Proofs.Ytjccenbacjhglaa.R2 Go.Proofs.Ytjccenbacjhglaa.R3 Go.Proofs.Ytjccenbacjhglaa.S1 Go.Proofs.Ytjccenbacjhglaa.S2 Go.Proofs.Ytjccenbacjhglaa.S3 Go.Proofs.Ytjccenbacjhglaa.S4
theorem a62 : Ag Try.prog 62 3 := ⟨_, Try.underlying62, rfl, by kernel_rfl⟩
theorem a64 : Ag Try.prog 64 3 := ⟨_, Try.underlying64, rfl, by kernel_rfl⟩
theorem a144 : Ag Try.prog 144 6 := ⟨_, Try.underlying144, rfl, by kernel_rfl⟩
theorem f64_1 : Fld Try.prog 64 1 1 := ⟨_, _, Try.underlying64, rfl, rfl, 0, by kernel_rfl⟩
theorem f96_0 : Fld Try.prog 96 0 0 := ⟨_, _, Try.underlying96, rfl, rfl, 0, by kernel_rfl⟩
theorem f96_1 : Fld Try.prog 96 1 1 := ⟨_, _, Try.underlying96, rfl, rfl, 0, by kernel_rfl⟩
theorem f96_2 : Fld Try.prog 96 2 2 := ⟨_, _, Try.underlying96, rfl, rfl, 0, by kernel_rfl⟩
theorem f96_3 : Fld Try.prog 96 3 3 := ⟨_, _, Try.underlying96, rfl, rfl, 0, by kernel_rfl⟩
theorem f144_0 : Fld Try.prog 144 0 0 := ⟨_, _, Try.underlying144, rfl, rfl, 0, by kernel_rfl⟩
theorem f144_2 : Fld Try.prog 144 2 4 := ⟨_, _, Try.underlying144, rfl, rfl, 0, by kernel_rfl⟩
theorem f144_3 : Fld Try.prog 144 3 5 := ⟨_, _, Try.underlying144, rfl, rfl, 0, by kernel_rfl⟩
theorem fn26 : Fnc Try.prog 26 := ⟨by kernel_rfl⟩
theorem fn60 : Fnc Try.prog 60 := ⟨by kernel_rfl⟩
theorem fn76 : Fnc Try.prog 76 := ⟨by kernel_rfl⟩
theorem fn77 : Fnc Try.prog 77 := ⟨by kernel_rfl⟩
theorem fn78 : Fnc Try.prog 78 := ⟨by kernel_rfl⟩
theorem fn79 : Fnc Try.prog 79 := ⟨by kernel_rfl⟩
theorem mix : Try.prog.follows .mixedOrders = true := by kernel_rfl
theorem o3 : One Try.prog 3 := ⟨_, Try.underlying3, rfl, by kernel_rfl⟩
theorem o22 : One Try.prog 22 := ⟨_, Try.underlying22, rfl, by kernel_rfl⟩
theorem o37 : One Try.prog 37 := ⟨_, Try.underlying37, rfl, by kernel_rfl⟩
theorem o42 : One Try.prog 42 := ⟨_, Try.underlying42, rfl, by kernel_rfl⟩
theorem s22 : Slc Try.prog 22 62 3 32 [.string ⟨#[]⟩, .int .i64 0, .int .i64 0] := ⟨Try.underlying22, by kernel_rfl, rfl⟩
theorem s37 : Slc Try.prog 37 3 1 8 [.int .i64 0] := ⟨Try.underlying37, by kernel_rfl, rfl⟩
theorem s42 : Slc Try.prog 42 37 1 24 [.slice none 0 0] := ⟨Try.underlying42, by kernel_rfl, rfl⟩
theorem s142 : Slc Try.prog 142 144 6 56 [.int .i64 0, .string ⟨#[]⟩, .int .i64 0, .int .i64 0, .int .i64 0, .int .i64 0] := ⟨Try.underlying142, by kernel_rfl, rfl⟩
theorem st144 : Str Try.prog 144 [.int .i64 0, .string ⟨#[]⟩, .int .i64 0, .int .i64 0, .int .i64 0, .int .i64 0] #[(0, 1), (1, 3), (4, 1), (5, 1)] := ⟨⟨by kernel_rfl⟩, _, Try.underlying144, fun w => by kernel_rfl⟩
theorem z62 : Zr Try.prog 62 [.string ⟨#[]⟩, .int .i64 0, .int .i64 0] := ⟨by kernel_rfl⟩
theorem z64 : Zr Try.prog 64 [.int .i64 0, .int .i64 0, .int .i64 0] := ⟨by kernel_rfl⟩
theorem z144 : Zr Try.prog 144 [.int .i64 0, .string ⟨#[]⟩, .int .i64 0, .int .i64 0, .int .i64 0, .int .i64 0] := ⟨by kernel_rfl⟩
theorem chooseLess_calls (x y : Cd) (hx : 0 ≤ x.r ∧ x.r ≤ 1000000) (hy : 0 ≤ y.r ∧ y.r ≤ 1000000) (w : World) : Calls Try.prog 77 (([] : List Value) ++ [Value.agg (encC x).toArray, Value.agg (encC y).toArray] ++ []).toArray w fun e w' => e = .returned (.int .i64 (cmpC x y)) ∧ Z w w [] [] w' := by
  refine enter (args := [_, _]) Try.func77 rfl rfl rfl (C := Z w w [] []) (Z.start (H.nil w)) ?_
  refine .seq (.reg (.box rfl fun b2 => .box rfl fun b3 => .q (.assign rfl) (.nil (.code ?_))))
  refine .seq (.seq (.reg (.q (.ldOA a144 1 rfl rfl rfl rfl) (.q (.ldOA a144 0 rfl rfl rfl rfl) (.q (.call fn78 rfl (fun w hz => before_calls w x y (by omega) (by omega))) (.nil (.code ?_)))))))
  refine .cond (fun h7 => ?_) (fun h7 => ?_)
  · refine .seq (.reg (.q (.assign rfl) (.nil (.code ?_))))
    refine .ret (.thR (.ret1 Try.results77 rfl fun w1 hz => ⟨by rw [cmpC, if_pos h7], hz.sublist (List.nil_sublist _)⟩))
  · refine .skip (.code ?_)
    refine .seq (.reg (.q (.assign rfl) (.nil (.code ?_))))
    refine .ret (.ret1 Try.results77 rfl fun w1 hz => ⟨by rw [cmpC, if_neg (by simp [h7])], hz.sublist (List.nil_sublist _)⟩)


theorem pend_true {l : List Tk} {rs : List (List Int)} {s : Rn} {i : Nat} {slot : Int} (hi : i < rs.length) (hil : i < l.length) (h : pendS l rs s i slot = true) : ∃ hk : jobAt s i < rs[i].length, rs[i][jobAt s i] ≤ slot ∧ doneAt s i < l[i].c := by
  rcases Nat.lt_or_ge (jobAt s i) rs[i].length with hk | hk
  · refine ⟨hk, ?_⟩
    unfold pendS at h
    rw [List.getElem?_eq_getElem hil, relAt_some hi hk] at h
    simpa using h
  · unfold pendS at h
    rw [relAt_none hi hk] at h
    simp at h
theorem candS_no {l : List Tk} {rs : List (List Int)} {s : Rn} {i : Nat} {slot : Int} (h : pendS l rs s i slot = false) : candS l rs slot s i = none := by
  unfold candS
  split
  · rw [if_neg (by rw [h]; exact fun e => absurd e.1 (by decide))]
  · rfl
theorem candS_if {l : List Tk} {rs : List (List Int)} {s : Rn} {i : Nat} {slot : Int} (hi : i < rs.length) (hil : i < l.length) (hk : jobAt s i < rs[i].length) (h : pendS l rs s i slot = true) : candS l rs slot s i = if winE l[i] (doneAt s i + 1) = 0 ∧ rs[i][jobAt s i] + (window l[i] (doneAt s i + 1)).r ≤ slot then some ⟨(i : Int), l[i], rs[i][jobAt s i], doneAt s i + 1⟩ else none := by
  unfold candS
  rw [List.getElem?_eq_getElem hil, relAt_some hi hk, h]
  simp
theorem candS_r {l : List Tk} {rs : List (List Int)} {s : Rn} {K N : Nat} {slot : Int} (hI : RnI l rs s K N) (hs : slot ≤ 1000000) {n : Nat} {x : Cd} (hx : x ∈ upTo (candS l rs slot s) n) : 0 ≤ x.r ∧ x.r ≤ 1000000 := by
  obtain ⟨i, _, hf⟩ := mem_upTo.1 hx
  unfold candS at hf
  split at hf
  · rename_i t r h1 h2
    split at hf
    · rename_i hc
      obtain rfl := Option.some.inj hf
      have hil := (List.getElem?_eq_some_iff.1 h1).1
      have hi : i < rs.length := by rw [hI.len]; exact hil
      obtain ⟨hk, e1, e2⟩ := pend_true hi hil hc.1
      rw [relAt_some hi hk] at h2
      obtain rfl := Option.some.inj h2
      have := hI.rel0 i hi _ hk
      exact ⟨this, by show rs[i][jobAt s i] ≤ _; omega⟩
    · cases hf
  · cases hf
theorem encC_len (x : Cd) : (encC x).length = 6 := rfl

theorem choose_calls (w : World) (R J D : Nat) (lv rv mv : Value) (l : List Tk) (rs : List (List Int)) (s : Rn) (K N : Nat) (hW : RnW w R J D lv rv mv l.length s) (hl : Rd encT 3 w lv l) (hr : Rd2 w rv rs) (hI : RnI l rs s K N) (h12 : l.length ≤ 12) (slot cores : Int) (hs0 : 0 ≤ slot) (hs1 : slot ≤ 1000000) (hc0 : 1 ≤ cores) (hc1 : cores ≤ 8) : Calls Try.prog 54 #[.pointer (some ⟨R, 0, none⟩), .int .i64 slot, .int .i64 cores] w fun e w' => ∃ v L', e = .returned v ∧ Z w w [] L' w' ∧ OS 3 1 v ((chooseS l rs slot cores s).flatMap eI) (chooseS l rs slot cores s).length L' := by
  obtain ⟨lA, lc, rfl⟩ : ∃ A c, lv = .slice A l.length c := by obtain ⟨A, c, h, _⟩ := hl; exact ⟨A, c, h⟩
  obtain ⟨rA, rc, rfl⟩ := hr.len
  have hlen := hI.len
  refine enter (args := [_, _, _]) Try.func54 rfl rfl rfl (C := Z w w [] []) (Z.start (H.nil w)) ?_
  refine .seq (.reg (.q (.assign rfl) (.nil (.code ?_))))
  refine .seq (.reg (.q (.assign rfl) (.nil (.code ?_))))
  refine .seq (.seq (.reg (.q (.move rfl) (.q (.nilP rfl) (.q (.fld f96_0 rfl) (.q (.ldW o22 rfl (cellOf hW.hR rfl)) (.q (.lenS s22.t rfl) (.q (.move rfl) (.nil (.code ?_))))))))))
  refine .block (.lp (fun z : Nat × Value × List Blk => [(0, .pointer (some ⟨R, 0, none⟩)), (1, .int .i64 slot), (2, .int .i64 cores), (7, z.2.1), (19, .slice lA l.length lc), (20, .int .i64 (l.length : Int)), (21, .int .i64 (z.1 : Int))]) (fun z => z.2.2) (fun z => z.1 ≤ l.length ∧ OS 144 6 z.2.1 ((upTo (candS l rs slot s) z.1).flatMap encC) (upTo (candS l rs slot s) z.1).length z.2.2) (fun z => l.length - z.1) (0, .slice none 0 0, []) ⟨rfl, rfl, rfl, rfl, rfl, rfl, rfl, trivial⟩ (fun _ h => h) ⟨Nat.zero_le _, OS.nil _ _⟩ fun ⟨i, v, Lx⟩ hk => ?_)
  obtain ⟨hk1, hk2⟩ := hk
  simp only at hk1 hk2
  have hul := upTo_len (candS l rs slot s) i
  show WC _ _ _ _ (Z w w _ Lx) _
  refine .seq (.reg (.ltS rfl rfl (fun h22 => ?_) (fun h22 => ?_)))
  · have hi : i < rs.length := by omega
    have hij : i < s.job.length := by rw [hI.nj]; omega
    have hil : i < l.length := by omega
    obtain ⟨b, off, c, A2, c3, he, hcell, hrow⟩ := Rd2.at hr hi
    cases he
    obtain ⟨lb, lo, lc2, hle, hlc⟩ := Rd.at hl hil
    cases hle
    have hrb := Rd.len_bd hrow
    have hjb := hI.job i hi
    obtain ⟨k1, k2, k3⟩ := okT_bd (hI.tk hil)
    have hid : i < s.done.length := by rw [hI.nd]; omega
    have hdb := hI.done i
    have hkm := hI.k1
    have hwd := window_bd l[i] (doneAt s i + 1)
    refine .nil (.code ?_)
    refine .seq (.tt (.skip (.code ?_)))
    refine .seq (.block (.seq (.reg (.q (.move rfl) (.q (.ix s22 rfl rfl (by omega)) (.q (.ldWA a62 (cs := encT l[i]) rfl rfl fun j hj => hlc j hj) (.alloc z62 fun b9 => .q (.assign rfl) (.stA a62 0 rfl rfl rfl rfl rfl rfl (.nil (.code ?_))))))))))
    refine .seq (.seq (.reg (.q (.move rfl) (.q (.move rfl) (.q (.move rfl) (.qB (.call fn60 rfl (fun w hz => pending_calls w R J D _ _ mv l rs s K N (hW.up hz) (hl.below hz.h.below) (hr.below hz.h.below) hI i hil slot)) (fun h29 => ?_) (fun h29 => ?_)))))))
    · obtain ⟨hk, hpr, hpd⟩ := pend_true hi hil h29
      obtain ⟨xb, xo, xc, hxe, hx0⟩ := Rd.at hrow hk
      cases hxe
      have hrel := hI.rel0 i hi _ hk
      have hif := candS_if hi hil hk h29
      refine .q (.notB rfl) (.nil (.code ?_))
      refine .ff (.skip (.code ?_))
      refine .seq (.drawS (F := Z w w [] [(b9, .cells (encT l[i]).toArray 62 (0, 0))]) mix [] [] [0, 1, 2, 3, 4, 5, 6, 7, 8, 9, 10, 11, 12, 13, 14, 15, 16, 17, 18, 19, 20, 21, 22, 23, 24, 25, 26] (.one 27 (.one 28 .nil)) (by kernel_rfl) (fun _ h => h.drew) (fun _ h => h.sublist (.cons_cons _ (List.nil_sublist _))) (.toS (.q (.move rfl) (.q (.ldOA a62 0 rfl rfl rfl rfl) (.q (.move rfl) (.q (.nilP rfl) (.q (.fld f96_1 rfl) (.q (.ldW o42 rfl (cellOf hW.hR rfl)) (.q (.move rfl) (.q (.ix s42 rfl rfl (by omega)) (.q (.ldW o37 rfl hcell) (.q (.move rfl) (.q (.nilP rfl) (.q (.fld f96_2 rfl) (.q (.ldW o37 rfl (cellOf hW.hR rfl)) (.q (.move rfl) (.q (.ix s37 rfl rfl (by omega)) (.q (.ldW (v := .int .i64 ((jobAt s i : Nat) : Int)) o3 rfl (cellOf hW.hJ (jobV hij))) (.q (.ix s37 rfl rfl (by omega)) (.q (.ldW (v := .int .i64 rs[i][jobAt s i]) o3 rfl (by have := hx0 0 (by omega); exact this)) (.q (.move rfl) (.q (.nilP rfl) (.q (.fld f96_3 rfl) (.q (.ldW o37 rfl (cellOf hW.hR rfl)) (.q (.move rfl) (.q (.ix s37 rfl rfl (by omega)) (.q (.ldW (v := .int .i64 (doneAt s i)) o3 rfl (cellOf hW.hD (doneV hid))) (.q (.add rfl rfl (IntWalk.i64_in _ (by omega))) (.q (.build st144 rfl rfl) (.toT (.step rfl (.alloc z144 fun b10 => .nil (.tk (fun _ h => h.sublist (.cons _ (.cons_cons _ (List.nil_sublist _)))) (.step rfl (.stA a144 0 rfl rfl rfl rfl rfl rfl (.nil (.tk (fun _ h => h.sublist (.cons _ (.cons_cons _ (List.nil_sublist _)))) (.nil (.code ?_)))))))))))))))))))))))))))))))))))))))
      refine .seq (.reg (.q (.ldOA a62 1 rfl rfl rfl rfl) (.q (.fld f144_3 rfl) (.q (.ldO o3 0 rfl rfl rfl) (.q (.call fn26 rfl (fun w hz => window_calls w _ _)) (.q (.move rfl) (.q (.ext rfl rfl) (.q (.ext rfl rfl) (.alloc z64 fun b11 => .stA a64 0 rfl rfl rfl rfl rfl rfl (.q (.assign rfl) (.nil (.code ?_))))))))))))
      refine .seq (.reg (.q (.move rfl) (.eqS rfl rfl (fun h66 => ?_) (fun h66 => ?_))))
      · refine .q (.move rfl) (.q (.fld f144_2 rfl) (.q (.ldO o3 1 rfl rfl rfl) (.q (.fld f64_1 rfl) (.q (.ldO o3 0 rfl rfl rfl) (.q (.add rfl rfl (IntWalk.i64_in _ (by omega))) (.q (.move rfl) (.leS rfl rfl (fun h74 => ?_) (fun h74 => ?_))))))))
        · have hx : candS l rs slot s i = some ⟨(i : Int), l[i], rs[i][jobAt s i], doneAt s i + 1⟩ := hif.trans (if_pos ⟨h66, h74⟩)
          refine .q (.pickT rfl rfl) (.nil (.code ?_))
          refine .tt (.reg (.q (.move rfl) (.q (.ldOA a144 1 rfl rfl rfl rfl) (.bslice s142 rfl rfl rfl fun b78 => .app1 s142 (by omega) (by omega) rfl rfl hk2 (pkC (pkC (pkC (pkN _)))) (by rfl) (encC_one ⟨(i : Int), l[i], rs[i][jobAt s i], doneAt s i + 1⟩) (by omega) fun v79 L79 o79 => (.q (.assign rfl) (.nil (.inbN (.code ?_))))))))
          refine .reg (.q (.add rfl rfl (IntWalk.i64_in _ (by omega))) (.q (.move rfl) (.nil (.rd (i + 1, v79, L79) ⟨rfl, rfl, rfl, rfl, rfl, rfl, rfl, trivial⟩ (fun _ h => h.sublist (List.sublist_append_left _ _)) ⟨by simp only; omega, by rw [show upTo (candS l rs slot s) (i + 1) = upTo (candS l rs slot s) i ++ [_] from upTo_yes hx]; exact OS.snoc o79⟩ (by simp only; omega)))))
        · have hx : candS l rs slot s i = none := hif.trans (if_neg fun e => by have := e.2; omega)
          refine .q (.pickT rfl rfl) (.nil (.code ?_))
          refine .ff (.skip (.inbN (.code ?_)))
          refine .reg (.q (.add rfl rfl (IntWalk.i64_in _ (by omega))) (.q (.move rfl) (.nil (.rd (i + 1, v, Lx) ⟨rfl, rfl, rfl, rfl, rfl, rfl, rfl, trivial⟩ (fun _ h => drp (drp (drp h))) ⟨by simp only; omega, by rw [show upTo (candS l rs slot s) (i + 1) = upTo (candS l rs slot s) i from upTo_no hx]; exact hk2⟩ (by simp only; omega)))))
      · have hx : candS l rs slot s i = none := hif.trans (if_neg fun e => h66 e.1)
        refine .q (.move rfl) (.skip (.skip (.skip (.skip (.skip (.skip (.skip (.q (.pickF rfl rfl) (.nil (.code ?_))))))))))
        refine .ff (.skip (.inbN (.code ?_)))
        refine .reg (.q (.add rfl rfl (IntWalk.i64_in _ (by omega))) (.q (.move rfl) (.nil (.rd (i + 1, v, Lx) ⟨rfl, rfl, rfl, rfl, rfl, rfl, rfl, trivial⟩ (fun _ h => drp (drp (drp h))) ⟨by simp only; omega, by rw [show upTo (candS l rs slot s) (i + 1) = upTo (candS l rs slot s) i from upTo_no hx]; exact hk2⟩ (by simp only; omega)))))
    · have hx : candS l rs slot s i = none := candS_no h29
      refine .q (.notB rfl) (.nil (.code ?_))
      refine .tt (.exit (.thE (.inbX (.code ?_))))
      refine .reg (.q (.add rfl rfl (IntWalk.i64_in _ (by omega))) (.q (.move rfl) (.nil (.rd (i + 1, v, Lx) ⟨rfl, rfl, rfl, rfl, rfl, rfl, rfl, trivial⟩ (fun _ h => drp h) ⟨by simp only; omega, by rw [show upTo (candS l rs slot s) (i + 1) = upTo (candS l rs slot s) i from upTo_no hx]; exact hk2⟩ (by simp only; omega)))))
  · have hiX : i = l.length := by omega
    have hok : ∀ x ∈ upTo (candS l rs slot s) i, 0 ≤ x.r ∧ x.r ≤ 1000000 := fun x hx => candS_r hI hs1 hx
    refine .nil (.code ?_)
    refine .seq (.ff (.exit (.thE (.thE (.inbX (.code ?_))))))
    refine .seq (.reg (.q (.move rfl) (.callM (Lm := Lx) (Lr := []) (Post := fun _ L' => OS 144 6 v ((isort (fun x y => decide (cmpC x y < 0)) (upTo (candS l rs slot s) i)).flatMap encC) (upTo (candS l rs slot s) i).length L') fn76 rfl (pkN _) (fun w hH => sortCd_calls _ w 77 [] fn77 cmpC (fun x => 0 ≤ x.r ∧ x.r ≤ 1000000) (fun x y hx hy w => chooseLess_calls x y hx hy w) encC_len _ hok (by omega) v Lx hk2 hH) fun v82 L82 p82 => (.nil (.code ?_)))))
    refine .seq (.reg (.q (.assign rfl) (.nil (.code ?_))))
    refine .seq (.seq (.reg (?_)))
    have hil2 := isort_len (fun x y => decide (cmpC x y < 0)) (upTo (candS l rs slot s) i)
    rw [← hil2] at p82
    obtain ⟨A1, c1, rfl, hm1, hcut⟩ := OS.cut (m := min (upTo (candS l rs slot s) i).length cores.toNat) encC_len p82 (by rw [hil2]; omega)
    obtain ⟨top, htop⟩ : ∃ x, x = topS l rs slot cores s := ⟨_, rfl⟩
    have htop2 : (isort (fun x y => decide (cmpC x y < 0)) (upTo (candS l rs slot s) i)).take (min (upTo (candS l rs slot s) i).length cores.toNat) = top := by rw [htop, topS, ← hiX, List.take_eq_take_min (i := cores.toNat), hil2, Nat.min_comm]
    have htl : min (upTo (candS l rs slot s) i).length cores.toNat = top.length := by rw [← htop2, List.length_take, hil2]; omega
    rw [htop2] at hcut
    rw [hil2]
    rw [htl] at hcut hm1
    refine .q (.move rfl) (.q (.move rfl) (.q (.move rfl) (.q (.lenS s142.t rfl) (.q (.minI (r := ((top.length : Nat) : Int)) rfl rfl (by omega)) (.q (.slHi s142 rfl rfl hm1) (.q (.lenS s142.t rfl) (.q (.move rfl) (.nil (.code ?_)))))))))
    refine .block (.lp (fun z : Nat × Value × List Blk => [(13, z.2.1), (88, .slice A1 top.length c1), (89, .int .i64 (top.length : Int)), (90, .int .i64 (z.1 : Int))]) (fun z => z.2.2 ++ L82) (fun z => z.1 ≤ top.length ∧ OS 3 1 z.2.1 (((top.take z.1).map (·.n)).flatMap eI) ((top.take z.1).map (·.n)).length z.2.2) (fun z => top.length - z.1) (0, .slice none 0 0, []) ⟨rfl, rfl, rfl, rfl, trivial⟩ (fun _ h => by rw [List.append_nil] at h; exact h) ⟨Nat.zero_le _, OS.nil _ _⟩ fun ⟨q, v2, Lo⟩ hq => ?_)
    obtain ⟨hq1, hq2⟩ := hq
    simp only at hq1 hq2
    show WC _ _ _ _ (Z w w _ (Lo ++ L82)) _
    refine .seq (.reg (.ltS rfl rfl (fun h91 => ?_) (fun h91 => ?_)))
    · have hqt : q < top.length := by omega
      obtain ⟨cb, cc2, hce, hcr⟩ := OS.read encC_len hcut hqt
      cases hce
      refine .nil (.code ?_)
      refine .seq (.tt (.skip (.code ?_)))
      refine .seq (.block (.seq (.reg (.q (.ix s142 rfl rfl (by omega)) (.q (.ldA (cs := encC top[q]) a144 rfl rfl (fun w1 hz j hj => hcr _ _ w1 _ _ hz (fun x hx => List.mem_append_right _ hx) j hj)) (.alloc z144 fun b15 => .stA a144 0 rfl rfl rfl rfl rfl rfl (.nil (.code ?_))))))))
      refine .reg (.q (.move rfl) (.q (.fld f144_0 rfl) (.q (.ldO o3 0 rfl rfl rfl) (.bslice s37 rfl rfl rfl fun b97 => .app1 s37 (by omega) (by omega) rfl rfl hq2 (pkC (.refl _)) (by rfl) (show ∀ u ∈ [Value.int .i64 top[q].n], u.oneCell' = true by simp [Value.oneCell']) (by rw [List.length_map, List.length_take]; omega) fun v98 L98 o98 => (.q (.assign rfl) (.nil (.inbN (.code ?_))))))))
      refine .reg (.q (.add rfl rfl (IntWalk.i64_in _ (by omega))) (.q (.move rfl) (.nil (.rd (q + 1, v98, L98) ⟨rfl, rfl, rfl, rfl, trivial⟩ (fun _ h => h.sublist (List.Sublist.append (List.Sublist.refl _) (List.sublist_cons_self _ _))) ⟨by simp only; omega, by simp only; rw [List.take_succ_eq_append_getElem hqt, List.map_append, List.map_singleton]; exact OS.snoc o98⟩ (by simp only; omega)))))
    · have htk : top.take q = top := List.take_of_length_le (by omega)
      rw [htk] at hq2
      refine .nil (.code ?_)
      refine .seq (.ff (.exit (.thE (.thE (.inbX (.code ?_))))))
      refine .seq (.reg (.q (.move rfl) (.callM (Lm := Lo) (Lr := L82) (Post := fun _ L' => OS 3 1 v2 ((isort ltI (top.map (·.n))).flatMap eI) (top.map (·.n)).length L') fn79 rfl (.refl _) (fun w1 hH => sortI_calls w w1 (top.map (·.n)) (by rw [List.length_map]; omega) v2 Lo hq2 hH) fun v101 L101 p101 => (.nil (.code ?_)))))
      refine .seq (.reg (.q (.move rfl) (.q (.assign rfl) (.nil (.code ?_)))))
      refine .ret (.ret1 Try.results54 rfl fun w1 hz => ⟨_, _, rfl, hz.sublist (List.sublist_append_left L101 L82), by rw [chooseS, ← htop, isort_len]; exact p101⟩)

end Go.Proofs.Ytjccenbacjhglaa.S5
