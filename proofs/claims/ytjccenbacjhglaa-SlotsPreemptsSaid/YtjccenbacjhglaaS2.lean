import Derived.Test.YtjccenbacjhglaaProg
import Derived.Test.YtjccenbacjhglaaK
import Derived.Test.YtjccenbacjhglaaM
import Derived.Test.YtjccenbacjhglaaIS
import Derived.Test.YtjccenbacjhglaaM2
import Derived.Test.YtjccenbacjhglaaMS
import Derived.Test.YtjccenbacjhglaaPF
import Derived.Test.YtjccenbacjhglaaSO
import Derived.Test.YtjccenbacjhglaaAU
import Derived.Test.YtjccenbacjhglaaR1
import Derived.Test.YtjccenbacjhglaaR2
import Derived.Test.YtjccenbacjhglaaR3
import Derived.Test.YtjccenbacjhglaaS1
set_option linter.unusedVariables false
set_option linter.unusedSimpArgs false
set_option maxRecDepth 100000
set_option maxHeartbeats 4000000
namespace Go.Proofs.Ytjccenbacjhglaa.S2
open Go Go.Proofs Go.RowKit Go.Proofs.Ytjccenbacjhglaa.K Go.Proofs.Ytjccenbacjhglaa.M Go.Proofs.Ytjccenbacjhglaa.PF Go.Proofs.Ytjccenbacjhglaa.SO Go.Proofs.Ytjccenbacjhglaa.AU Go.Proofs.Ytjccenbacjhglaa.R1 Go.Proofs.Ytjccenbacjhglaa.S1
theorem f62_1 : Fld Try.prog 62 1 1 := ⟨_, _, Try.underlying62, rfl, rfl, 0, by kernel_rfl⟩
theorem f96_0 : Fld Try.prog 96 0 0 := ⟨_, _, Try.underlying96, rfl, rfl, 0, by kernel_rfl⟩
theorem f96_1 : Fld Try.prog 96 1 1 := ⟨_, _, Try.underlying96, rfl, rfl, 0, by kernel_rfl⟩
theorem f96_2 : Fld Try.prog 96 2 2 := ⟨_, _, Try.underlying96, rfl, rfl, 0, by kernel_rfl⟩
theorem f96_3 : Fld Try.prog 96 3 3 := ⟨_, _, Try.underlying96, rfl, rfl, 0, by kernel_rfl⟩
theorem mix : Try.prog.follows .mixedOrders = true := by kernel_rfl
theorem o3 : One Try.prog 3 := ⟨_, Try.underlying3, rfl, by kernel_rfl⟩
theorem o22 : One Try.prog 22 := ⟨_, Try.underlying22, rfl, by kernel_rfl⟩
theorem o37 : One Try.prog 37 := ⟨_, Try.underlying37, rfl, by kernel_rfl⟩
theorem o42 : One Try.prog 42 := ⟨_, Try.underlying42, rfl, by kernel_rfl⟩
theorem s22 : Slc Try.prog 22 62 3 32 [.string ⟨#[]⟩, .int .i64 0, .int .i64 0] := ⟨Try.underlying22, by kernel_rfl, rfl⟩
theorem s37 : Slc Try.prog 37 3 1 8 [.int .i64 0] := ⟨Try.underlying37, by kernel_rfl, rfl⟩
theorem s42 : Slc Try.prog 42 37 1 24 [.slice none 0 0] := ⟨Try.underlying42, by kernel_rfl, rfl⟩
theorem st96 : Str Try.prog 96 [.slice none 0 0, .slice none 0 0, .slice none 0 0, .slice none 0 0, .slice none 0 0] #[(0, 1), (1, 1), (2, 1), (3, 1), (4, 1)] := ⟨⟨by kernel_rfl⟩, _, Try.underlying96, fun w => by kernel_rfl⟩

def natV (k : Nat) : Value := .int .i64 (k : Int)
/-- The runner's own cells. -/
def rnC (lv rv : Value) (J D n : Nat) (mv : Value) : List Value := [lv, rv, .slice (some ⟨J, 0, none⟩) n n, .slice (some ⟨D, 0, none⟩) n n, mv]
/-- The runner in blocks of the call's own. -/
def BN (R J D : Nat) (lv rv mv : Value) (n : Nat) (Lm : List Blk) (s : Rn) : List Blk := (R, .cells (rnC lv rv J D n mv).toArray 96 (0, 0)) :: (J, .cells (s.job.map natV).toArray 3 (0, 0)) :: (D, .cells (s.done.map intV).toArray 3 (0, 0)) :: Lm
/-- The runner in memory. -/
structure RnW (w : World) (R J D : Nat) (lv rv mv : Value) (n : Nat) (s : Rn) : Prop where
  hR : w.heap[R]? = some (.cells (rnC lv rv J D n mv).toArray 96 (0, 0))
  hJ : w.heap[J]? = some (.cells (s.job.map natV).toArray 3 (0, 0))
  hD : w.heap[D]? = some (.cells (s.done.map intV).toArray 3 (0, 0))
/-- Bounds of the runner's numbers. -/
structure RnI (l : List Tk) (rs : List (List Int)) (s : Rn) (K N : Nat) : Prop where
  val : validT l = true
  len : rs.length = l.length
  inI : inI rs
  rel0 : ∀ i (h : i < rs.length) k (hk : k < rs[i].length), 0 ≤ rs[i][k]
  nj : s.job.length = l.length
  nd : s.done.length = l.length
  job : ∀ i (h : i < rs.length), jobAt s i ≤ rs[i].length
  done : ∀ i, 0 ≤ doneAt s i ∧ doneAt s i ≤ (K : Int)
  ms : s.ms.length ≤ N
  k1 : K ≤ 1000000
  n1 : N ≤ 100000000
theorem RnI.n40 {l : List Tk} {rs : List (List Int)} {s : Rn} {K N : Nat} (h : RnI l rs s K N) : l.length ≤ 40 := by
  have h1 := h.val
  simp only [validT, Bool.and_eq_true, decide_eq_true_eq] at h1
  exact h1.2
theorem RnI.tk {l : List Tk} {rs : List (List Int)} {s : Rn} {K N : Nat} (h : RnI l rs s K N) {i : Nat} (hi : i < l.length) : okT l[i] = true := by
  have h1 := h.val
  simp only [validT, Bool.and_eq_true, List.all_eq_true] at h1
  exact h1.1 _ (List.getElem_mem hi)
theorem jobV {s : Rn} {i : Nat} (hi : i < s.job.length) : (s.job.map natV)[0 + i * 1]? = some (.int .i64 ((jobAt s i : Nat) : Int)) := by
  rw [Nat.zero_add, Nat.mul_one, List.getElem?_map, jobAt, List.getElem?_eq_getElem hi]; rfl
theorem doneV {s : Rn} {i : Nat} (hi : i < s.done.length) : (s.done.map intV)[0 + i * 1]? = some (.int .i64 (doneAt s i)) := by
  rw [Nat.zero_add, Nat.mul_one, List.getElem?_map, doneAt, List.getElem?_eq_getElem hi]; rfl
theorem relAt_some {rs : List (List Int)} {i k : Nat} (hi : i < rs.length) (hk : k < rs[i].length) : relAt rs i k = some rs[i][k] := by
  unfold relAt; rw [List.getElem?_eq_getElem hi]; exact List.getElem?_eq_getElem hk
theorem relAt_none {rs : List (List Int)} {i k : Nat} (hi : i < rs.length) (hk : rs[i].length ≤ k) : relAt rs i k = none := by
  unfold relAt; rw [List.getElem?_eq_getElem hi]; exact List.getElem?_eq_none hk
theorem RnW.up {w w1 we : World} {Le L : List Blk} {R J D n : Nat} {lv rv mv : Value} {s : Rn} (h : RnW w R J D lv rv mv n s) (hz : Z w we Le L w1) : RnW w1 R J D lv rv mv n s := ⟨heap_up hz h.hR, heap_up hz h.hJ, heap_up hz h.hD⟩
theorem newS_I {l : List Tk} {rs : List (List Int)} (h1 : validT l = true) (h2 : rs.length = l.length) (h3 : inI rs) (h4 : ∀ i (h : i < rs.length) k (hk : k < rs[i].length), 0 ≤ rs[i][k]) : RnI l rs (newS l.length) 0 0 := by
  refine ⟨h1, h2, h3, h4, by simp [newS], by simp [newS], fun i hi => ?_, fun i => ?_, by simp [newS], by omega, by omega⟩
  · unfold jobAt newS
    simp only [List.getElem?_replicate]
    split <;> simp
  · unfold doneAt newS
    simp only [List.getElem?_replicate]
    split <;> simp


theorem fin_new2 {w w1 : World} {R J D n : Nat} {lv rv : Value} {c : List Value} (hz : Z w w [] [(R, .cells c.toArray 96 (0, 0)), (J, .cells (List.replicate n [Value.int .i64 0]).flatten.toArray 3 (0, 0)), (D, .cells (List.replicate n [Value.int .i64 0]).flatten.toArray 3 (0, 0))] w1) (hc : c = rnC lv rv J D n (.slice none 0 0) := by rfl) : Z w w [] (BN R J D lv rv (.slice none 0 0) n [] (newS n)) w1 := by
  subst hc
  rw [flat_rep] at hz
  unfold BN newS
  simp only [List.map_replicate, natV, intV]
  exact hz

theorem newRunner_calls (w : World) (A B : Option Addr) (c n m c2 : Nat) (hn : n ≤ 1000000) : Calls Try.prog 42 #[.slice A n c, .slice B m c2] w fun e w' => ∃ v L', e = .returned v ∧ Z w w [] L' w' ∧ ∃ R J D, v = .pointer (some ⟨R, 0, none⟩) ∧ L' = BN R J D (.slice A n c) (.slice B m c2) (.slice none 0 0) n [] (newS n) := by
  refine enter (args := [_, _]) Try.func42 rfl rfl rfl (C := Z w w [] []) (Z.start (H.nil w)) ?_
  refine .seq (.reg (.q (.assign rfl) (.nil (.code ?_))))
  refine .seq (.drawS mix [0, 1, 2, 3, 4, 5, 6, 7, 8, 9, 10] [0, 1, 2, 3, 5, 6] [] (.two 4 (.one 7 (.one 8 (.one 9 (.one 10 .nil)))) 7 (.one 4 (.one 8 (.one 9 (.one 10 .nil))))) (by kernel_rfl) (fun _ h => h.drew) (fun _ h => h) (.q (.move rfl) (.q (.move rfl) (.q (.move rfl) (.q (.lenS s22.t rfl) (.q (.move rfl) (.q (.lenS s22.t rfl) (.toS (.toT (.both ?_ ?_))))))))))
  · refine .step rfl (.mk s37 rfl rfl (by omega) (by omega) (by omega) fun b9 => (.nil (.tkB (.step rfl (.mk s37 rfl rfl (by omega) (by omega) (by omega) fun b12 => (.nil (.tkB (.step rfl (.q (.build st96 rfl rfl) (.nil (.tkB (.step rfl (.box rfl fun b14 => .nil (.tkB (.step rfl (.q (.assign rfl) (.nil (.tkB (.nil (.code ?_))))))))))))))))))))
    refine .ret (.ret1 Try.results42 rfl fun w1 hz => ⟨_, _, rfl, fin_new2 (hz.perm ((List.Perm.swap _ _ _).cons _)), b14, b9, b12, rfl, rfl⟩)
  · refine .step rfl (.mk s37 rfl rfl (by omega) (by omega) (by omega) fun b12 => (.nil (.tkB (.step rfl (.mk s37 rfl rfl (by omega) (by omega) (by omega) fun b9 => (.nil (.tkB (.step rfl (.q (.build st96 rfl rfl) (.nil (.tkB (.step rfl (.box rfl fun b14 => .nil (.tkB (.step rfl (.q (.assign rfl) (.nil (.tkB (.nil (.code ?_))))))))))))))))))))
    refine .ret (.ret1 Try.results42 rfl fun w1 hz => ⟨_, _, rfl, fin_new2 hz, b14, b9, b12, rfl, rfl⟩)

theorem pending_calls (w : World) (R J D : Nat) (lv rv mv : Value) (l : List Tk) (rs : List (List Int)) (s : Rn) (K N : Nat) (hW : RnW w R J D lv rv mv l.length s) (hl : Rd encT 3 w lv l) (hr : Rd2 w rv rs) (hI : RnI l rs s K N) (i : Nat) (hil : i < l.length) (slot : Int) : Calls Try.prog 60 #[.pointer (some ⟨R, 0, none⟩), .int .i64 (i : Int), .int .i64 slot] w fun e w' => e = .returned (.bool (pendS l rs s i slot)) ∧ Z w w [] [] w' := by
  have hi : i < rs.length := by rw [hI.len]; exact hil
  have hij : i < s.job.length := by rw [hI.nj]; exact hil
  have hid : i < s.done.length := by rw [hI.nd]; exact hil
  obtain ⟨b, off, c, A2, c3, rfl, hcell, hrow⟩ := Rd2.at hr hi
  obtain ⟨lb, lo, lc, rfl, hlc⟩ := Rd.at hl hil
  refine enter (args := [_, _, _]) Try.func60 rfl rfl rfl (C := Z w w [] []) (Z.start (H.nil w)) ?_
  refine .seq (.reg (.q (.assign rfl) (.nil (.code ?_))))
  refine .seq (.reg (.q (.move rfl) (.q (.nilP rfl) (.q (.fld f96_2 rfl) (.q (.ldW o37 rfl (cellOf hW.hR rfl)) (.q (.move rfl) (.q (.ix s37 rfl rfl (by omega)) (.q (.ldW (v := .int .i64 ((jobAt s i : Nat) : Int)) o3 rfl (cellOf hW.hJ (jobV hij))) (.q (.assign rfl) (.nil (.code ?_)))))))))))
  refine .seq (.draw mix (by kernel_rfl) (fun _ h => h.drew) (.q (.move rfl) (.q (.move rfl) (.q (.nilP rfl) (.q (.fld f96_1 rfl) (.q (.ldW o42 rfl (cellOf hW.hR rfl)) (.q (.move rfl) (.q (.ix s42 rfl rfl (by omega)) (.q (.ldW o37 rfl hcell) (.q (.lenS s37.t rfl) (.ltS rfl rfl (fun h24 => ?_) (fun h24 => ?_))))))))))))
  · have hk : jobAt s i < rs[i].length := by omega
    obtain ⟨xb, xo, xc, hxe, hx⟩ := Rd.at hrow hk
    cases hxe
    refine .q (.move rfl) (.q (.move rfl) (.q (.nilP rfl) (.q (.fld f96_1 rfl) (.q (.ldW o42 rfl (cellOf hW.hR rfl)) (.q (.move rfl) (.q (.ix s42 rfl rfl (by omega)) (.q (.ldW o37 rfl hcell) (.q (.move rfl) (.q (.ix s37 rfl rfl (by omega)) (.q (.ldW (v := .int .i64 rs[i][jobAt s i]) o3 rfl (by have := hx 0 (by omega); exact this)) (.q (.move rfl) (.leS rfl rfl (fun h37 => ?_) (fun h37 => ?_)))))))))))))
    · refine .q (.pickT rfl rfl) (.q (.move rfl) (.q (.move rfl) (.q (.nilP rfl) (.q (.fld f96_3 rfl) (.q (.ldW o37 rfl (cellOf hW.hR rfl)) (.q (.move rfl) (.q (.ix s37 rfl rfl (by omega)) (.q (.ldW (v := .int .i64 (doneAt s i)) o3 rfl (cellOf hW.hD (doneV hid))) (.q (.move rfl) (.q (.nilP rfl) (.q (.fld f96_0 rfl) (.q (.ldW o22 rfl (cellOf hW.hR rfl)) (.q (.move rfl) (.q (.ix s22 rfl rfl (by omega)) (.q (.fld f62_1 rfl) (.q (.ldW o3 rfl (hlc 1 (by omega))) (.q (.cmp rfl rfl rfl) (.q (.pickT rfl rfl) (.q (.assign rfl) (.nil (.code ?_)))))))))))))))))))))
      refine .ret (.ret1 Try.results60 rfl fun w1 hz => ⟨bv (by unfold pendS; rw [List.getElem?_eq_getElem hil, relAt_some hi hk]; simp; omega), hz⟩)
    · refine .q (.pickT rfl rfl) (.q (.move rfl) (.skip (.skip (.skip (.skip (.skip (.skip (.skip (.skip (.skip (.skip (.skip (.skip (.skip (.skip (.skip (.skip (.q (.pickF rfl rfl) (.q (.assign rfl) (.nil (.code ?_)))))))))))))))))))))
      refine .ret (.ret1 Try.results60 rfl fun w1 hz => ⟨bv (by unfold pendS; rw [List.getElem?_eq_getElem hil, relAt_some hi hk]; simp; omega), hz⟩)
  · refine .q (.move rfl) (.skip (.skip (.skip (.skip (.skip (.skip (.skip (.skip (.skip (.skip (.skip (.skip (.q (.pickF rfl rfl) (.q (.move rfl) (.skip (.skip (.skip (.skip (.skip (.skip (.skip (.skip (.skip (.skip (.skip (.skip (.skip (.skip (.skip (.skip (.q (.pickF rfl rfl) (.q (.assign rfl) (.nil (.code ?_))))))))))))))))))))))))))))))))))
    refine .ret (.ret1 Try.results60 rfl fun w1 hz => ⟨bv (by unfold pendS; rw [List.getElem?_eq_getElem hil, relAt_none hi (by omega)]), hz⟩)

end Go.Proofs.Ytjccenbacjhglaa.S2
