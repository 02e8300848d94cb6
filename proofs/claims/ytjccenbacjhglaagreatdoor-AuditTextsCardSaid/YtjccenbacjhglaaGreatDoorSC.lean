/- Contracts of Go library functions on strings, in the terms of the walks. -/
import Derived.Test.YtjccenbacjhglaaGreatDoorKB
import Derived.Test.YtjccenbacjhglaaGreatDoorSH
import Derived.Test.YtjccenbacjhglaaGreatDoorST
set_option linter.unusedVariables false
set_option linter.unusedSimpArgs false
set_option maxRecDepth 100000
namespace Go.Proofs.YtjccenbacjhglaaGreatDoor.SC
open Go Go.RowKit Go.Proofs Go.Proofs.YtjccenbacjhglaaGreatDoor.K Go.Proofs.YtjccenbacjhglaaGreatDoor.ST

/-- What the package-level variables hold that the road reads. -/
structure GV (w : World) : Prop where
  tab : Lib.TabIs Tryz.prog w "internal/strconv.uint64pow10" .u64 Lib.pow10Tab
  syn : ∃ tp p, w.var? Tryz.prog "strconv.ErrSyntax" = some #[.iface tp p]
  rng : ∃ tp p, w.var? Tryz.prog "strconv.ErrRange" = some #[.iface tp p]
  ml : ∃ m, w.cell? ⟨0, 0, none⟩ = some (.int .i64 m)
theorem var_below {P : Program} {w w' : World} {n : String} {cs : Array Value} (h : w.var? P n = some cs) (hb : Below w.heap.size w w') : w'.var? P n = some cs := by
  unfold World.var? at h ⊢
  cases hg : P.globalNamed n with
  | none => rw [hg] at h; cases h
  | some g =>
    rw [hg] at h
    simp only [Option.bind_some] at h ⊢
    have hlt : g < w.heap.size := by
      rcases Nat.lt_or_ge g w.heap.size with h' | h'
      · exact h'
      · rw [Array.getElem?_eq_none h'] at h; cases h
    rw [hb.block g hlt]
    exact h
theorem cell_below {w w' : World} {v : Value} {a : Addr} (h : w.cell? a = some v) (hb : Below w.heap.size w w') : w'.cell? a = some v := by
  have hlt : a.block < w.heap.size := by
    rcases Nat.lt_or_ge a.block w.heap.size with h' | h'
    · exact h'
    · unfold World.cell? at h
      rw [Array.getElem?_eq_none h'] at h; cases h
  unfold World.cell? at h ⊢
  rw [hb.block _ hlt]
  exact h
theorem GV.below {w w' : World} (h : GV w) (hb : Below w.heap.size w w') : GV w' := by
  obtain ⟨h1, ⟨t2, p2, h2⟩, ⟨t3, p3, h3⟩, ⟨m, h4⟩⟩ := h
  exact ⟨var_below h1 hb, ⟨t2, p2, var_below h2 hb⟩, ⟨t3, p3, var_below h3 hb⟩, ⟨m, cell_below h4 hb⟩⟩
theorem GV.z {w w' : World} {L : List Blk} (h : GV w) (hz : Z w w [] L w') : GV w' := h.below hz.h.below

theorem grow_below (w : World) (k : Nat) (os : Array Obj) : Below w.heap.size w (Sort.grow (w.drewN k) os) :=
  ⟨rfl, rfl, rfl, by show w.heap.size ≤ (w.heap ++ os).size; simp, fun i hi => by show (w.heap ++ os)[i]? = _; rw [Array.getElem?_append_left hi]⟩
theorem itoa_calls (w : World) (hg : GV w) (n : Int) (hn : R64 n) : Calls Tryz.prog 18 #[.int .i64 n] w fun r w' => r = .returned (sv (Lib.itoa n)) ∧ Z w w [] [] w' :=
  (Tryz.strconv_Itoa n hn.1 hn.2 w hg.tab).mono fun r w' ⟨hr, k, os, hw⟩ => ⟨hr, Z.ofBelow (by rw [hw]; exact grow_below w k os)⟩
theorem atoi_calls (w : World) (hg : GV w) (s : By) (hs : s.length ≤ 4294967280) : Calls Tryz.prog 61 #[sv s] w fun r w' => ∃ v L', r = .returned v ∧ Z w w [] L' w' ∧ (L' = [] ∧ ∃ n ev b, v = .tuple #[.int .i64 n, ev] ∧ ((ev = .nilIface ∧ b = true) ∨ ((∃ te pe, ev = .iface te pe) ∧ b = false)) ∧ (b = true → Lib.atoiAll s = .ok n) ∧ (b = false → numOf s = none)) := by
  have e1 : (⟨s.toArray⟩ : ByteArray).size = s.length := sv_size s
  have e2 : (⟨s.toArray⟩ : ByteArray).data.toList = s := rfl
  cases h : Lib.atoiAll s
  · rename_i v
    exact (Tryz.strconv_Atoi_ok ⟨s.toArray⟩ (by rw [e1]; omega) v (by rw [e2]; exact h) w).mono fun r w' ⟨hr, hw⟩ => by
      refine ⟨_, [], hr, ?_, rfl, v, _, true, rfl, .inl ⟨rfl, rfl⟩, fun _ => rfl, fun x => by cases x⟩
      rcases hw with rfl | ⟨t, rfl⟩
      · exact Z.ofBelow (Below.refl _ _)
      · exact Z.ofBelow (Lib.bytesWorld_below _ _ _)
  · obtain ⟨tp, p, hv⟩ := hg.syn
    exact (Tryz.strconv_Atoi_syntax_var ⟨s.toArray⟩ (by rw [e1]; omega) (by rw [e2]; exact h) tp p w hv).mono fun r w' ⟨N, hr, _, _, hb⟩ =>
      ⟨_, [], hr, Z.ofBelow hb, rfl, 0, _, false, rfl, .inr ⟨⟨_, _, rfl⟩, rfl⟩, (fun x => by cases x), fun _ => by unfold numOf; rw [h]⟩
  · obtain ⟨tp, p, hv⟩ := hg.rng
    exact (Tryz.strconv_Atoi_range_var ⟨s.toArray⟩ (by rw [e1]; omega) (by rw [e2]; exact h) tp p w hv).mono fun r w' ⟨N, hr, _, _, hb⟩ =>
      ⟨_, [], hr, Z.ofBelow hb, rfl, _, _, false, rfl, .inr ⟨⟨_, _, rfl⟩, rfl⟩, (fun x => by cases x), fun _ => by unfold numOf; rw [h]⟩
theorem drew_below (w : World) (n : Nat) : Below w.heap.size w (w.drewN n) := ⟨rfl, rfl, rfl, Nat.le_refl _, fun _ _ => rfl⟩
theorem cut_calls (w : World) (hg : GV w) (s : By) (c : UInt8) (hs : s.length ≤ 4294967280) : Calls Tryz.prog 15 #[sv s, sv [c]] w fun r w' => r = .returned (.tuple #[sv (bef c s), sv (aft c s), .bool (decide (c ∈ s))]) ∧ Z w w [] [] w' := by
  obtain ⟨m, hm⟩ := hg.ml
  refine (Tryz.strings_Cut ⟨s.toArray⟩ ⟨[c].toArray⟩ m w (by rw [sv_size]; omega) hm).mono fun r w' ⟨hr, n, hw⟩ => ⟨?_, Z.ofBelow (by rw [hw]; exact drew_below w n)⟩
  rw [hr]
  show Ending.returned (.tuple #[.string ⟨(Lib.cut s [c]).1.toArray⟩, .string ⟨(Lib.cut s [c]).2.1.toArray⟩, .bool (Lib.cut s [c]).2.2]) = _
  rw [cut_one]
theorem split_calls (w : World) (hg : GV w) (s : By) (c : UInt8) (hs : s.length ≤ 4294967280) : Calls Tryz.prog 34 #[sv s, sv [c]] w fun r w' => ∃ v L', r = .returned v ∧ Z w w [] L' w' ∧ (∃ b, v = .slice (some ⟨b, 0, none⟩) (spl c s).length (spl c s).length ∧ L' = [(b, .cells ((spl c s).map sv).toArray 9 (0, 0))]) := by
  obtain ⟨m, hm⟩ := hg.ml
  refine (Tryz.strings_Split ⟨s.toArray⟩ ⟨[c].toArray⟩ m w (by rw [sv_size]; omega) hm (Nat.le_refl 1)).mono fun r w' ⟨hr, hw⟩ => ?_
  have e1 := countB_one c s
  have e2 := splitB_one c s
  have e1' : Lib.countB ⟨s.toArray⟩ ⟨[c].toArray⟩ + 1 = (spl c s).length := e1
  have e2' : Lib.splitB ⟨[c].toArray⟩ 0 (Lib.countB ⟨s.toArray⟩ ⟨[c].toArray⟩) ⟨s.toArray⟩ = (spl c s).map fun p => ⟨p.toArray⟩ := e2
  rw [e1'] at hr
  rw [e2', List.map_map] at hw
  have hz := (Z.start (L := []) (H.nil w)).alloc (.cells ((spl c s).map sv).toArray 9 (0, 0))
  exact ⟨_, _, hr, by rw [hw]; exact hz, _, rfl, rfl⟩
theorem kind_calls (w : World) (b c : Nat) (s : By) (hc : ∀ j, j < 8 → w.cell? ⟨b, j, none⟩ = some (sv (kinds.getD j []))) : Calls Tryz.prog 35 #[.slice (some ⟨b, 0, none⟩) 8 c, sv s] w fun r w' => r = .returned (.int .i64 (kindIx s)) ∧ Z w w [] [] w' := by
  refine (Tryz.slices_Index_string b 0 8 c (kinds.map fun p => (⟨p.toArray⟩ : ByteArray)) ⟨s.toArray⟩ w (by decide) (by decide) (fun j hj => ?_)).mono fun r w' ⟨hr, hw⟩ => ⟨?_, Z.ofBelow (by rw [hw]; exact Below.refl _ _)⟩
  · have h8 : j < 8 := by simpa [kinds] using hj
    rw [Nat.zero_add, hc j h8]
    have : (kinds.map fun p => (⟨p.toArray⟩ : ByteArray)).getD j ByteArray.empty = ⟨(kinds.getD j []).toArray⟩ := by
      have h9 : j < kinds.length := by simpa [kinds] using h8
      simp [List.getD_eq_getElem?_getD, List.getElem?_map, List.getElem?_eq_getElem h9]
    rw [this]
  · rw [hr]
    unfold kindIx
    rw [List.take_of_length_le (by decide)]
theorem strCells_eq (s : By) : Lib.strCells ⟨s.toArray⟩ = Lib.byteCells s := rfl
theorem byteCells_app (a b : By) : Lib.byteCells (a ++ b) = Lib.byteCells a ++ Lib.byteCells b := by simp [Lib.byteCells]
theorem wstr_calls (w0 w : World) (b : Nat) (s x : By) (hB : Lib.IsBuilderF 49 5 w0.heap.size b (Lib.byteCells s) w) (hs : w0.heap.size ≤ w.heap.size) (hl : s.length + x.length ≤ 140737488355328) : Calls Tryz.prog 17 #[.pointer (some ⟨b, 0, none⟩), sv x] w fun r w' => ∃ v, r = .returned v ∧ True ∧ Lib.IsBuilderF 49 5 w0.heap.size b (Lib.byteCells (s ++ x)) w' ∧ Below w0.heap.size w w' ∧ Lib.OthersKept 5 (some b) w w' :=
  (Tryz.Builder_WriteString_k w0.heap.size b (Lib.byteCells s) ⟨x.toArray⟩ w hB (by rw [Lib.byteCells_length, sv_size]; exact hl) hs).mono fun r w' ⟨hr, h1, h2, h3⟩ => ⟨_, hr, trivial, .inr (by rw [byteCells_app, ← strCells_eq]; exact h1), h2, h3⟩
theorem wbyte_calls (w0 w : World) (b : Nat) (s : By) (x : UInt8) (hB : Lib.IsBuilderF 49 5 w0.heap.size b (Lib.byteCells s) w) (hs : w0.heap.size ≤ w.heap.size) (hl : s.length + 1 ≤ 140737488355328) : Calls Tryz.prog 20 #[.pointer (some ⟨b, 0, none⟩), .int .u8 (x.toNat : Int)] w fun r w' => ∃ v, r = .returned v ∧ True ∧ Lib.IsBuilderF 49 5 w0.heap.size b (Lib.byteCells (s ++ [x])) w' ∧ Below w0.heap.size w w' ∧ Lib.OthersKept 5 (some b) w w' :=
  (Tryz.Builder_WriteByte_k w0.heap.size b (Lib.byteCells s) (x.toNat : Int) w hB (by rw [Lib.byteCells_length]; exact hl) hs).mono fun r w' ⟨hr, h1, h2, h3⟩ => ⟨_, hr, trivial, .inr (by rw [byteCells_app]; exact h1), h2, h3⟩
theorem bstr_calls (w0 w : World) (b : Nat) (s : By) (hB : Lib.IsBuilderF 49 5 w0.heap.size b (Lib.byteCells s) w) (hs : w0.heap.size ≤ w.heap.size) : Calls Tryz.prog 21 #[.pointer (some ⟨b, 0, none⟩)] w fun r w' => ∃ v, r = .returned v ∧ v = sv s ∧ Lib.IsBuilderF 49 5 w0.heap.size b (Lib.byteCells s) w' ∧ Below w0.heap.size w w' ∧ Lib.OthersKept 5 (some b) w w' :=
  (Tryz.Builder_String_any_k w0.heap.size b s w hB hs).mono fun r w' ⟨hr, h1, h2, h3⟩ => ⟨_, hr, rfl, h1, h2, h3⟩
end Go.Proofs.YtjccenbacjhglaaGreatDoor.SC
