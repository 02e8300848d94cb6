/- Arguments of rows: plans, schedules, opened. -/
import Derived.Test.YtjccenbacjhglaaRE
import Derived.Test.YtjccenbacjhglaaS11
import Derived.Deep.Matrix
set_option linter.unusedVariables false
set_option maxRecDepth 100000
namespace Go.Proofs.Ytjccenbacjhglaa.RE2
open Go Go.Proofs Go.RowKit Go.ChangeShapes Go.WideShapes Go.ChangeAt Go.Deep Go.Proofs.Ytjccenbacjhglaa.K Go.Proofs.Ytjccenbacjhglaa.M Go.Proofs.Ytjccenbacjhglaa.RW Go.Proofs.Ytjccenbacjhglaa.RE Go.Proofs.Ytjccenbacjhglaa.S1 Go.Proofs.Ytjccenbacjhglaa.S9
section
variable {H : Type} {enc : TypeId × Value → H} {P : Program} {w : World} {base : Nat} {held : Bool}
theorem weightsAll_mem {e : TypeId} : ∀ {ds : List (DataW H)} {d : DataW H}, d ∈ ds → ∀ n ∈ d.weights P e, n ∈ DataW.weightsAll P e ds
  | [], d, h, n, hn => absurd h (List.not_mem_nil)
  | x :: ds, d, h, n, hn => by
    rw [DataW.weightsAll, List.mem_append]
    rcases List.mem_cons.1 h with rfl | h
    · exact .inl hn
    · exact .inr (weightsAll_mem h n hn)
theorem row_rd {A : Option Addr} {L C : Nat} {Z : List Int} (hLC : L ≤ C) (hZ : Z.length = C) (hC : C ≤ 140737488355328) (hnil : A = none → C = 0) (hat : ∀ a', A = some a' → ∀ c, c < C → w.cell? (a'.add c) = some (.int .i64 (Z.getD c 0))) : Rd eI 1 w (.slice A L C) (Z.take L) := by
  have hl : (Z.take L).length = L := by rw [List.length_take]; omega
  refine ⟨A, C, by rw [hl], by omega, fun _ => rfl, ?_⟩
  rcases Nat.eq_zero_or_pos L with h0 | h0
  · left; subst h0; simp
  · right
    cases A with
    | none => have := hnil rfl; omega
    | some a =>
      have h1 := hat a rfl 0 (by omega)
      have hsp : a.spot = none := by
        have h2 : a.add 0 = a := K.add0 a
        rw [h2] at h1
        exact spot_none h1
      obtain ⟨b, off, sp⟩ := a
      simp only at hsp
      subst hsp
      refine ⟨b, off, rfl, fun i hi j hj => ?_⟩
      obtain rfl : j = 0 := by omega
      have hiL : i < L := by omega
      have h3 := hat _ rfl i (by omega)
      have e1 : ((⟨b, off, none⟩ : Addr).add i) = ⟨b, off + i * 1 + 0, none⟩ := by
        unfold Addr.add
        split
        · rename_i hz; simp [hz]
        · simp
      rw [e1] at h3
      rw [h3]
      simp only [eI, List.getElem?_cons_zero, List.getElem_take, Option.some.injEq, Value.int.injEq, true_and]
      rw [List.getD_eq_getElem?_getD, List.getElem?_eq_getElem (by omega)]; rfl
/-- A slice of slices of numbers among the arguments. -/
theorem open_rows {t e q : TypeId} {fuel : Nat} {v : Value} {x : DataW H × List MemPlace} (ht : P.underlying t = some (.slice e)) (he : P.underlying e = some (.slice q)) (hq : P.underlying q = some (.int .i64)) (ce : P.cellsOf e = 1) (cq : P.cellsOf q = 1) (be : P.bytesOf e = 24) (bq : P.bytesOf q = 8)
    (hw : ∀ n ∈ x.1.weights P t, n ≤ reachBytes) (h : DataW.trod enc P w base (fun _ => true) held fuel t [v] = some x) : ∃ rs : List (List Int), Rd2 w v rs ∧ inI rs ∧ (∃ A c, v = .slice A rs.length c) := by
  rcases open_int_rows ht he hq ce cq h with ⟨hcs, _⟩ | ⟨a, len, cap, A, L, C, Z, hcs, _, hlc, _, hx, hall⟩
  · simp at hcs
    subst hcs
    exact ⟨[], ⟨[], rfl, ⟨none, 0, rfl, by simp, fun _ => rfl, .inl rfl⟩, fun i h => absurd h (by simp)⟩, fun r hr => absurd hr (by simp), none, 0, rfl⟩
  · simp at hcs
    subst hcs
    rw [hx] at hw
    simp only [DataW.weights, ht, be, List.length_map, List.length_range, List.mem_cons, List.mem_append] at hw
    have hlen : len ≤ 140737488355328 := by
      have := hw _ (.inl rfl)
      have h2 : reachBytes = 140737488351232 := by decide
      omega
    have hrow : ∀ r, r < len → C r ≤ 140737488355328 := fun r hr => by
      obtain ⟨h1, h2, h3, h4, h5, h6, h7⟩ := hall r (by omega)
      cases hA : A r with
      | none => rw [h6 hA]; omega
      | some a' =>
        have hm : intRow (H := H) .i64 (A r) (L r) (Z r) ∈ (List.range len).map fun r => intRow (H := H) .i64 (A r) (L r) (Z r) := List.mem_map.2 ⟨r, List.mem_range.2 hr, rfl⟩
        have h8 : (C r) * 8 ∈ (intRow (H := H) .i64 (A r) (L r) (Z r)).weights P e := by
          rw [hA]
          simp only [intRow, DataW.weights, he, bq, List.mem_cons]
          left
          simp only [lits, List.length_map, List.length_take, List.length_drop, h4]
          congr 1; omega
        have := hw _ (.inr (.inl (weightsAll_mem hm _ h8)))
        have h9 : reachBytes = 140737488351232 := by decide
        omega
    have hrd : ∀ r, r < len → Rd eI 1 w (.slice (A r) (L r) (C r)) ((Z r).take (L r)) := fun r hr => by
      obtain ⟨h1, h2, h3, h4, h5, h6, h7⟩ := hall r (by omega)
      exact row_rd h2 h4 (hrow r hr) h6 fun a' ha c hc => (h7 a' ha).2 c hc
    refine ⟨(List.range len).map fun r => (Z r).take (L r), ⟨(List.range len).map fun r => .slice (A r) (L r) (C r), by simp, ?_, fun i h1 h2 => ?_⟩, fun r hr x hx => ?_, some a, cap, by simp⟩
    · refine ⟨some a, cap, by simp, by simpa using hlen, fun _ => rfl, ?_⟩
      rcases Nat.eq_zero_or_pos len with h0 | h0
      · left; subst h0; rfl
      · right
        have h1 := (hall 0 (by omega)).1
        have hsp : a.spot = none := by
          rw [K.add0] at h1
          exact spot_none h1
        obtain ⟨b, off, sp⟩ := a
        simp only at hsp
        subst hsp
        refine ⟨b, off, rfl, fun i hi j hj => ?_⟩
        obtain rfl : j = 0 := by omega
        have hi' : i < len := by simpa using hi
        have h3 := (hall i (by omega)).1
        have e1 : ((⟨b, off, none⟩ : Addr).add i) = ⟨b, off + i * 1 + 0, none⟩ := by
          unfold Addr.add
          split
          · rename_i hz; simp [hz]
          · simp
        rw [e1] at h3
        rw [h3]
        simp [eV]
    · have h3 : i < len := by simpa using h1
      simp only [List.getElem_map, List.getElem_range]
      exact hrd i h3
    · obtain ⟨i, hi, rfl⟩ := List.mem_map.1 hr
      have hi' := List.mem_range.1 hi
      have h5 := (hall i (by omega)).2.2.2.2.1 x (List.mem_of_mem_take hx)
      simp only [Lit.wf, Bool.and_eq_true, decide_eq_true_eq] at h5
      have h8 : IntKind.i64.min = -9223372036854775808 := by decide
      have h9 : IntKind.i64.max = 9223372036854775807 := by decide
      omega
/-- A plan among the arguments. -/
theorem open_plan {spareT : Unit} {ts : List TypeId} {ds : List (DataW H)} {j : Nat} {cs : Array Value} {d : DataW H} {ps : List MemPlace} (hsz : (DataW.weightsEach Try.prog ts ds).all (· ≤ reachBytes) = true) (ht : ts[j]? = some 44) (hd : ds[j]? = some d)
    (h : DataW.Trod enc Try.prog w base (fun _ => true) held 44 (.agg cs) d ps) : ∃ (lv rv : Value) (l : List Tk) (cores : Int) (rs : List (List Int)) (U : Int), Value.agg cs = .agg (plV lv cores rv U).toArray ∧ Rd encT 3 w lv l ∧ Rd2 w rv rs ∧ S1.inI rs := by
  obtain ⟨fuel, hf⟩ := h
  obtain ⟨xs, n, _, hx, hlen, hxl, hfl⟩ := DataW.trod_struct Try.underlying44 hf
  have hc : Try.prog.cellsOf 44 = 4 := by kernel_rfl
  rw [hc] at hlen
  have hcl : ∃ g0 g1 g2 g3, cs = #[g0, g1, g2, g3] := by
    obtain ⟨l0⟩ := cs
    match l0, hlen with
    | [g0, g1, g2, g3], _ => exact ⟨g0, g1, g2, g3, rfl⟩
  obtain ⟨g0, g1, g2, g3, rfl⟩ := hcl
  match xs, hxl, hx with
  | [y0, y1, y2, y3], _, hx =>
    have h0 := hfl 0 _ rfl
    have h1 := hfl 1 _ rfl
    have h2 := hfl 2 _ rfl
    have h3 := hfl 3 _ rfl
    have k0 : Try.prog.cellsOf 22 = 1 := by kernel_rfl
    have k2 : Try.prog.cellsOf 42 = 1 := by kernel_rfl
    simp [Value.cells, RE.c3, k0, k2] at h0 h1 h2 h3
    obtain ⟨i1, e1, _⟩ := DataW.trod_int Try.underlying3 h1
    obtain ⟨i3, e3, _⟩ := DataW.trod_int Try.underlying3 h3
    simp at e1 e3
    subst e1 e3
    have hdd : d = .agg [y0.1, y1.1, y2.1, y3.1] := by
      have := congrArg Prod.fst hx
      simpa using this
    subst hdd
    have hall := List.all_eq_true.1 hsz
    have hw : ∀ n ∈ DataW.weightsEach Try.prog [22, 3, 42, 3] [y0.1, y1.1, y2.1, y3.1], n ≤ reachBytes := fun n hn => by
      have h9 := hall n (DataW.weights_mem_each ht hd n (by
        rw [DataW.weights, Try.underlying44]
        exact hn))
      simpa using h9
    have hsz2 : (DataW.weightsEach Try.prog [22, 3, 42, 3] [y0.1, y1.1, y2.1, y3.1]).all (· ≤ reachBytes) = true := List.all_eq_true.2 fun n hn => by simpa using hw n hn
    obtain ⟨rs, hr1, hr2, _⟩ := open_rows Try.underlying42 Try.underlying37 Try.underlying3 (by kernel_rfl) (by kernel_rfl) (by kernel_rfl) (by kernel_rfl) (fun n hn => hw n (DataW.weights_mem_each (j := 2) (t := 42) rfl rfl n hn)) h2
    have hsl : ∃ a len cap, g0 = .slice a len cap := by
      rcases open_slice Try.underlying22 h0 with ⟨hcs, _⟩ | ⟨a, len, cap, m, n, D, Pl, hcs, _⟩
      · simp at hcs; exact ⟨_, _, _, hcs⟩
      · simp at hcs; exact ⟨_, _, _, hcs⟩
    obtain ⟨a, len, cap, rfl⟩ := hsl
    obtain ⟨l, _, hl⟩ := open_rd (B := 32) (fun n cs y => elemT n cs y) Try.underlying22 cT (by omega) encT_len (by kernel_rfl) (by omega) hsz2 (j := 0) (t := 22) rfl rfl ⟨n, by simpa [Value.cells] using h0⟩
    exact ⟨_, _, l, i1, rs, i3, rfl, hl, hr1, hr2⟩
end
end Go.Proofs.Ytjccenbacjhglaa.RE2
