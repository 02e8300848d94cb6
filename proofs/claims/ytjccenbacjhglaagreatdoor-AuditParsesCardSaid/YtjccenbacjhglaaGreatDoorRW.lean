/- Arguments of rows: slices of structs, opened. -/
import Derived.Test.YtjccenbacjhglaaGreatDoorM2
import Derived.Deep.Slices
import Derived.ChangeArms
import Derived.SizedLaws
import Derived.ChangeSlices
set_option linter.unusedVariables false
namespace Go.Proofs.YtjccenbacjhglaaGreatDoor.RW
open Go Go.Proofs Go.RowKit Go.ChangeShapes Go.WideShapes Go.Deep Go.Proofs.YtjccenbacjhglaaGreatDoor.K Go.Proofs.YtjccenbacjhglaaGreatDoor.M
section
variable {H : Type} {enc : TypeId × Value → H} {P : Program} {w : World} {base : Nat} {spare : Nat → Bool} {held : Bool}
theorem spot_none {w : World} {a : Addr} {v : Value} (h : w.cell? a = some v) : a.spot = none := by
  unfold World.cell? at h
  split at h
  · split at h
    · cases h
    · rename_i hs; simpa using hs
  · cases h
/-- A slice argument whose elements are encodings. -/
theorem open_rd {α : Type} {en : α → List Value} {k B : Nat} {t e : TypeId} {a : Option Addr} {len cap : Nat} {d : DataW H} {ps : List MemPlace} {ts : List TypeId} {ds : List (DataW H)} {j : Nat}
    (elem : ∀ n cs y, DataW.trod enc P w base spare held n e cs = some y → ∃ x : α, cs = en x) (hu : P.underlying t = some (.slice e)) (hk : P.cellsOf e = k) (hk0 : 0 < k) (hl : ∀ x, (en x).length = k) (hB : P.bytesOf e = B) (hB0 : 0 < B)
    (hsz : (DataW.weightsEach P ts ds).all (· ≤ reachBytes) = true) (ht : ts[j]? = some t) (hd : ds[j]? = some d)
    (h : DataW.Trod enc P w base spare held t (.slice a len cap) d ps) : ∃ xs : List α, xs.length = len ∧ Rd en k w (.slice a len cap) xs := by
  obtain ⟨fuel, hf⟩ := h
  rcases open_slice hu hf with ⟨hcs, _⟩ | ⟨x, l, c, m, n, D, Pl, hcs, _, hlc, _, hm, hx, hall⟩
  · simp [Value.cells] at hcs
    obtain ⟨rfl, rfl, rfl⟩ := hcs
    exact ⟨[], rfl, none, 0, rfl, by simp, hl, .inl rfl⟩
  · simp [Value.cells] at hcs
    obtain ⟨rfl, rfl, rfl⟩ := hcs
    have hlm : len ≤ m := by rw [hm]; split <;> omega
    have each : ∀ i, i < len → ∃ z : α, ∀ q, q < k → w.cell? (x.add (i * k + q)) = (en z)[q]? := fun i hi => by
      obtain ⟨cs, h1, h2⟩ := hall i (by omega)
      obtain ⟨z, rfl⟩ := elem _ _ _ h2
      rw [hk] at h1
      obtain ⟨_, _, h3⟩ := World.cells?_some h1
      exact ⟨z, fun q hq => by rw [← h3 q hq, add_add]⟩
    have hz := sized_slice hsz ht (by rw [hd]; exact congrArg some (congrArg Prod.fst hx)) hu
    have hlen : len ≤ 140737488355328 := by
      rw [hB] at hz
      simp only [List.length_map, List.length_range] at hz
      have h1 : len ≤ (len + (m - len)) * B := Nat.le_trans (Nat.le_add_right _ _) (Nat.le_mul_of_pos_right _ hB0)
      exact Nat.le_trans h1 (Nat.le_trans hz (by decide))
    rcases Nat.eq_zero_or_pos len with rfl | hpos
    · exact ⟨[], rfl, some x, cap, rfl, by simp, hl, .inl rfl⟩
    · obtain ⟨z0, hz0⟩ := each 0 hpos
      have hsp : x.spot = none := by
        have h1 := hz0 0 hk0
        rw [Nat.zero_mul] at h1
        have h2 : x.add (0 + 0) = x := by simp [Addr.add]
        rw [h2, List.getElem?_eq_getElem (by rw [hl]; exact hk0)] at h1
        exact spot_none h1
      haveI : Inhabited α := ⟨z0⟩
      obtain ⟨f, hf⟩ := choose_lt each
      obtain ⟨xb, xo, xs⟩ := x
      simp only at hsp
      subst hsp
      refine ⟨(List.range len).map f, by simp, some ⟨xb, xo, none⟩, cap, by simp, by simpa using hlen, hl, .inr ⟨xb, xo, rfl, fun i hi q hq => ?_⟩⟩
      have hi' : i < len := by simpa using hi
      have h1 := hf i hi' q hq
      have e1 : ((⟨xb, xo, none⟩ : Addr).add (i * k + q)) = ⟨xb, xo + i * k + q, none⟩ := by
        unfold Addr.add
        split
        · rename_i h0; rw [Nat.add_assoc, h0]; rfl
        · rw [Nat.add_assoc]
      rw [e1] at h1
      rw [h1]
      simp
end
end Go.Proofs.YtjccenbacjhglaaGreatDoor.RW
