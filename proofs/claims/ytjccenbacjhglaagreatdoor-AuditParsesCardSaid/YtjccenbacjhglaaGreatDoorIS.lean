/- Insertion sort, plain. -/
import Derived.Test.YtjccenbacjhglaaGreatDoorK
set_option linter.unusedVariables false
namespace Go.Proofs.YtjccenbacjhglaaGreatDoor.M
open Go Go.Proofs Go.RowKit
/-- Insertion, as Go's text does it: element j goes down while it is less than the one below. -/
def insDn {α : Type} (lt : α → α → Bool) : Nat → List α → List α
  | 0, xs => xs
  | j + 1, xs => match xs[j + 1]?, xs[j]? with
    | some x, some y => if lt x y then insDn lt j ((xs.set (j + 1) y).set j x) else xs
    | _, _ => xs
def insUp {α : Type} (lt : α → α → Bool) : Nat → Nat → List α → List α
  | 0, _, xs => xs
  | f + 1, i, xs => insUp lt f (i + 1) (insDn lt i xs)
def isort {α : Type} (lt : α → α → Bool) (xs : List α) : List α := insUp lt (xs.length - 1) 1 xs
theorem insDn_yes {α : Type} {lt : α → α → Bool} {j : Nat} {xs : List α} (hj : j + 1 < xs.length) (h : lt xs[j + 1] xs[j] = true) : insDn lt (j + 1) xs = insDn lt j ((xs.set (j + 1) xs[j]).set j xs[j + 1]) := by
  rw [insDn, List.getElem?_eq_getElem hj, List.getElem?_eq_getElem (show j < xs.length by omega)]
  simp only [h, if_true]
theorem insDn_no {α : Type} {lt : α → α → Bool} {j : Nat} {xs : List α} (hj : j + 1 < xs.length) (h : lt xs[j + 1] xs[j] = false) : insDn lt (j + 1) xs = xs := by
  rw [insDn, List.getElem?_eq_getElem hj, List.getElem?_eq_getElem (show j < xs.length by omega)]
  simp [h]
theorem insDn_len {α : Type} (lt : α → α → Bool) : ∀ (j : Nat) (xs : List α), (insDn lt j xs).length = xs.length
  | 0, xs => rfl
  | j + 1, xs => by
    unfold insDn
    split
    · split
      · rw [insDn_len]; simp
      · rfl
    · rfl
theorem swap_mem {α : Type} {xs : List α} {i j : Nat} (hi : i < xs.length) (hj : j < xs.length) {x : α} (h : x ∈ (xs.set i xs[j]).set j xs[i]) : x ∈ xs := by
  rcases List.mem_or_eq_of_mem_set h with h | h
  · rcases List.mem_or_eq_of_mem_set h with h | h
    · exact h
    · subst h; exact List.getElem_mem hj
  · subst h; exact List.getElem_mem hi
theorem insUp_len {α : Type} (lt : α → α → Bool) : ∀ (f i : Nat) (xs : List α), (insUp lt f i xs).length = xs.length
  | 0, i, xs => rfl
  | f + 1, i, xs => by rw [insUp, insUp_len, insDn_len]
theorem isort_len {α : Type} (lt : α → α → Bool) (xs : List α) : (isort lt xs).length = xs.length := insUp_len _ _ _ _
theorem insDn_mem {α : Type} (lt : α → α → Bool) : ∀ (j : Nat) (xs : List α) {x : α}, x ∈ insDn lt j xs → x ∈ xs
  | 0, xs, x, h => h
  | j + 1, xs, x, h => by
    unfold insDn at h
    split at h
    · rename_i y z h1 h2
      split at h
      · obtain ⟨hj1, rfl⟩ := List.getElem?_eq_some_iff.1 h1
        obtain ⟨hj2, rfl⟩ := List.getElem?_eq_some_iff.1 h2
        exact swap_mem hj1 hj2 (insDn_mem lt j _ h)
      · exact h
    · exact h
theorem insUp_mem {α : Type} (lt : α → α → Bool) : ∀ (f i : Nat) (xs : List α) {x : α}, x ∈ insUp lt f i xs → x ∈ xs
  | 0, i, xs, x, h => h
  | f + 1, i, xs, x, h => insDn_mem lt i xs (insUp_mem lt f (i + 1) _ h)
theorem isort_mem {α : Type} {lt : α → α → Bool} {xs : List α} {x : α} (h : x ∈ isort lt xs) : x ∈ xs := insUp_mem lt _ _ xs h
end Go.Proofs.YtjccenbacjhglaaGreatDoor.M
