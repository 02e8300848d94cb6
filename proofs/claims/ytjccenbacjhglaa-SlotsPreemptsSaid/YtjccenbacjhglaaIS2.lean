/- Insertion sort sorts; lists that are strictly sorted are known by what they hold. Plain. -/
import Derived.Test.YtjccenbacjhglaaIS
set_option linter.unusedVariables false
namespace Go.Proofs.Ytjccenbacjhglaa.M
open Go Go.Proofs Go.RowKit
/-- Insertion into a list that stands the other way round. -/
def insL {α : Type} (lt : α → α → Bool) (x : α) : List α → List α
  | [] => [x]
  | y :: ys => if lt x y then y :: insL lt x ys else x :: y :: ys
theorem insDn_eq {α : Type} (lt : α → α → Bool) (x : α) : ∀ (ys rest : List α), insDn lt ys.length (ys.reverse ++ x :: rest) = (insL lt x ys).reverse ++ rest
  | [], rest => by simp [insDn, insL]
  | y :: ys, rest => by
    have h1 : ((y :: ys).reverse ++ x :: rest)[ys.length + 1]? = some x := by
      rw [List.getElem?_append_right (by simp)]; simp
    have h2 : ((y :: ys).reverse ++ x :: rest)[ys.length]? = some y := by
      rw [List.reverse_cons, List.append_assoc, List.getElem?_append_right (by simp)]; simp
    simp only [List.length_cons, insDn, h1, h2, insL]
    split
    · have e : (((y :: ys).reverse ++ x :: rest).set (ys.length + 1) y).set ys.length x = ys.reverse ++ x :: (y :: rest) := by
        rw [List.set_append_right _ _ (by simp), List.reverse_cons, List.append_assoc, List.set_append_right _ _ (by simp)]
        simp
      rw [e, insDn_eq lt x ys (y :: rest)]
      simp
    · simp
def insF {α : Type} (lt : α → α → Bool) (s : List α) (rest : List α) : List α := rest.foldl (fun s x => insL lt x s) s
theorem insL_len {α : Type} (lt : α → α → Bool) (x : α) : ∀ ys : List α, (insL lt x ys).length = ys.length + 1
  | [] => rfl
  | y :: ys => by unfold insL; split <;> simp [insL_len lt x ys]
theorem insUp_eq {α : Type} (lt : α → α → Bool) : ∀ (rest s : List α), insUp lt rest.length s.length (s.reverse ++ rest) = (insF lt s rest).reverse
  | [], s => by simp [insUp, insF]
  | x :: rest, s => by
    simp only [List.length_cons, insUp]
    rw [insDn_eq lt x s rest]
    have := insUp_eq lt rest (insL lt x s)
    rw [insL_len] at this
    rw [this]; rfl
theorem isort_eq {α : Type} (lt : α → α → Bool) (xs : List α) : isort lt xs = (insF lt [] xs).reverse := by
  cases xs with
  | nil => rfl
  | cons x xs =>
    have := insUp_eq lt xs [x]
    simpa [isort, insF, insL] using this
theorem insL_mem {α : Type} {lt : α → α → Bool} {x z : α} : ∀ {ys : List α}, z ∈ insL lt x ys ↔ z = x ∨ z ∈ ys
  | [] => by simp [insL]
  | y :: ys => by
    unfold insL
    split
    · rw [List.mem_cons, insL_mem, List.mem_cons]
      constructor <;> rintro (h | h | h) <;> simp [h]
    · rw [List.mem_cons]
theorem insF_mem {α : Type} {lt : α → α → Bool} {z : α} : ∀ {xs s : List α}, z ∈ insF lt s xs ↔ z ∈ xs ∨ z ∈ s
  | [], s => by simp [insF]
  | x :: xs, s => by
    have := insF_mem (lt := lt) (z := z) (xs := xs) (s := insL lt x s)
    show z ∈ insF lt (insL lt x s) xs ↔ _
    rw [this, insL_mem, List.mem_cons]
    constructor
    · rintro (h | h | h) <;> simp [h]
    · rintro ((h | h) | h) <;> simp [h]
theorem mem_isort {α : Type} {lt : α → α → Bool} {xs : List α} {z : α} : z ∈ isort lt xs ↔ z ∈ xs := by
  rw [isort_eq, List.mem_reverse, insF_mem]; simp
/-- A strict order on the members of a list. -/
structure Tot {α : Type} (lt : α → α → Bool) (p : α → Prop) : Prop where
  asym : ∀ x y, p x → p y → lt x y = true → lt y x = false
  trans : ∀ x y z, p x → p y → p z → lt x y = true → lt y z = true → lt x z = true
theorem insL_sorted {α : Type} {lt : α → α → Bool} {p : α → Prop} (ht : Tot lt p) {x : α} (hx : p x) : ∀ {ys : List α}, (∀ y ∈ ys, p y) → (∀ y ∈ ys, lt x y = true ∨ lt y x = true) → ys.Pairwise (fun a b => lt b a = true) → (insL lt x ys).Pairwise (fun a b => lt b a = true)
  | [], _, _, _ => by simp [insL]
  | y :: ys, hp, hc, hs => by
    rw [List.pairwise_cons] at hs
    have hy := hp y (List.mem_cons_self ..)
    unfold insL
    split
    · rename_i hxy
      rw [List.pairwise_cons]
      refine ⟨fun b hb => ?_, insL_sorted ht hx (fun z hz => hp z (List.mem_cons_of_mem _ hz)) (fun z hz => hc z (List.mem_cons_of_mem _ hz)) hs.2⟩
      rcases insL_mem.1 hb with rfl | hb
      · exact hxy
      · exact hs.1 b hb
    · rename_i hxy
      have hyx : lt y x = true := by
        rcases hc y (List.mem_cons_self ..) with h | h
        · exact absurd h hxy
        · exact h
      rw [List.pairwise_cons, List.pairwise_cons]
      refine ⟨fun b hb => ?_, hs⟩
      rcases List.mem_cons.1 hb with rfl | hb'
      · exact hyx
      · exact ht.trans b y x (hp b hb) hy hx (hs.1 b hb') hyx
theorem insF_sorted {α : Type} {lt : α → α → Bool} {p : α → Prop} (ht : Tot lt p) : ∀ {xs s : List α}, (∀ x ∈ xs, p x) → (∀ x ∈ s, p x) → (∀ x ∈ xs, ∀ y ∈ s, lt x y = true ∨ lt y x = true) → xs.Pairwise (fun a b => lt a b = true ∨ lt b a = true) → s.Pairwise (fun a b => lt b a = true) → (insF lt s xs).Pairwise (fun a b => lt b a = true)
  | [], s, _, _, _, _, hs => hs
  | x :: xs, s, hp, hq, hc, hx, hs => by
    rw [List.pairwise_cons] at hx
    have h1 := hp x (List.mem_cons_self ..)
    refine insF_sorted (xs := xs) (s := insL lt x s) ht (fun z hz => hp z (List.mem_cons_of_mem _ hz)) (fun z hz => ?_) (fun z hz y hy => ?_) hx.2 (insL_sorted ht h1 hq (hc x (List.mem_cons_self ..)) hs)
    · rcases insL_mem.1 hz with rfl | hz
      · exact h1
      · exact hq z hz
    · rcases insL_mem.1 hy with rfl | hy
      · exact (hx.1 z hz).symm
      · exact hc z (List.mem_cons_of_mem _ hz) y hy
theorem isort_sorted {α : Type} {lt : α → α → Bool} {p : α → Prop} (ht : Tot lt p) {xs : List α} (hp : ∀ x ∈ xs, p x) (hc : xs.Pairwise (fun a b => lt a b = true ∨ lt b a = true)) : (isort lt xs).Pairwise (fun a b => lt a b = true) := by
  rw [isort_eq, List.pairwise_reverse]
  exact insF_sorted ht hp (fun x h => absurd h (List.not_mem_nil)) (fun x _ y h => absurd h (List.not_mem_nil)) hc List.Pairwise.nil
/-- Two strictly sorted lists with the same members. -/
theorem sorted_ext {α : Type} {R : α → α → Prop} : ∀ {xs ys : List α}, xs.Pairwise R → ys.Pairwise R → (∀ x ∈ xs, ∀ y ∈ xs, R x y → ¬ R y x) → (∀ z, z ∈ xs ↔ z ∈ ys) → xs = ys
  | [], [], _, _, _, _ => rfl
  | [], y :: ys, _, _, _, h => absurd ((h y).2 (List.mem_cons_self ..)) (List.not_mem_nil)
  | x :: xs, [], _, _, _, h => absurd ((h x).1 (List.mem_cons_self ..)) (List.not_mem_nil)
  | x :: xs, y :: ys, hx, hy, hR, h => by
    rw [List.pairwise_cons] at hx hy
    have e : x = y := by
      rcases List.mem_cons.1 ((h x).1 (List.mem_cons_self ..)) with e | h1
      · exact e
      · rcases List.mem_cons.1 ((h y).2 (List.mem_cons_self ..)) with e | h2
        · exact e.symm
        · exact absurd (hy.1 x h1) (hR x (List.mem_cons_self ..) y (List.mem_cons_of_mem _ h2) (hx.1 y h2))
    subst e
    have irr : ∀ z ∈ xs, z ≠ x := fun z hz e => by
      subst e
      exact hR z (List.mem_cons_self ..) z (List.mem_cons_self ..) (hx.1 z hz) (hx.1 z hz)
    have irr2 : ∀ z ∈ ys, z ≠ x := fun z hz e => by
      subst e
      exact hR z (List.mem_cons_self ..) z (List.mem_cons_self ..) (hy.1 z hz) (hy.1 z hz)
    rw [sorted_ext hx.2 hy.2 (fun a ha b hb => hR a (List.mem_cons_of_mem _ ha) b (List.mem_cons_of_mem _ hb)) fun z => ?_]
    constructor
    · intro hz
      rcases List.mem_cons.1 ((h z).1 (List.mem_cons_of_mem _ hz)) with e | h1
      · exact absurd e (irr z hz)
      · exact h1
    · intro hz
      rcases List.mem_cons.1 ((h z).2 (List.mem_cons_of_mem _ hz)) with e | h1
      · exact absurd e (irr2 z hz)
      · exact h1
end Go.Proofs.Ytjccenbacjhglaa.M
