/- Group deadlines: the reference's search finds the same. No program in sight. -/
import Derived.Test.YtjccenbacjhglaaM
set_option linter.unusedVariables false
namespace Go.Proofs.Ytjccenbacjhglaa.M
open Go Go.Proofs Go.RowKit
theorem wDl_lt {t : Tk} (ho : okT t = true) {k : Int} (h1 : 0 ≤ k) : wDl t k + 1 ≤ wDl t (k + 1) := by
  obtain ⟨a, b, c⟩ := okT_bd ho
  unfold wDl
  have e : (k + 1) * t.p + t.c - 1 = (k * t.p + t.c - 1) + t.p := by rw [Int.add_mul]; omega
  have e2 : (k * t.p + t.c - 1) / t.c + 1 = ((k * t.p + t.c - 1) + 1 * t.c) / t.c := by rw [Int.add_mul_ediv_right _ _ (by omega)]
  rw [e, e2]
  exact Int.ediv_le_ediv (by omega) (by omega)
theorem wDl_mono {t : Tk} (ho : okT t = true) {k : Int} (h1 : 0 ≤ k) : ∀ (n : Nat), wDl t k + (n : Int) ≤ wDl t (k + (n : Int))
  | 0 => by simp
  | n + 1 => by
    have h := wDl_mono ho h1 n
    have h2 := wDl_lt ho (show 0 ≤ k + (n : Int) by omega)
    have e : k + ((n + 1 : Nat) : Int) = k + (n : Int) + 1 := by omega
    rw [e]; omega
theorem wDl_le {t : Tk} (ho : okT t = true) {k l : Int} (h1 : 0 ≤ k) (h : k ≤ l) : wDl t k + (l - k) ≤ wDl t l := by
  have := wDl_mono ho h1 (l - k).toNat
  rw [Int.toNat_of_nonneg (by omega), show k + (l - k) = l by omega] at this
  exact this
theorem wDl_last {t : Tk} (ho : okT t = true) : wDl t t.c = t.p := by
  obtain ⟨a, b, c⟩ := okT_bd ho
  unfold wDl
  rw [show t.c * t.p + t.c - 1 = (t.c - 1) + t.p * t.c by rw [Int.mul_comm]; omega, Int.add_mul_ediv_right _ _ (by omega), Int.ediv_eq_zero_of_lt (by omega) (by omega)]
  omega
theorem overl_last {t : Tk} (ho : okT t = true) : overl t t.c = false := by
  unfold overl
  have : t.c * t.p % t.c = 0 := Int.mul_emod_right _ _
  simp [this]
theorem overl_in {t : Tk} {k : Int} (h : winE t k = 0) : overl t k = decide (k * t.p % t.c ≠ 0) := by simp [overl, h]
theorem window_in {t : Tk} {k : Int} (h : winE t k = 0) : window t k = ⟨k, wRel t k, wDl t k⟩ := by simp [window, h]
theorem heavy_bd {t : Tk} (h : heavy t = true) : okT t = true ∧ t.c < t.p ∧ t.p ≤ 2 * t.c := by
  simp [heavy] at h
  exact ⟨h.1.1, h.1.2, h.2⟩
/-- A window of three slots overlaps the next one. -/
theorem three {t : Tk} (h : heavy t = true) {k : Int} (h1 : 1 ≤ k) (hw : wDl t k - wRel t k = 3) (hk : winE t k = 0) : overl t k = true := by
  obtain ⟨ho, h2, h3⟩ := heavy_bd h
  rw [overl_in hk, decide_eq_true_iff]
  intro h0
  have hc : 0 < t.c := by have := (okT_bd ho).1; omega
  have hd : t.c * (k * t.p / t.c) = k * t.p := by have := Int.mul_ediv_add_emod (k * t.p) t.c; omega
  generalize hq : k * t.p / t.c = q at hd
  have e1 : wDl t k = q := by
    unfold wDl
    rw [← hd, show t.c * q + t.c - 1 = (t.c - 1) + q * t.c by rw [Int.mul_comm]; omega, Int.add_mul_ediv_right _ _ (by omega), Int.ediv_eq_zero_of_lt (by omega) (by omega)]
    omega
  have e2 : q - 2 ≤ wRel t k := by
    unfold wRel
    refine (Int.le_ediv_iff_mul_le hc).2 ?_
    rw [Int.sub_mul, Int.sub_mul, ← hd, Int.mul_comm q]
    omega
  omega
/-- What the reference looks for. -/
def hit (t : Tk) (s k : Int) : Prop := (s = wDl t k ∧ overl t k = false) ∨ (s + 1 = wDl t k ∧ wDl t k - wRel t k = 3)
theorem hit_ends {t : Tk} (h : heavy t = true) {s k : Int} (h1 : 1 ≤ k) (h2 : k ≤ t.c) (hh : hit t s k) : ends t k = s := by
  have ho := (heavy_bd h).1
  have hw : winE t k = 0 := winE0.2 ⟨ho, h1, h2⟩
  unfold ends
  rw [window_in hw]
  rcases hh with ⟨e, hv⟩ | ⟨e, hv⟩
  · rw [if_pos hv]; exact e.symm
  · have := three h h1 hv hw
    rw [if_neg (by rw [this]; decide), if_pos hv]
    simp only
    omega
theorem ends_hit {t : Tk} {k d : Int} (hw : winE t k = 0) (h : d ≤ ends t k) (hd : 0 ≤ d) : hit t (ends t k) k ∧ ends t k ≤ wDl t k ∧ wDl t k - 1 ≤ ends t k := by
  unfold ends at *
  rw [window_in hw] at *
  split at h
  · rename_i h1
    rw [if_pos h1]
    exact ⟨.inl ⟨rfl, h1⟩, Int.le_refl _, by simp only; omega⟩
  · rename_i h1
    rw [if_neg h1]
    split at h
    · rename_i h2
      rw [if_pos h2]
      simp only at h2 ⊢
      exact ⟨.inr ⟨by omega, h2⟩, by omega, by omega⟩
    · omega
theorem ends_le {t : Tk} {k : Int} (hw : winE t k = 0) (hk : 0 ≤ wDl t k) : ends t k ≤ wDl t k := by
  unfold ends
  rw [window_in hw]
  split
  · exact Int.le_refl _
  · split
    · show wDl t k - 1 ≤ wDl t k; omega
    · omega
/-- The group deadline is the first slot from the deadline on at which a group ends. -/
theorem group_first {t : Tk} (h : heavy t = true) {i : Int} (h1 : 1 ≤ i) (h2 : i ≤ t.c) : wDl t i ≤ group t i ∧ group t i ≤ t.p ∧ (∃ k, 1 ≤ k ∧ k ≤ t.c ∧ hit t (group t i) k) ∧ ∀ s, wDl t i ≤ s → s < group t i → ∀ k, 1 ≤ k → k ≤ t.c → ¬ hit t s k := by
  obtain ⟨ho, h3, h4⟩ := heavy_bd h
  have hw : winE t i = 0 := winE0.2 ⟨ho, h1, h2⟩
  have hd0 : 0 ≤ wDl t i := by
    have := window_bd t i
    rw [window_in hw] at this
    exact this.2.2.1
  -- the subtask that ends the group
  have key : ∃ k : Int, group t i = ends t k ∧ i ≤ k ∧ k ≤ t.c ∧ wDl t i ≤ ends t k ∧ ∀ l, i ≤ l → l < k → ends t l < wDl t i := by
    unfold group
    rw [if_neg (by simp [hw, h]), window_in hw]
    unfold gsteps
    cases hf : (List.range (t.c - i).toNat).find? (fun (m : Nat) => decide (wDl t i ≤ ends t (i + (m : Int)))) with
    | some m =>
      rw [List.find?_range_eq_some] at hf
      obtain ⟨f1, f2, f3⟩ := hf
      have f2 : m < (t.c - i).toNat := by simpa using f2
      refine ⟨i + (m : Int), rfl, by omega, by omega, by simpa using f1, fun l hl1 hl2 => ?_⟩
      have := f3 (l - i).toNat (by omega)
      rw [Int.toNat_of_nonneg (by omega), show i + (l - i) = l by omega] at this
      simpa using this
    | none =>
      rw [List.find?_eq_none] at hf
      refine ⟨t.c, ?_, h2, Int.le_refl _, ?_, fun l hl1 hl2 => ?_⟩
      · simp only [Option.getD_none]
        rw [Int.toNat_of_nonneg (by omega), show i + (t.c - i) = t.c by omega]
      · have hwc : winE t t.c = 0 := winE0.2 ⟨ho, by omega, Int.le_refl _⟩
        unfold ends
        rw [if_pos (overl_last ho), window_in hwc]
        have := wDl_le ho (show 0 ≤ i by omega) h2
        show wDl t i ≤ wDl t t.c
        omega
      · have := hf (l - i).toNat (List.mem_range.2 (by omega))
        rw [Int.toNat_of_nonneg (by omega), show i + (l - i) = l by omega] at this
        simpa using this
  obtain ⟨k, e, k1, k2, k3, k4⟩ := key
  have hwk : winE t k = 0 := winE0.2 ⟨ho, by omega, k2⟩
  obtain ⟨c1, c2, c3⟩ := ends_hit hwk k3 hd0
  rw [e]
  refine ⟨k3, ?_, ⟨k, by omega, k2, c1⟩, fun s s1 s2 l l1 l2 hl => ?_⟩
  · have := wDl_le ho (show 0 ≤ k by omega) k2
    rw [wDl_last ho] at this
    omega
  · have hwl : winE t l = 0 := winE0.2 ⟨ho, l1, l2⟩
    have e1 := hit_ends h l1 l2 hl
    rcases Int.lt_or_le l i with h5 | h5
    · have := wDl_le ho (show 0 ≤ l by omega) (show l ≤ i by omega)
      have hl0 : 0 ≤ wDl t l := by
        have := window_bd t l
        rw [window_in hwl] at this
        exact this.2.2.1
      have := ends_le hwl hl0
      omega
    · rcases Int.lt_or_le l k with h6 | h6
      · have := k4 l h5 h6; omega
      · rcases Int.lt_or_le k l with h7 | h7
        · have h8 := wDl_le ho (show 0 ≤ k by omega) (show k ≤ l by omega)
          obtain ⟨d1, d2, d3⟩ := ends_hit hwl (d := wDl t i) (by omega) hd0
          omega
        · obtain rfl : l = k := by omega
          omega
theorem group_eq {t : Tk} (h : heavy t = true) {i : Int} (h1 : 1 ≤ i) (h2 : i ≤ t.c) {s : Int} (hs : wDl t i ≤ s) (hh : ∃ k, 1 ≤ k ∧ k ≤ t.c ∧ hit t s k) (hno : ∀ r, wDl t i ≤ r → r < s → ∀ k, 1 ≤ k → k ≤ t.c → ¬ hit t r k) : group t i = s := by
  obtain ⟨a, b, ⟨k, k1, k2, k3⟩, d⟩ := group_first h h1 h2
  obtain ⟨l, l1, l2, l3⟩ := hh
  rcases Int.lt_or_le s (group t i) with h5 | h5
  · exact absurd l3 (d s hs h5 l l1 l2)
  · rcases Int.lt_or_le (group t i) s with h6 | h6
    · exact absurd k3 (hno _ a h6 k k1 k2)
    · omega
end Go.Proofs.Ytjccenbacjhglaa.M
