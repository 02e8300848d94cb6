/- Plain models: tasks, windows, priorities. No program in sight. -/
import Derived.Test.YtjccenbacjhglaaGreatDoorK
set_option linter.unusedVariables false
namespace Go.Proofs.YtjccenbacjhglaaGreatDoor.M
open Go Go.Proofs Go.RowKit
structure Tk where
  name : ByteArray
  c : Int
  p : Int
def encT (t : Tk) : List Value := [.string t.name, .int .i64 t.c, .int .i64 t.p]
def okT (t : Tk) : Bool := !(decide (t.c < 1) || decide (t.p < t.c) || decide (1000 < t.p))
def validT (l : List Tk) : Bool := l.all okT && decide (l.length ≤ 40)
theorem encT_len (t : Tk) : (encT t).length = 3 := rfl
theorem okT_bd {t : Tk} (h : okT t = true) : 1 ≤ t.c ∧ t.c ≤ t.p ∧ t.p ≤ 1000 := by simp [okT] at h; omega
theorem validT_no {l : List Tk} (k : Nat) (hk : k < l.length) (h : okT l[k] = false) : validT l = false := by
  simp only [validT, Bool.and_eq_false_iff]
  left
  rw [List.all_eq_false]
  exact ⟨l[k], List.getElem_mem hk, by simp [h]⟩
theorem validT_one (t : Tk) : validT [t] = okT t := by simp [validT]
theorem take_all {α : Type} {f : α → Bool} {l : List α} {k : Nat} (hk : k < l.length) (h : (l.take k).all f = true) (hf : f l[k] = true) : (l.take (k + 1)).all f = true := by
  rw [List.take_succ_eq_append_getElem hk, List.all_append, h]
  simp [hf]
/-! windows -/
structure Wn where
  i : Int
  r : Int
  d : Int
def encW (x : Wn) : List Value := [.int .i64 x.i, .int .i64 x.r, .int .i64 x.d]
def winE (t : Tk) (i : Int) : Int := if okT t then (if i < 1 ∨ t.c < i then 2 else 0) else 1
def wRel (t : Tk) (i : Int) : Int := (i - 1) * t.p / t.c
def wDl (t : Tk) (i : Int) : Int := (i * t.p + t.c - 1) / t.c
def window (t : Tk) (i : Int) : Wn := if winE t i = 0 then ⟨i, wRel t i, wDl t i⟩ else ⟨0, 0, 0⟩
theorem winE0 {t : Tk} {i : Int} : winE t i = 0 ↔ okT t = true ∧ 1 ≤ i ∧ i ≤ t.c := by
  unfold winE
  cases okT t <;> simp
theorem prod_bd {a b : Int} (h1 : 0 ≤ a) (h2 : a ≤ 1000) (h3 : 0 ≤ b) (h4 : b ≤ 1000) : 0 ≤ a * b ∧ a * b ≤ 1000000 := by
  refine ⟨Int.mul_nonneg h1 h3, ?_⟩
  have := Int.mul_le_mul h2 h4 h3 (by omega)
  omega
theorem div_bd {a b m : Int} (h1 : 0 ≤ a) (h2 : a ≤ m) (h3 : 1 ≤ b) : 0 ≤ a / b ∧ a / b ≤ m := by
  refine ⟨Int.ediv_nonneg h1 (by omega), ?_⟩
  exact Int.le_trans (Int.ediv_le_self b h1) h2
theorem window_bd (t : Tk) (i : Int) : 0 ≤ (window t i).r ∧ (window t i).r ≤ 1000000 ∧ 0 ≤ (window t i).d ∧ (window t i).d ≤ 1001000 := by
  unfold window
  split
  · rename_i h
    obtain ⟨ho, h1, h2⟩ := winE0.1 h
    obtain ⟨h3, h4, h5⟩ := okT_bd ho
    have a := prod_bd (a := i - 1) (b := t.p) (by omega) (by omega) (by omega) h5
    have b := prod_bd (a := i) (b := t.p) (by omega) (by omega) (by omega) h5
    have c := div_bd (b := t.c) a.1 a.2 h3
    have d := div_bd (a := i * t.p + t.c - 1) (b := t.c) (m := 1001000) (by omega) (by omega) h3
    exact ⟨c.1, c.2, d.1, d.2⟩
  · simp
def overl (t : Tk) (i : Int) : Bool := decide (winE t i = 0) && decide (i * t.p % t.c ≠ 0)
def heavy (t : Tk) : Bool := okT t && decide (t.c < t.p) && decide (t.p ≤ 2 * t.c)
def ends (t : Tk) (k : Int) : Int := if overl t k = false then (window t k).d else if (window t k).d - (window t k).r = 3 then (window t k).d - 1 else -1
theorem ends_bd (t : Tk) (k : Int) : -1 ≤ ends t k ∧ ends t k ≤ 1001000 := by
  have := window_bd t k
  unfold ends
  split
  · omega
  · split <;> omega
/-- The number of steps from i to the first subtask that ends a group not before d; n where there is none among n. -/
def gsteps (t : Tk) (i d : Int) (n : Nat) : Nat := ((List.range n).find? fun (m : Nat) => decide (d ≤ ends t (i + (m : Int)))).getD n
def group (t : Tk) (i : Int) : Int := if winE t i ≠ 0 ∨ heavy t = false then 0 else ends t (i + (gsteps t i (window t i).d (t.c - i).toNat : Int))
theorem group_bd (t : Tk) (i : Int) : -1 ≤ group t i ∧ group t i ≤ 1001000 := by
  unfold group
  split
  · omega
  · exact ends_bd _ _
structure Cd where
  n : Int
  t : Tk
  r : Int
  i : Int
def encC (x : Cd) : List Value := [.int .i64 x.n, .string x.t.name, .int .i64 x.t.c, .int .i64 x.t.p, .int .i64 x.r, .int .i64 x.i]
def cgroup (x : Cd) : Int := if heavy x.t = false then 0 else x.r + group x.t x.i
def before (a b : Cd) : Bool :=
  if winE a.t a.i ≠ 0 ∨ winE b.t b.i ≠ 0 then false
  else if a.r + (window a.t a.i).d ≠ b.r + (window b.t b.i).d then decide (a.r + (window a.t a.i).d < b.r + (window b.t b.i).d)
  else if overl a.t a.i ≠ overl b.t b.i then overl a.t a.i
  else if overl a.t a.i = true ∧ cgroup a ≠ cgroup b then decide (cgroup b < cgroup a)
  else decide (a.n < b.n)
def cmpInt (a b : Int) : Int := if a < b then -1 else if b < a then 1 else 0
end Go.Proofs.YtjccenbacjhglaaGreatDoor.M
