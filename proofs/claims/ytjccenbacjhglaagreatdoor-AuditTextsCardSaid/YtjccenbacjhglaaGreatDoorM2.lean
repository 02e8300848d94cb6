/- Plain models of the audit: events, jobs, the auditor. No program in sight. -/
import Derived.Test.YtjccenbacjhglaaGreatDoorM
import Derived.Test.YtjccenbacjhglaaGreatDoorIS
set_option linter.unusedVariables false
namespace Go.Proofs.YtjccenbacjhglaaGreatDoor.M
open Go Go.Proofs Go.RowKit
/-- An event: slot, core, task, job, kind, value, cycle, port. -/
structure Ev where
  s : Int
  c : Int
  t : Int
  j : Int
  k : Int
  v : Int
  cy : Int
  po : Int
  deriving DecidableEq
def encE (e : Ev) : List Value := [.int .i64 e.s, .int .i64 e.c, .int .i64 e.t, .int .i64 e.j, .int .u8 e.k, .int .i64 e.v, .int .i64 e.cy, .int .i64 e.po]
structure Jb where
  no : Int
  rel : Int
  done : Int
  ran : Int
  core : Int
  deriving DecidableEq
def encJ (j : Jb) : List Value := [.int .i64 j.no, .int .i64 j.rel, .int .i64 j.done, .int .i64 j.ran, .int .i64 j.core]
structure Au where
  l : List Tk
  cores : Int
  js : List (Option Jb)
  cnt : List Int
  last : List Int
  slot : Int
  phase : Int
  due : List Ev
  newest : Int
def phaseOf (k : Int) : Int := if k = 6 then 1 else if k = 1 then 2 else if k = 2 then 3 else if k = 3 ∨ k = 4 ∨ k = 7 then 4 else if k = 5 then 5 else 0
/-- What a row of numbers 0 .. n - 1 yields. -/
def upTo {α : Type} (f : Nat → Option α) (n : Nat) : List α := (List.range n).filterMap f
theorem upTo_succ {α : Type} (f : Nat → Option α) (n : Nat) : upTo f (n + 1) = upTo f n ++ (f n).toList := by
  unfold upTo
  rw [List.range_succ, List.filterMap_append]
  cases h : f n <;> simp [h]
theorem upTo_no {α : Type} {f : Nat → Option α} {n : Nat} (h : f n = none) : upTo f (n + 1) = upTo f n := by rw [upTo_succ, h]; simp
theorem upTo_yes {α : Type} {f : Nat → Option α} {n : Nat} {x : α} (h : f n = some x) : upTo f (n + 1) = upTo f n ++ [x] := by rw [upTo_succ, h]; rfl
theorem upTo_len {α : Type} (f : Nat → Option α) (n : Nat) : (upTo f n).length ≤ n := by
  have := List.length_filterMap_le f (List.range n)
  simpa [upTo] using this
theorem mem_upTo {α : Type} {f : Nat → Option α} {n : Nat} {x : α} : x ∈ upTo f n ↔ ∃ i, i < n ∧ f i = some x := by simp [upTo]
def job (a : Au) (i : Nat) : Option Jb := (a.js[i]?).join
def lateF (a : Au) (i : Nat) : Option Ev := match job a i, a.l[i]? with
  | some j, some t => if j.rel + t.p ≤ a.slot then some ⟨a.slot, -1, (i : Int), j.no, 6, j.done, 0, 0⟩ else none
  | _, _ => none
def late (a : Au) : List Ev := upTo (lateF a) a.js.length
def candF (a : Au) (i : Nat) : Option Cd := match job a i, a.l[i]? with
  | some j, some t => if winE t (j.done + 1) = 0 ∧ j.rel + (window t (j.done + 1)).r ≤ a.slot then some ⟨(i : Int), t, j.rel, j.done + 1⟩ else none
  | _, _ => none
def cmpC (x y : Cd) : Int := if before x y then -1 else 1
def cands (a : Au) : List Cd := (isort (fun x y => decide (cmpC x y < 0)) (upTo (candF a) a.js.length)).take a.cores.toNat
/-- Where a job that keeps its core goes; the others move. -/
def keepC (a : Au) : List Cd → List Int × List Int → List Int × List Int
  | [], s => s
  | c :: cs, s => keepC a cs (match job a c.n.toNat with
    | some j => if 0 ≤ j.ran ∧ j.ran = a.slot - 1 then (s.1.set j.core.toNat c.n, s.2) else (s.1, s.2 ++ [c.n])
    | none => s)
def place : List Int → List Int → List Int
  | [], on => on
  | i :: is, on => place is (on.set (on.idxOf (-1)) i)
def onF (a : Au) (on : List Int) (core : Nat) : Option Ev := match on[core]? with
  | some i => if 0 ≤ i then match job a i.toNat with
    | some j => some ⟨a.slot, (core : Int), i, j.no, 2, j.done + 1, 0, 0⟩
    | none => none
    else none
  | none => none
def seated (a : Au) : List Int := place (keepC a (cands a) (List.replicate a.cores.toNat (-1), [])).2 (keepC a (cands a) (List.replicate a.cores.toNat (-1), [])).1
def selection (a : Au) : List Ev := upTo (onF a (seated a)) a.cores.toNat
def cutF (a : Au) (i : Nat) : Option Ev := match job a i, a.l[i]? with
  | some j, some t => if j.ran = a.slot ∧ j.done = t.c then some ⟨a.slot, j.core, (i : Int), j.no, 5, j.done, 0, 0⟩ else none
  | _, _ => none
def cutoff (a : Au) : List Ev := isort (fun x y : Ev => decide (x.c - y.c < 0)) (upTo (cutF a) a.js.length)
def required (a : Au) : List Ev := if a.phase = 1 then late a else if a.phase = 3 then selection a else if a.phase = 5 then cutoff a else []
def begin0 (a : Au) (s p : Int) : Au := { a with slot := s, phase := p, due := [], newest := if p = 1 then -1 else a.newest }
def beginA (a : Au) (s p : Int) : Au := { begin0 a s p with due := required (begin0 a s p) }
def setJ (a : Au) (i : Nat) (j : Option Jb) : Au := { a with js := a.js.set i j }
def next (a : Au) (e : Ev) : Option Au := match a.due with
  | [] => none
  | d :: ds => if e ≠ { d with cy := e.cy, po := e.po } then none
    else if e.k ≠ 2 then some { a with due := ds, js := a.js.set e.t.toNat none }
    else match job a e.t.toNat with
      | some j => some { a with due := ds, js := a.js.set e.t.toNat (some { j with done := j.done + 1, ran := a.slot, core := e.c }) }
      | none => none
def cntAt (a : Au) (i : Nat) : Int := (a.cnt[i]?).getD 0
def lastAt (a : Au) (i : Nat) : Int := (a.last[i]?).getD 0
def perAt (a : Au) (i : Nat) : Int := ((a.l[i]?).map (·.p)).getD 0
def release (a : Au) (e : Ev) : Option Au :=
  let i := e.t.toNat
  if e.t ≤ a.newest ∨ (job a i).isSome = true ∨ (0 < cntAt a i ∧ a.slot - lastAt a i < perAt a i) ∨ e.j ≠ cntAt a i ∨ e.c ≠ -1 ∨ e.v ≠ 0 then none
  else some { a with js := a.js.set i (some ⟨e.j, a.slot, 0, -1, 0⟩), cnt := a.cnt.set i (cntAt a i + 1), last := a.last.set i a.slot, newest := e.t }
def run (a : Au) (e : Ev) : Option Au := match job a e.t.toNat with
  | none => none
  | some j => if j.no ≠ e.j ∨ j.ran ≠ a.slot ∨ j.core ≠ e.c ∨ (e.k = 3 ∧ e.v ≠ 0) then none
    else some (if e.k ≠ 7 then { a with js := a.js.set e.t.toNat none } else a)
def accept (p : Int) (a : Au) (e : Ev) : Option Au := if p = 2 then release a e else if p = 4 then run a e else next a e
def adv : Nat → Au → Int → Int → Au × Int
  | 0, a, _, _ => (a, 0)
  | n + 1, a, s, p => if a.slot < s ∨ a.phase < p then
      if a.due ≠ [] then (a, a.phase + 2)
      else if a.phase < 5 then adv n (beginA a a.slot (a.phase + 1)) s p else adv n (beginA a (a.slot + 1) 1) s p
    else (a, 0)
def advM (a : Au) (s : Int) : Nat := (5 * (s - a.slot) + (5 - a.phase)).toNat
def advance (a : Au) (s p : Int) : Au × Int := adv (advM a s) a s p
/-- What an event does: the auditor behind it, and the rule that it breaks, or 0. -/
def examine (a : Au) (e : Ev) : Au × Int :=
  if e.s < a.slot ∨ 100000 < e.s ∨ (e.s = a.slot ∧ 0 < phaseOf e.k ∧ phaseOf e.k < a.phase) then (a, 1)
  else if phaseOf e.k = 0 ∨ e.t < 0 ∨ (a.l.length : Int) ≤ e.t then (a, 2)
  else
    let r := advance a e.s (phaseOf e.k)
    if 0 < r.2 then r
    else match accept (phaseOf e.k) r.1 e with
      | some b => (b, 0)
      | none => (r.1, phaseOf e.k + 2)
def examineAll : Au → Nat → List Ev → Au × Option (Int × Int)
  | a, _, [] => (a, none)
  | a, i, e :: es => let r := examine a e; if 0 < r.2 then (r.1, some ((i : Int), r.2)) else examineAll r.1 (i + 1) es
def newA (l : List Tk) (cores : Int) : Au := ⟨l, cores, List.replicate l.length none, List.replicate l.length 0, List.replicate l.length 0, 0, 0, [], 0⟩
def checkA (l : List Tk) (cores : Int) (tr : List Ev) : Option (Int × Int) :=
  if validT l = false ∨ cores < 1 ∨ 4 < cores then some (0, 0)
  else
    let r := examineAll (beginA (newA l cores) 0 1) 0 tr
    match r.2 with
    | some x => some x
    | none =>
      if tr = [] then none
      else
        let q := advance r.1 r.1.slot 5
        if 0 < q.2 then some ((tr.length : Int), q.2)
        else if q.1.due ≠ [] then some ((tr.length : Int), 7) else none
def lates (l : List Tk) (tr : List Ev) : List Int := (List.range l.length).map fun (i : Nat) => ((tr.filter fun e => decide (e.k = 6) && decide (e.t = (i : Int))).length : Int)
end Go.Proofs.YtjccenbacjhglaaGreatDoor.M
