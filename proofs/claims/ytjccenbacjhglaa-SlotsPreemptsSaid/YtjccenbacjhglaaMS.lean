/- Plain models of slot schedules. No program in sight. -/
import Derived.Test.YtjccenbacjhglaaM2
set_option linter.unusedVariables false
namespace Go.Proofs.Ytjccenbacjhglaa.M
open Go Go.Proofs Go.RowKit
def eI (x : Int) : List Value := [.int .i64 x]
def eV (v : Value) : List Value := [v]
/-- A miss: task, release, done. -/
structure Ms where
  t : Int
  r : Int
  d : Int
  deriving DecidableEq
def encM (x : Ms) : List Value := [.int .i64 x.t, .int .i64 x.r, .int .i64 x.d]
/-- A plan in progress. -/
structure Rn where
  job : List Nat
  done : List Int
  ms : List Ms
def relAt (rs : List (List Int)) (i k : Nat) : Option Int := (rs[i]?).bind (·[k]?)
def jobAt (s : Rn) (i : Nat) : Nat := (s.job[i]?).getD 0
def doneAt (s : Rn) (i : Nat) : Int := (s.done[i]?).getD 0
/-- Plans that are valid. -/
def ValidS (l : List Tk) (cores : Int) (rs : List (List Int)) : Prop := validT l = true ∧ 1 ≤ cores ∧ cores ≤ 8 ∧ rs.length = l.length ∧ ∀ i (h : i < rs.length) (h' : i < l.length), rs[i].length ≤ 10000 ∧ ∀ k (hk : k < rs[i].length), 0 ≤ rs[i][k] ∧ (0 < k → l[i].p ≤ rs[i][k] - rs[i][k - 1])
noncomputable def validS (l : List Tk) (cores : Int) (rs : List (List Int)) : Bool := @decide (ValidS l cores rs) (Classical.propDecidable _)
theorem validS_yes {l : List Tk} {cores : Int} {rs : List (List Int)} (h : ValidS l cores rs) : validS l cores rs = true := by unfold validS; exact @decide_eq_true _ (Classical.propDecidable _) h
theorem validS_no {l : List Tk} {cores : Int} {rs : List (List Int)} (h : ¬ ValidS l cores rs) : validS l cores rs = false := by unfold validS; exact @decide_eq_false _ (Classical.propDecidable _) h
theorem validS_out {l : List Tk} {cores : Int} {rs : List (List Int)} (h : validS l cores rs = true) : ValidS l cores rs := by unfold validS at h; exact @of_decide_eq_true _ (Classical.propDecidable _) h
def endF (l : List Tk) (rs : List (List Int)) (slot : Int) (s : Rn) (i : Nat) : Option Int := match l[i]?, relAt rs i (jobAt s i) with
  | some t, some r => if r ≤ slot - t.p then some (i : Int) else none
  | _, _ => none
def costAt (l : List Tk) (i : Nat) : Int := ((l[i]?).map (·.c)).getD 0
def missOf (l : List Tk) (rs : List (List Int)) (s : Rn) (i : Nat) : List Ms := if doneAt s i < costAt l i then [⟨(i : Int), (relAt rs i (jobAt s i)).getD 0, doneAt s i⟩] else []
def stepEnd (l : List Tk) (rs : List (List Int)) (s : Rn) (i : Int) : Rn := { job := s.job.set i.toNat (jobAt s i.toNat + 1), done := s.done.set i.toNat 0, ms := s.ms ++ missOf l rs s i.toNat }
def endsS (l : List Tk) (rs : List (List Int)) (slot : Int) (s : Rn) : List Int := upTo (endF l rs slot s) l.length
def beginS (l : List Tk) (rs : List (List Int)) (slot : Int) (s : Rn) : Rn := (endsS l rs slot s).foldl (stepEnd l rs) s
def pendS (l : List Tk) (rs : List (List Int)) (s : Rn) (i : Nat) (slot : Int) : Bool := match l[i]?, relAt rs i (jobAt s i) with
  | some t, some r => decide (r ≤ slot) && decide (doneAt s i < t.c)
  | _, _ => false
def candS (l : List Tk) (rs : List (List Int)) (slot : Int) (s : Rn) (i : Nat) : Option Cd := match l[i]?, relAt rs i (jobAt s i) with
  | some t, some r => if pendS l rs s i slot = true ∧ winE t (doneAt s i + 1) = 0 ∧ r + (window t (doneAt s i + 1)).r ≤ slot then some ⟨(i : Int), t, r, doneAt s i + 1⟩ else none
  | _, _ => none
def ltI (x y : Int) : Bool := decide (x < y)
def topS (l : List Tk) (rs : List (List Int)) (slot cores : Int) (s : Rn) : List Cd := (isort (fun x y => decide (cmpC x y < 0)) (upTo (candS l rs slot s) l.length)).take cores.toNat
def chooseS (l : List Tk) (rs : List (List Int)) (slot cores : Int) (s : Rn) : List Int := isort ltI ((topS l rs slot cores s).map (·.n))
def tick (d : List Int) (i : Int) : List Int := d.set i.toNat ((d[i.toNat]?).getD 0 + 1)
def runS (s : Rn) (run : List Int) : Rn := { s with done := run.foldl tick s.done }
def newS (n : Nat) : Rn := ⟨List.replicate n 0, List.replicate n 0, []⟩
/-- The first slots. -/
def simTo (l : List Tk) (rs : List (List Int)) (cores : Int) : Nat → Rn × List (List Int)
  | 0 => (newS l.length, [])
  | n + 1 =>
    let p := simTo l rs cores n
    let b := beginS l rs (n : Int) p.1
    let run := chooseS l rs (n : Int) cores b
    (runS b run, p.2 ++ [run])
def simOut (l : List Tk) (rs : List (List Int)) (cores : Int) (n : Nat) : List (List Int) := (simTo l rs cores n).2
def simMs (l : List Tk) (rs : List (List Int)) (cores : Int) (n : Nat) : List Ms := (beginS l rs (n : Int) (simTo l rs cores n).1).ms
/-- What a schedule's slot breaks: 3 form, 20 load, 14 state, or 0. -/
def formOk (n : Nat) (run : List Int) : Bool := (List.range run.length).all fun k => match run[k]?, run[k - 1]? with
  | some x, some y => decide (0 ≤ x) && decide (x < n) && (decide (k = 0) || decide (y < x))
  | _, _ => true
def checkS (l : List Tk) (rs : List (List Int)) (s : Rn) (run : List Int) (slot cores : Int) : Int :=
  if formOk l.length run = false then 3
  else if cores < run.length then 20
  else if run.any (fun i => !pendS l rs s i.toNat slot) then 14 else 0
/-- A schedule's slots, one by one; the error, or 0. -/
def chkTo (l : List Tk) (rs : List (List Int)) (cores : Int) (sch : List (List Int)) : Nat → Rn × Int
  | 0 => (newS l.length, 0)
  | n + 1 =>
    let p := chkTo l rs cores sch n
    if p.2 ≠ 0 then p
    else
      let b := beginS l rs (n : Int) p.1
      match sch[n]? with
      | none => p
      | some run => if checkS l rs b run (n : Int) cores ≠ 0 then (b, checkS l rs b run (n : Int) cores) else (runS b run, 0)
/-- Preemptions: how often so far, the last slot or -1. -/
def preTo (sch : List (List Int)) (task : Int) : Nat → Int × Int
  | 0 => (0, -1)
  | n + 1 =>
    let p := preTo sch task n
    match sch[n]? with
    | none => p
    | some run => if task ∈ run then ((if 0 ≤ p.2 ∧ p.2 < (n : Int) - 1 then p.1 + 1 else p.1), (n : Int)) else p
def preS (sch : List (List Int)) (task : Int) : Int := (preTo sch task sch.length).1
end Go.Proofs.Ytjccenbacjhglaa.M
