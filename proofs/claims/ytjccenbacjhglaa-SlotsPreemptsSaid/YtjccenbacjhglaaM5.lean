/- Plain models of the reference for the audit. No program in sight. -/
import Derived.Test.YtjccenbacjhglaaM2
set_option linter.unusedVariables false
namespace Go.Proofs.Ytjccenbacjhglaa.M
open Go Go.Proofs Go.RowKit
/-- A task's state: jobs so far, the release, the slots in which it ran, the last of them, its core, whether a job is active. -/
structure Rj where
  cnt : Int
  rel : Int
  runs : Int
  slot : Int
  core : Int
  act : Bool
def encRJ (j : Rj) : List Value := [.int .i64 j.cnt, .int .i64 j.rel, .int .i64 j.runs, .int .i64 j.slot, .int .i64 j.core, .bool j.act]
/-- An event: slot, core, task, job, kind, value. -/
structure Re where
  s : Int
  c : Int
  t : Int
  j : Int
  k : Int
  v : Int
  deriving DecidableEq
def encRE (e : Re) : List Value := [.int .i64 e.s, .int .i64 e.c, .int .i64 e.t, .int .i64 e.j, .int .u8 e.k, .int .i64 e.v]
def bareE (e : Ev) : Re := ⟨e.s, e.c, e.t, e.j, e.k, e.v⟩
def encRC (x : Cd) : List Value := [.int .i64 x.n, .int .i64 x.t.c, .int .i64 x.t.p, .int .i64 x.r, .int .i64 x.i]
structure Rm where
  l : List Tk
  cores : Int
  js : List Rj
  slot : Int
  phase : Int
  need : List Re
  last : Int
def rLateF (m : Rm) (i : Nat) : Option Re := match m.js[i]?, m.l[i]? with
  | some j, some t => if j.act = true ∧ j.rel + t.p ≤ m.slot then some ⟨m.slot, -1, (i : Int), j.cnt - 1, 6, j.runs⟩ else none
  | _, _ => none
def rLate (m : Rm) : List Re := upTo (rLateF m) m.l.length
def rCandF (m : Rm) (i : Nat) : Option Cd := match m.js[i]?, m.l[i]? with
  | some j, some t => if j.act = true ∧ j.runs < t.c ∧ j.rel + wRel t (j.runs + 1) ≤ m.slot then some ⟨(i : Int), t, j.rel, j.runs + 1⟩ else none
  | _, _ => none
def rCands (m : Rm) : List Cd := upTo (rCandF m) m.l.length
def bf (l : List Cd) (a b : Nat) : Bool := match l[a]?, l[b]? with
  | some x, some y => before x y
  | _, _ => false
def best (l : List Cd) : Nat → Nat
  | 0 => 0
  | i + 1 => if bf l (i + 1) (best l i) then i + 1 else best l i
def selR : Nat → List Cd → List Cd
  | 0, _ => []
  | n + 1, l => match l[best l (l.length - 1)]? with
    | some x => x :: selR n (l.eraseIdx (best l (l.length - 1)))
    | none => []
def wasF (m : Rm) (c : Cd) : Int := match m.js[c.n.toNat]? with
  | some j => if 0 < j.runs ∧ j.slot = m.slot - 1 then j.core else -1
  | none => -1
def markU : List Int → List Bool → List Bool
  | [], u => u
  | b :: bs, u => markU bs (if 0 ≤ b then u.set b.toNat true else u)
/-- The cores of those that have none: the first that is free. -/
def fillC : List Int → List Bool → List Int
  | [], _ => []
  | b :: bs, u => if b < 0 then (if u.idxOf false < u.length then (u.idxOf false : Int) :: fillC bs (u.set (u.idxOf false) true) else b :: fillC bs u) else b :: fillC bs u
def coresR (bs : List Int) (n : Nat) : List Int := fillC bs (markU bs (List.replicate n false))
def rDispF (m : Rm) (ch : List Cd) (co : List Int) (c i : Nat) : Option Re := match co[i]?, ch[i]? with
  | some x, some y => if x = (c : Int) then match m.js[y.n.toNat]? with
      | some j => some ⟨m.slot, (c : Int), y.n, j.cnt - 1, 2, j.runs + 1⟩
      | none => none
    else none
  | _, _ => none
def rChosen (m : Rm) : List Cd := selR m.cores.toNat (rCands m)
def rCores (m : Rm) : List Int := coresR ((rChosen m).map (wasF m)) m.cores.toNat
def grid {α : Type} (f : Nat → Nat → Option α) (n k : Nat) : List α := (List.range n).flatMap fun c => upTo (f c) k
theorem grid_succ {α : Type} (f : Nat → Nat → Option α) (n k : Nat) : grid f (n + 1) k = grid f n k ++ upTo (f n) k := by
  unfold grid; rw [List.range_succ, List.flatMap_append]; simp
def rSel (m : Rm) : List Re := grid (rDispF m (rChosen m) (rCores m)) m.cores.toNat (rChosen m).length
def rCutF (m : Rm) (c i : Nat) : Option Re := match m.js[i]?, m.l[i]? with
  | some j, some t => if j.act = true ∧ j.runs = t.c ∧ j.slot = m.slot ∧ j.core = (c : Int) then some ⟨m.slot, (c : Int), (i : Int), j.cnt - 1, 5, j.runs⟩ else none
  | _, _ => none
def rCut (m : Rm) : List Re := grid (rCutF m) m.cores.toNat m.l.length
def rReq (m : Rm) : List Re := if m.phase = 1 then rLate m else if m.phase = 3 then rSel m else if m.phase = 5 then rCut m else []
def rNext0 (m : Rm) : Rm := if 5 < m.phase + 1 then { m with slot := m.slot + 1, phase := 1, last := -1 } else { m with phase := m.phase + 1 }
def rNext (m : Rm) : Rm := { rNext0 m with need := rReq (rNext0 m) }
def rAdv : Nat → Rm → Int → Int → Rm × Int
  | 0, m, _, _ => (m, 0)
  | n + 1, m, s, p => if m.slot < s ∨ m.phase < p then
      if m.need ≠ [] then (m, m.phase + 2) else rAdv n (rNext m) s p
    else (m, 0)
def rAdvM (m : Rm) (s : Int) : Nat := (5 * (s - m.slot) + (5 - m.phase)).toNat
def rAdvance (m : Rm) (s p : Int) : Rm × Int := rAdv (rAdvM m s) m s p
def rPer (m : Rm) (i : Nat) : Int := ((m.l[i]?).map (·.p)).getD 0
def rApply (m : Rm) (e : Re) : Option Rm := match m.js[e.t.toNat]? with
  | none => none
  | some j =>
    if phaseOf e.k = 2 then
      if e.t ≤ m.last ∨ j.act = true ∨ (0 < j.cnt ∧ e.s - j.rel < rPer m e.t.toNat) ∨ e.j ≠ j.cnt ∨ e.c ≠ -1 ∨ e.v ≠ 0 then none
      else some { m with last := e.t, js := m.js.set e.t.toNat ⟨j.cnt + 1, e.s, 0, 0, 0, true⟩ }
    else if phaseOf e.k = 4 then
      if j.act = false ∨ e.j ≠ j.cnt - 1 ∨ j.runs = 0 ∨ j.slot ≠ e.s ∨ j.core ≠ e.c ∨ (e.k = 3 ∧ e.v ≠ 0) then none
      else some { m with js := m.js.set e.t.toNat { j with act := decide (e.k = 7) } }
    else match m.need with
      | [] => none
      | d :: ds => if d ≠ e then none
        else if phaseOf e.k = 3 then some { m with need := ds, js := m.js.set e.t.toNat { j with runs := j.runs + 1, slot := e.s, core := e.c } }
        else some { m with need := ds, js := m.js.set e.t.toNat { j with act := false } }
def rExamine (m : Rm) (e : Re) : Rm × Int :=
  if e.s < m.slot ∨ 100000 < e.s then (m, 1)
  else if phaseOf e.k = 0 then (m, 2)
  else if e.s = m.slot ∧ phaseOf e.k < m.phase then (m, 1)
  else if e.t < 0 ∨ (m.l.length : Int) ≤ e.t then (m, 2)
  else
    let r := rAdvance m e.s (phaseOf e.k)
    if 0 < r.2 then r
    else match rApply r.1 e with
      | some b => (b, 0)
      | none => (r.1, phaseOf e.k + 2)
def rExAll : Rm → Nat → List Re → Rm × Option (Int × Int)
  | m, _, [] => (m, none)
  | m, i, e :: es => let r := rExamine m e; if 0 < r.2 then (r.1, some ((i : Int), r.2)) else rExAll r.1 (i + 1) es
def rNew (l : List Tk) (cores : Int) : Rm := ⟨l, cores, List.replicate l.length ⟨0, 0, 0, 0, 0, false⟩, 0, 1, [], -1⟩
def rCheck (l : List Tk) (cores : Int) (tr : List Re) : Option (Int × Int) :=
  if validT l = false ∨ cores < 1 ∨ 4 < cores then some (0, 0)
  else
    let r := rExAll (rNew l cores) 0 tr
    match r.2 with
    | some x => some x
    | none =>
      if tr = [] then none
      else
        let q := rAdvance r.1 r.1.slot 5
        if 0 < q.2 then some ((tr.length : Int), q.2)
        else if q.1.need ≠ [] then some ((tr.length : Int), 7) else none
end Go.Proofs.Ytjccenbacjhglaa.M
