/- The library of this seat's walks: states of slots and of the call's own blocks; one lemma for each kind of operation. No program in sight. -/
import Derived.Orders
import Derived.Deep.Quiet
import Derived.StillTail
import Derived.OrdersHeld
import Derived.Laws.StructEq
import Derived.Laws.Pointers
import Derived.Below
import Derived.KernelRfl
import Derived.IntWalk
import Derived.WalkKit
import Derived.Maps.AppendAt
set_option linter.unusedVariables false
set_option linter.unusedSimpArgs false
namespace Go.Proofs.YtjccenbacjhglaaGreatDoor.K
open Go Go.RowKit

/-! ### 1. Slots -/
abbrev SS := List (Nat × Value)
theorem beq_ne {a b : Nat} (h : a ≠ b) : Nat.beq a b = false := by
  cases hb : Nat.beq a b
  · rfl
  · exact absurd (Nat.eq_of_beq_eq_true hb) h
def lk : SS → Nat → Option Value
  | [], _ => none
  | (k, v) :: S, t => bif Nat.beq k t then some v else lk S t
structure Sl (n : Nat) (a : Act) (S : SS) : Prop where
  size : a.tmps.size = n
  nodef : a.defers = []
  get : ∀ t v, lk S t = some v → a.tmps[t]? = some v
def ev (S : SS) : Operand → Option Value
  | .tmp t => lk S t
  | .const v => some v
  | .global g => some (.pointer (some ⟨g, 0, none⟩))
  | .func f => some (.func (.func f) #[] #[])
theorem Sl.eval {n : Nat} {a : Act} {S : SS} {x : Operand} {v : Value} (h : Sl n a S) (e : ev S x = some v) : a.eval x = v := by
  cases x with
  | tmp t => have := h.get t v e; simp [Act.eval, Array.getD_eq_getD_getElem?, this]
  | const c => exact Option.some.inj e
  | global g => exact Option.some.inj e
  | func f => exact Option.some.inj e
theorem Sl.put {n d : Nat} {a : Act} {S : SS} {v : Value} (h : Sl n a S) (hd : Nat.blt d n = true) : Sl n (a.put (some d) v) ((d, v) :: S) := by
  have hd' : d < n := by simpa [Nat.blt_eq] using hd
  refine ⟨by simp [Act.put, h.size], h.nodef, fun t u ht => ?_⟩
  simp only [lk] at ht
  by_cases e : d = t
  · subst e
    simp at ht
    subst ht
    simp [Act.put, h.size, hd']
  · have : Nat.beq d t = false := beq_ne e
    rw [this] at ht
    simp only [cond_false] at ht
    simp only [Act.put, Array.getElem?_setIfInBounds, e, if_false]
    exact h.get t u ht
theorem Sl.put0 {n : Nat} {a : Act} {S : SS} {v : Value} (h : Sl n a S) : Sl n (a.put none v) S := h
/-- What a smaller list of slots says follows. -/
def Sub : SS → SS → Prop
  | [], _ => True
  | (t, v) :: S', S => lk S t = some v ∧ Sub S' S
theorem lk_of_sub {S : SS} : ∀ {S' : SS}, Sub S' S → ∀ t v, lk S' t = some v → lk S t = some v
  | [], _, t, v, h => by cases h
  | (k, u) :: S', hs, t, v, h => by
    simp only [lk] at h
    by_cases e : k = t
    · subst e; simp at h; subst h; exact hs.1
    · have : Nat.beq k t = false := beq_ne e
      rw [this] at h
      exact lk_of_sub hs.2 t v h
theorem Sl.sub {n : Nat} {a : Act} {S S' : SS} (h : Sl n a S) (hs : Sub S' S) : Sl n a S' := ⟨h.size, h.nodef, fun t v ht => h.get t v (lk_of_sub hs t v ht)⟩
def argS : Nat → List Value → SS
  | _, [] => []
  | k, v :: l => (k, v) :: argS (k + 1) l
theorem lk_argS : ∀ (l : List Value) (k t : Nat) (v : Value), lk (argS k l) t = some v → k ≤ t ∧ l[t - k]? = some v
  | [], k, t, v, h => by cases h
  | u :: l, k, t, v, h => by
    simp only [argS, lk] at h
    by_cases e : k = t
    · subst e; simp at h; subst h; simp
    · have : Nat.beq k t = false := beq_ne e
      rw [this] at h
      obtain ⟨h1, h2⟩ := lk_argS l (k + 1) t v h
      refine ⟨by omega, ?_⟩
      rw [show t - k = (t - (k + 1)) + 1 by omega]
      simpa using h2
theorem Sl.start {n : Nat} (args : List Value) (hn : Nat.ble args.length n = true) : Sl n { tmps := args.toArray ++ Array.replicate (n - args.toArray.size) undef, defers := [] } (argS 0 args) := by
  have hn' : args.length ≤ n := by simpa [Nat.ble_eq] using hn
  refine ⟨by simp; omega, rfl, fun t v h => ?_⟩
  obtain ⟨_, h⟩ := lk_argS args 0 t v h
  have ht : t < args.length := by
    rcases Nat.lt_or_ge t args.length with h' | h'
    · exact h'
    · simp [List.getElem?_eq_none h'] at h
  rw [Array.getElem?_append_left (by simpa using ht)]
  simpa using h

/-! ### 2. Blocks of the call's own -/
abbrev Blk := Nat × Obj
structure H (w0 w : World) (L : List Blk) : Prop where
  below : Below w0.heap.size w0 w
  has : ∀ x ∈ L, w.heap[x.1]? = some x.2
  own : ∀ x ∈ L, w0.heap.size ≤ x.1
  nd : (L.map (·.1)).Nodup
structure U (we w : World) (Le L : List Blk) : Prop where
  os : w.os = we.os
  tape : w.tape = we.tape
  output : w.output = we.output
  size : we.heap.size ≤ w.heap.size
  frame : ∀ k, k < we.heap.size → k ∉ Le.map (·.1) → w.heap[k]? = we.heap[k]?
  fresh : ∀ b ∈ L.map (·.1), b ∈ Le.map (·.1) ∨ we.heap.size ≤ b
structure Z (w0 we : World) (Le L : List Blk) (w : World) : Prop where
  h : H w0 w L
  u : U we w Le L
theorem H.nil (w : World) : H w w [] := ⟨Below.refl _ _, fun _ h => absurd h (List.not_mem_nil), fun _ h => absurd h (List.not_mem_nil), List.nodup_nil⟩
theorem Z.start {w0 w : World} {L : List Blk} (h : H w0 w L) : Z w0 w L L w := ⟨h, rfl, rfl, rfl, Nat.le_refl _, fun _ _ _ => rfl, fun b hb => .inl hb⟩
theorem H.lt {w0 w : World} {L : List Blk} (h : H w0 w L) {x : Blk} (hx : x ∈ L) : x.1 < w.heap.size := (Array.getElem?_eq_some_iff.1 (h.has x hx)).1
theorem H.perm {w0 w : World} {L L' : List Blk} (h : H w0 w L) (p : L.Perm L') : H w0 w L' :=
  ⟨h.below, fun x hx => h.has x (p.mem_iff.2 hx), fun x hx => h.own x (p.mem_iff.2 hx), (p.map _).nodup_iff.1 h.nd⟩
theorem Z.perm {w0 we w : World} {Le L L' : List Blk} (h : Z w0 we Le L w) (p : L.Perm L') : Z w0 we Le L' w :=
  ⟨h.h.perm p, h.u.os, h.u.tape, h.u.output, h.u.size, h.u.frame, fun b hb => h.u.fresh b ((p.map _).mem_iff.2 hb)⟩
theorem Z.sublist {w0 we w : World} {Le L L' : List Blk} (h : Z w0 we Le L w) (p : L'.Sublist L) : Z w0 we Le L' w :=
  ⟨⟨h.h.below, fun x hx => h.h.has x (p.subset hx), fun x hx => h.h.own x (p.subset hx), h.h.nd.sublist (p.map _)⟩, h.u.os, h.u.tape, h.u.output, h.u.size, h.u.frame, fun b hb => h.u.fresh b ((p.map _).subset hb)⟩
theorem Z.drew {w0 we w : World} {Le L : List Blk} (h : Z w0 we Le L w) : Z w0 we Le L { w with drawn := w.drawn + 1 } :=
  ⟨⟨⟨h.h.below.os, h.h.below.tape, h.h.below.output, h.h.below.size, h.h.below.block⟩, h.h.has, h.h.own, h.h.nd⟩, h.u.os, h.u.tape, h.u.output, h.u.size, h.u.frame, h.u.fresh⟩
theorem Z.alloc {w0 we w : World} {Le L : List Blk} (h : Z w0 we Le L w) (o : Obj) : Z w0 we Le ((w.heap.size, o) :: L) (w.alloc o) := by
  have hs := h.h.below.size
  refine ⟨⟨h.h.below.alloc hs o, fun x hx => ?_, fun x hx => ?_, ?_⟩, h.u.os, h.u.tape, h.u.output, ?_, fun k hk hn => ?_, fun b hb => ?_⟩
  · rcases List.mem_cons.1 hx with rfl | hx
    · show (w.heap.push o)[w.heap.size]? = some o
      simp
    · have := h.h.lt hx
      rw [Below.heap_alloc _ _ _ this]
      exact h.h.has x hx
  · rcases List.mem_cons.1 hx with rfl | hx
    · exact hs
    · exact h.h.own x hx
  · simp only [List.map_cons, List.nodup_cons]
    refine ⟨fun hm => ?_, h.h.nd⟩
    obtain ⟨x, hx, he⟩ := List.mem_map.1 hm
    have := h.h.lt hx
    omega
  · have := h.u.size
    show we.heap.size ≤ (w.heap.push o).size
    rw [Array.size_push]; omega
  · rw [Below.heap_alloc _ _ _ (by have := h.u.size; omega)]
    exact h.u.frame k hk hn
  · rw [List.map_cons] at hb
    rcases List.mem_cons.1 hb with hb | hb
    · exact .inr (by have := h.u.size; simp only at hb; omega)
    · exact h.u.fresh b hb
/-- A store into the block at the head. -/
theorem Z.set {w0 we w : World} {Le L : List Blk} {b : Nat} {c : Array Value} {T : TypeId} {fr : Nat × Nat} (h : Z w0 we Le ((b, .cells c T fr) :: L) w) (off : Nat) (v : Value) : Z w0 we Le ((b, .cells (c.setIfInBounds off v) T fr) :: L) (w.setCell ⟨b, off, none⟩ v) := by
  have hb : w.heap[b]? = some (.cells c T fr) := h.h.has _ (List.mem_cons_self ..)
  have hown := h.h.own _ (List.mem_cons_self ..)
  have hlt : b < w.heap.size := (Array.getElem?_eq_some_iff.1 hb).1
  have hnd := h.h.nd
  simp only [List.map_cons, List.nodup_cons] at hnd
  have hother : ∀ k, k ≠ b → (w.setCell ⟨b, off, none⟩ v).heap[k]? = w.heap[k]? := fun k hk => Below.heap_setCell w ⟨b, off, none⟩ v k hk
  refine ⟨⟨h.h.below.setCell hown v, fun x hx => ?_, fun x hx => ?_, ?_⟩, h.u.os, h.u.tape, h.u.output, ?_, fun k hk hn => ?_, fun k hk => ?_⟩
  · rcases List.mem_cons.1 hx with rfl | hx
    · simp [World.setCell, Array.getElem?_modify, hb]
    · have hne : x.1 ≠ b := fun e => hnd.1 (List.mem_map.2 ⟨x, hx, e⟩)
      rw [hother _ hne]
      exact h.h.has x (List.mem_cons_of_mem _ hx)
  · rcases List.mem_cons.1 hx with rfl | hx
    · exact hown
    · exact h.h.own x (List.mem_cons_of_mem _ hx)
  · simpa using hnd
  · simpa [World.setCell] using h.u.size
  · by_cases e : k = b
    · subst e
      rcases h.u.fresh k (by simp) with h1 | h1
      · exact absurd h1 hn
      · omega
    · rw [hother _ e]
      exact h.u.frame k hk hn
  · exact h.u.fresh k (by simpa using hk)
/-- Behind a callee that owns L1 of what is owned. -/
theorem Z.call {w0 we w w' : World} {Le L1 L1' L2 : List Blk} (h : Z w0 we Le (L1 ++ L2) w) (k : Z w0 w L1 L1' w') : Z w0 we Le (L1' ++ L2) w' := by
  have hnd := h.h.nd
  simp only [List.map_append, List.nodup_append] at hnd
  have hlt : ∀ x ∈ L1 ++ L2, x.1 < w.heap.size := fun x hx => h.h.lt hx
  refine ⟨⟨k.h.below, fun x hx => ?_, fun x hx => ?_, ?_⟩, k.u.os.trans h.u.os, k.u.tape.trans h.u.tape, k.u.output.trans h.u.output, Nat.le_trans h.u.size k.u.size, fun j hj hn => ?_, fun b hb => ?_⟩
  · rcases List.mem_append.1 hx with hx | hx
    · exact k.h.has x hx
    · rw [k.u.frame x.1 (hlt x (List.mem_append_right _ hx)) (fun hm => by
        obtain ⟨y, hy, e⟩ := List.mem_map.1 hm
        exact hnd.2.2 y.1 (List.mem_map_of_mem hy) x.1 (List.mem_map_of_mem hx) e)]
      exact h.h.has x (List.mem_append_right _ hx)
  · rcases List.mem_append.1 hx with hx | hx
    · exact k.h.own x hx
    · exact h.h.own x (List.mem_append_right _ hx)
  · simp only [List.map_append, List.nodup_append]
    refine ⟨k.h.nd, hnd.2.1, fun x hx y hy e => ?_⟩
    subst e
    obtain ⟨z, hz, ez⟩ := List.mem_map.1 hy
    rcases k.u.fresh x hx with h1 | h1
    · exact hnd.2.2 x h1 x hy rfl
    · have := hlt z (List.mem_append_right _ hz)
      omega
  · by_cases e : j ∈ L1.map (·.1)
    · rcases h.u.fresh j (by rw [List.map_append]; exact List.mem_append_left _ e) with h1 | h1
      · exact absurd h1 hn
      · omega
    · rw [k.u.frame j (by have := h.u.size; omega) e]
      exact h.u.frame j hj hn
  · rw [List.map_append] at hb
    rcases List.mem_append.1 hb with hb | hb
    · rcases k.u.fresh b hb with h1 | h1
      · exact h.u.fresh b (by rw [List.map_append]; exact List.mem_append_left _ h1)
      · exact .inr (by have := h.u.size; omega)
    · exact h.u.fresh b (by rw [List.map_append]; exact List.mem_append_right _ hb)
/-- Behind a callee that owned nothing: what it hands over is new. -/
theorem Z.callA {w0 we w w' : World} {Le L L' : List Blk} (h : Z w0 we Le L w) (k : Z w w [] L' w') : Z w0 we Le (L' ++ L) w' := by
  refine Z.call (L1 := []) h ⟨⟨?_, k.h.has, fun x hx => Nat.le_trans h.h.below.size (k.h.own x hx), k.h.nd⟩, k.u⟩
  exact h.h.below.trans (k.h.below.mono h.h.below.size)
theorem Z.below {w w' : World} {L' : List Blk} (k : Z w w [] L' w') : Below w.heap.size w w' := k.h.below

/-! ### 3. Judgements -/
section
variable {P : Program} {n : Nat}
/-- In every world of the class the operation yields v and leaves a world of the class. -/
def QOp (P : Program) (n : Nat) (C : World → Prop) (S : SS) (o : Oper) (v : Value) : Prop := ∀ a w, Sl n a S → C w → Oper.quietAt P o a C w v
def W (P : Program) (n : Nat) (ops : Array Oper) (Q : Exit → Act → World → Prop) (C : World → Prop) (l : List Oper) (S : SS) : Prop := ∀ a w, Sl n a S → C w → wpList P ops Q l a w
def QJ (P : Program) (n : Nat) (ops : Array Oper) (Qa : Act → Prop) (C : World → Prop) (l : List Oper) (S : SS) : Prop := ∀ a, Sl n a S → wpQuiet P ops C Qa l a
def WC (P : Program) (n : Nat) (c : Code) (Q : Exit → Act → World → Prop) (C : World → Prop) (S : SS) : Prop := ∀ a w, Sl n a S → C w → c.wp P Q a w
def X (n : Nat) (R : Act → World → Prop) (C : World → Prop) (S : SS) : Prop := ∀ a w, Sl n a S → C w → R a w
/-- Whether a guard lets an operation be carried out. -/
def gd (ops : Array Oper) (S : SS) : Option (Nat × Bool) → Option Bool
  | none => some true
  | some (j, want) => match (ops[j]?).bind (·.dst) with
    | some t => match lk S t with
      | some (.bool b) => some (b == want)
      | some (.tuple _) => some false
      | _ => none
    | none => none
theorem gd_wanted {ops : Array Oper} {a : Act} {S : SS} {o : Oper} {b : Bool} (hs : Sl n a S) (h : gd ops S o.guard = some b) : Region.wanted o (yielded ops a.tmps) = b := by
  unfold gd at h
  unfold Region.wanted
  cases hg : o.guard with
  | none => rw [hg] at h; exact Option.some.inj h
  | some p =>
    obtain ⟨j, want⟩ := p
    rw [hg] at h
    dsimp only at h ⊢
    unfold yielded
    cases hd : (ops[j]?).bind (·.dst) with
    | none => rw [hd] at h; cases h
    | some t =>
      rw [hd] at h
      dsimp only at h
      cases hl : lk S t with
      | none => rw [hl] at h; cases h
      | some v =>
        rw [hl] at h
        have hv := hs.get t v hl
        simp only [Option.bind_some, hv]
        cases v <;> simp_all
theorem quietAt_upon {o : Oper} {a : Act} {C : World → Prop} {w : World} {v : Value} {K : Act → World → Prop} {Q : Exit → Act → World → Prop} (hq : Oper.quietAt P o a C w v) (hC : C w) (h : ∀ w', C w' → K (a.put o.dst v) w') : o.wp P a w K Q := by
  unfold Oper.quietAt at hq
  unfold Oper.wp
  generalize (execOp a.eval o).run P w = r at hq
  cases r with
  | ok nx w' =>
    cases nx <;> simp only [Oper.quietUpon, Oper.upon] at hq ⊢ <;> first
      | exact hq.elim
      | (obtain ⟨rfl, rfl⟩ := hq; exact h _ hC)
      | (obtain ⟨rfl, hc⟩ := hq; exact hc.mono fun e w'' he => by obtain ⟨rfl, hw⟩ := he; exact h _ hw)
  | halt x w' => exact hq.elim

/-! ### 4. Steps through a list of operations -/
section
variable {ops : Array Oper} {Q : Exit → Act → World → Prop} {Qa : Act → Prop} {C : World → Prop} {S : SS} {rest : List Oper} {d : Nat} {op : Op} {ty : TypeId} {pos : String} {af : Array Edge} {g : Option (Nat × Bool)} {v : Value}
theorem W.q (hq : QOp P n C S ⟨some d, op, ty, pos, af, g⟩ v) (h : W P n ops Q C rest ((d, v) :: S)) (hg : gd ops S g = some true := by rfl) (hd : Nat.blt d n = true := by rfl) : W P n ops Q C (⟨some d, op, ty, pos, af, g⟩ :: rest) S := by
  intro a w hs hC
  have hw : Region.wanted ⟨some d, op, ty, pos, af, g⟩ (yielded ops a.tmps) = true := gd_wanted hs hg
  unfold wpList
  rw [if_pos hw]
  exact .inl (quietAt_upon (hq a w hs hC) hC fun w' hw' => h _ w' (hs.put hd) hw')
theorem W.q0 (hq : QOp P n C S ⟨none, op, ty, pos, af, g⟩ v) (h : W P n ops Q C rest S) (hg : gd ops S g = some true := by rfl) : W P n ops Q C (⟨none, op, ty, pos, af, g⟩ :: rest) S := by
  intro a w hs hC
  have hw : Region.wanted ⟨none, op, ty, pos, af, g⟩ (yielded ops a.tmps) = true := gd_wanted hs hg
  unfold wpList
  rw [if_pos hw]
  exact .inl (quietAt_upon (hq a w hs hC) hC fun w' hw' => h _ w' hs.put0 hw')
theorem W.skip (h : W P n ops Q C rest ((d, undef) :: S)) (hg : gd ops S g = some false := by rfl) (hd : Nat.blt d n = true := by rfl) : W P n ops Q C (⟨some d, op, ty, pos, af, g⟩ :: rest) S := by
  intro a w hs hC
  have hw : Region.wanted ⟨some d, op, ty, pos, af, g⟩ (yielded ops a.tmps) = false := gd_wanted hs hg
  unfold wpList
  rw [hw]
  exact h _ w (hs.put hd) hC
theorem W.skip0 (h : W P n ops Q C rest S) (hg : gd ops S g = some false := by rfl) : W P n ops Q C (⟨none, op, ty, pos, af, g⟩ :: rest) S := by
  intro a w hs hC
  have hw : Region.wanted ⟨none, op, ty, pos, af, g⟩ (yielded ops a.tmps) = false := gd_wanted hs hg
  unfold wpList
  rw [hw]
  exact h _ w hs.put0 hC
theorem W.nil (h : X n (Q .normal) C S) : W P n ops Q C [] S := fun a w hs hC => h a w hs hC
theorem W.sub {S' : SS} {l : List Oper} (h : W P n ops Q C l S') (hs : Sub S' S) : W P n ops Q C l S := fun a w k hC => h a w (k.sub hs) hC
theorem QJ.q (hq : QOp P n C S ⟨some d, op, ty, pos, af, g⟩ v) (h : QJ P n ops Qa C rest ((d, v) :: S)) (hg : gd ops S g = some true := by rfl) (hd : Nat.blt d n = true := by rfl) : QJ P n ops Qa C (⟨some d, op, ty, pos, af, g⟩ :: rest) S := by
  intro a hs
  have hw : Region.wanted ⟨some d, op, ty, pos, af, g⟩ (yielded ops a.tmps) = true := gd_wanted hs hg
  unfold wpQuiet
  rw [if_pos hw]
  exact ⟨v, fun w hC => hq a w hs hC, h _ (hs.put hd)⟩
theorem QJ.q0 (hq : QOp P n C S ⟨none, op, ty, pos, af, g⟩ v) (h : QJ P n ops Qa C rest S) (hg : gd ops S g = some true := by rfl) : QJ P n ops Qa C (⟨none, op, ty, pos, af, g⟩ :: rest) S := by
  intro a hs
  have hw : Region.wanted ⟨none, op, ty, pos, af, g⟩ (yielded ops a.tmps) = true := gd_wanted hs hg
  unfold wpQuiet
  rw [if_pos hw]
  exact ⟨v, fun w hC => hq a w hs hC, h _ hs.put0⟩
theorem QJ.skip (h : QJ P n ops Qa C rest ((d, undef) :: S)) (hg : gd ops S g = some false := by rfl) (hd : Nat.blt d n = true := by rfl) : QJ P n ops Qa C (⟨some d, op, ty, pos, af, g⟩ :: rest) S := by
  intro a hs
  have hw : Region.wanted ⟨some d, op, ty, pos, af, g⟩ (yielded ops a.tmps) = false := gd_wanted hs hg
  unfold wpQuiet
  rw [hw]
  exact h _ (hs.put hd)
theorem QJ.nil (h : X n (Q .normal) C S) : QJ P n ops (fun a => ∀ w, C w → Q .normal a w) C [] S := fun a hs w hC => h a w hs hC
/-! Code -/
variable {x y : Code} {id : Nat}
theorem WC.seq (h : WC P n x (Exit.then (y.wp P Q) Q) C S) : WC P n (.seq x y) Q C S := fun a w hs hC => wp_seq (h a w hs hC)
theorem WC.skip (h : X n (Q .normal) C S) : WC P n .skip Q C S := fun a w hs hC => wp_skip (h a w hs hC)
theorem WC.exit (h : X n (Q (.exit id)) C S) : WC P n (.exit id) Q C S := fun a w hs hC => wp_exit (h a w hs hC)
theorem WC.ret (h : X n (Q .ret) C S) : WC P n .ret Q C S := fun a w hs hC => wp_ret (h a w hs hC)
theorem WC.block (h : WC P n x (Exit.inBlock id Q) C S) : WC P n (.block id x) Q C S := fun a w hs hC => wp_block (h a w hs hC)
theorem WC.tt {c : Operand} (h : WC P n x Q C S) (hc : ev S c = some (.bool true) := by rfl) : WC P n (.cond c x y) Q C S := fun a w hs hC => wp_cond (hs.eval hc) (h a w hs hC)
theorem WC.ff {c : Operand} (h : WC P n y Q C S) (hc : ev S c = some (.bool false) := by rfl) : WC P n (.cond c x y) Q C S := fun a w hs hC => wp_cond (hs.eval hc) (h a w hs hC)
theorem WC.cond {c : Operand} {b : Bool} (ht : b = true → WC P n x Q C S) (hf : b = false → WC P n y Q C S) (hc : ev S c = some (.bool b) := by rfl) : WC P n (.cond c x y) Q C S :=
  fun a w hs hC => wp_cond_split (hs.eval hc) (fun e => ht e a w hs hC) (fun e => hf e a w hs hC)
theorem WC.condP {c : Operand} {p : Prop} [Decidable p] (ht : p → WC P n x Q C S) (hf : ¬ p → WC P n y Q C S) (hc : ev S c = some (.bool (decide p)) := by rfl) : WC P n (.cond c x y) Q C S :=
  fun a w hs hC => wp_cond_split (hs.eval hc) (fun e => ht (of_decide_eq_true e) a w hs hC) (fun e => hf (of_decide_eq_false e) a w hs hC)
theorem WC.reg {l : List Oper} (h : W P n l.toArray Q C l S) : WC P n (.region id l.toArray false) Q C S := fun a w hs hC => wp_region_lit (h a w hs hC)
/-- A region that draws its order and is quiet throughout. -/
theorem WC.draw {l : List Oper} (hm : P.follows .mixedOrders = true) (hB : Region.lexB .any l.toArray = true) (hC : ∀ w, C w → C { w with drawn := w.drawn + 1 }) (h : QJ P n l.toArray (fun a => ∀ w, C w → Q .normal a w) C l S) : WC P n (.region id l.toArray true) Q C S :=
  fun a w hs hw => wp_region_quiet hm hB (hC w hw) (by have := h a hs; simpa using this)
theorem WC.sub {S' : SS} (h : WC P n x Q C S') (hs : Sub S' S) : WC P n x Q C S := fun a w k hC => h a w (k.sub hs) hC
theorem WC.world {C' : World → Prop} (h : WC P n x Q C' S) (hs : ∀ w, C w → C' w) : WC P n x Q C S := fun a w k hC => h a w k (hs w hC)
/-- Ways meet again. -/
theorem WC.cut {σ : Type} (T : σ → SS) (D : σ → World → Prop) (hx : WC P n x (Exit.then (fun a w => ∃ s, Sl n a (T s) ∧ D s w) Q) C S) (hy : ∀ s, WC P n y Q (D s) (T s)) : WC P n (.seq x y) Q C S :=
  fun a w hs hC => wp_seq (wp_mono (hx a w hs hC) fun e a' w' h => by cases e <;> first | exact h | (obtain ⟨s, h1, h2⟩ := h; exact hy s a' w' h1 h2))
theorem WC.loop {σ : Type} (T : σ → SS) (D : σ → World → Prop) (μ : σ → Nat) (s0 : σ) (hs0 : Sub (T s0) S) (hC0 : ∀ w, C w → D s0 w)
    (body : ∀ s, WC P n x (Exit.then (fun a w => ∃ s', Sl n a (T s') ∧ D s' w ∧ μ s' < μ s) Q) (D s) (T s)) : WC P n (.loop x) Q C S := by
  intro a w hs hC
  have key : ∀ (m : Nat) (s : σ), μ s = m → ∀ a w, Sl n a (T s) → D s w → (Code.loop x).wp P Q a w := by
    intro m s hm a w h1 h2
    refine wp_loop (fun a w => ∃ s, Sl n a (T s) ∧ D s w) (fun a w => Classical.epsilon fun k => ∃ s, Sl n a (T s) ∧ D s w ∧ μ s = k ∧ ∀ s', Sl n a (T s') → D s' w → k ≤ μ s') ⟨s, h1, h2⟩ fun a' w' hI => ?_
    have least : ∀ a w, (∃ s, Sl n a (T s) ∧ D s w) → ∃ k, ∃ s, Sl n a (T s) ∧ D s w ∧ μ s = k ∧ ∀ s', Sl n a (T s') → D s' w → k ≤ μ s' := by
      intro a w ⟨s, h1, h2⟩
      have : ∀ (m : Nat) (s : σ), μ s = m → Sl n a (T s) → D s w → ∃ k, ∃ s, Sl n a (T s) ∧ D s w ∧ μ s = k ∧ ∀ s', Sl n a (T s') → D s' w → k ≤ μ s' := by
        intro m
        induction m using Nat.strongRecOn with
        | ind m ih =>
          intro s hm h1 h2
          by_cases hex : ∃ s', Sl n a (T s') ∧ D s' w ∧ μ s' < μ s
          · obtain ⟨s', k1, k2, k3⟩ := hex
            exact ih (μ s') (by omega) s' rfl k1 k2
          · exact ⟨μ s, s, h1, h2, rfl, fun s' k1 k2 => Nat.le_of_not_lt fun hlt => hex ⟨s', k1, k2, hlt⟩⟩
      exact this _ s rfl h1 h2
    obtain ⟨s1, k1, k2, k3, k4⟩ := Classical.epsilon_spec (least a' w' hI)
    refine wp_mono (body s1 a' w' k1 k2) fun e a2 w2 h => ?_
    cases e <;> first | exact h | skip
    obtain ⟨s2, l1, l2, l3⟩ := h
    refine ⟨⟨s2, l1, l2⟩, ?_⟩
    obtain ⟨s3, m1, m2, m3, m4⟩ := Classical.epsilon_spec (least a2 w2 ⟨s2, l1, l2⟩)
    have := m4 s2 l1 l2
    rw [k3] at l3
    exact Nat.lt_of_le_of_lt this l3
  exact key _ s0 rfl a w (hs.sub hs0) (hC0 w hC)
/-! Where a piece ends -/
variable {R : Act → World → Prop}
theorem X.code (h : WC P n y Q C S) : X n (fun a w => y.wp P Q a w) C S := h
theorem X.out {σ : Type} {T : σ → SS} {D : σ → World → Prop} (s : σ) (hs : Sub (T s) S) (hD : ∀ w, C w → D s w) : X n (fun a w => ∃ s, Sl n a (T s) ∧ D s w) C S := fun a w k hC => ⟨s, k.sub hs, hD w hC⟩
theorem X.round {σ : Type} {T : σ → SS} {D : σ → World → Prop} {μ : σ → Nat} {m : Nat} (s : σ) (hs : Sub (T s) S) (hD : ∀ w, C w → D s w) (hm : μ s < m) : X n (fun a w => ∃ s', Sl n a (T s') ∧ D s' w ∧ μ s' < m) C S := fun a w k hC => ⟨s, k.sub hs, hD w hC, hm⟩
theorem X.ret0 {fn : Func} {E : Ending → World → Prop} (hr : fn.results = #[]) (h : ∀ w, C w → E (.returned (.tuple #[])) w) : X n (bodyPost P fn E .normal) C S := fun a w k hC => ⟨k.nodef, _, by simp [results, hr], h w hC⟩
theorem X.ret0' {fn : Func} {E : Ending → World → Prop} (hr : fn.results = #[]) (h : ∀ w, C w → E (.returned (.tuple #[])) w) : X n (bodyPost P fn E .ret) C S := fun a w k hC => ⟨k.nodef, _, by simp [results, hr], h w hC⟩
theorem X.ret1 {fn : Func} {t : Nat} {v : Value} {E : Ending → World → Prop} (hr : fn.results = #[.tmp t]) (hv : lk S t = some v) (h : ∀ w, C w → E (.returned v) w) : X n (bodyPost P fn E .ret) C S :=
  fun a w k hC => ⟨k.nodef, v, by simp [results, hr, k.get t v hv], h w hC⟩
theorem X.ret2 {fn : Func} {t u : Nat} {v v' : Value} {E : Ending → World → Prop} (hr : fn.results = #[.tmp t, .tmp u]) (hv : lk S t = some v) (hv' : lk S u = some v') (h : ∀ w, C w → E (.returned (.tuple #[v, v'])) w) : X n (bodyPost P fn E .ret) C S :=
  fun a w k hC => ⟨k.nodef, _, by simp [results, hr, k.get t v hv, k.get u v' hv'], h w hC⟩
theorem X.ret3 {fn : Func} {t u s : Nat} {v v' v'' : Value} {E : Ending → World → Prop} (hr : fn.results = #[.tmp t, .tmp u, .tmp s]) (hv : lk S t = some v) (hv' : lk S u = some v') (hv'' : lk S s = some v'') (h : ∀ w, C w → E (.returned (.tuple #[v, v', v''])) w) : X n (bodyPost P fn E .ret) C S :=
  fun a w k hC => ⟨k.nodef, _, by simp [results, hr, k.get t v hv, k.get u v' hv', k.get s v'' hv''], h w hC⟩
end
end
/-- A function's start. -/
theorem enter {P : Program} {f n : Nat} {fn : Func} {c : Code} {args : List Value} {w : World} {E : Ending → World → Prop} {C : World → Prop} (hf : P.funcs[f]? = some fn) (hb : fn.body = some c) (hn : fn.ntmps = n) (ha : Nat.ble args.length n = true) (hC : C w) (h : WC P n c (bodyPost P fn E) C (argS 0 args)) : Calls P f args.toArray w E := by
  refine calls_of_wp hf hb ?_
  rw [hn]
  exact h _ w (Sl.start args ha) hC

/-! ### 5. Operations -/
section
variable {P : Program} {n : Nat} {C : World → Prop} {S : SS} {d : Option Nat} {ty : TypeId} {pos : String} {af : Array Edge} {g : Option (Nat × Bool)}
theorem QOp.of {op : Op} {v : Value} (h : ∀ a w, Sl n a S → C w → (execOp a.eval ⟨d, op, ty, pos, af, g⟩).run P w = .ok (.value v) w) : QOp P n C S ⟨d, op, ty, pos, af, g⟩ v := by
  intro a w hs hC
  unfold Oper.quietAt
  rw [h a w hs hC]
  exact ⟨rfl, rfl⟩
theorem QOp.move {x : Operand} {v : Value} (hx : ev S x = some v) : QOp P n C S ⟨d, .move x, ty, pos, af, g⟩ v := .of fun a w hs hC => by simp [execOp, hs.eval hx]
theorem QOp.assign {x : Operand} {v : Value} (hx : ev S x = some v) : QOp P n C S ⟨d, .assign x, ty, pos, af, g⟩ v := .of fun a w hs hC => by simp [execOp, hs.eval hx]
theorem QOp.pickT {c x y : Operand} {v : Value} (hc : ev S c = some (.bool true)) (hx : ev S x = some v) : QOp P n C S ⟨d, .pick c x y, ty, pos, af, g⟩ v := .of fun a w hs hC => by simp [execOp, hs.eval hx, hs.eval hc, asBool]
theorem QOp.pickF {c x y : Operand} {v : Value} (hc : ev S c = some (.bool false)) (hy : ev S y = some v) : QOp P n C S ⟨d, .pick c x y, ty, pos, af, g⟩ v := .of fun a w hs hC => by simp [execOp, hs.eval hy, hs.eval hc, asBool]
theorem QOp.nilP {x : Operand} {p : Addr} (hx : ev S x = some (.pointer (some p))) : QOp P n C S ⟨d, .nilCheck x, ty, pos, af, g⟩ (.pointer (some p)) := .of fun a w hs hC => by simp [execOp, hs.eval hx]
theorem QOp.nilF {x : Operand} {f : FuncId} {u v : Array Value} (hx : ev S x = some (.func (.func f) u v)) : QOp P n C S ⟨d, .nilCheck x, ty, pos, af, g⟩ (.func (.func f) u v) := .of fun a w hs hC => by simp [execOp, hs.eval hx]
/-! whole numbers -/
theorem QOp.add {x y : Operand} {k : IntKind} {i j r : Int} {t u : TypeId} (hx : ev S x = some (.int k i)) (hy : ev S y = some (.int k j)) (hr : k.wrap (i + j) = r) : QOp P n C S ⟨d, .binOp .add t x y u, ty, pos, af, g⟩ (.int k r) :=
  .of fun a w hs hC => by subst hr; simp [execOp, hs.eval hx, hs.eval hy, eqGuard, binOp, Op.intArith]
theorem QOp.sub {x y : Operand} {k : IntKind} {i j r : Int} {t u : TypeId} (hx : ev S x = some (.int k i)) (hy : ev S y = some (.int k j)) (hr : k.wrap (i - j) = r) : QOp P n C S ⟨d, .binOp .sub t x y u, ty, pos, af, g⟩ (.int k r) :=
  .of fun a w hs hC => by subst hr; simp [execOp, hs.eval hx, hs.eval hy, eqGuard, binOp, Op.intArith]
theorem QOp.mul {x y : Operand} {k : IntKind} {i j r : Int} {t u : TypeId} (hx : ev S x = some (.int k i)) (hy : ev S y = some (.int k j)) (hr : k.wrap (i * j) = r) : QOp P n C S ⟨d, .binOp .mul t x y u, ty, pos, af, g⟩ (.int k r) :=
  .of fun a w hs hC => by subst hr; simp [execOp, hs.eval hx, hs.eval hy, eqGuard, binOp, Op.intArith]
theorem QOp.quo {x y : Operand} {k : IntKind} {i j r : Int} {t u : TypeId} (hx : ev S x = some (.int k i)) (hy : ev S y = some (.int k j)) (hj : j ≠ 0) (hr : k.wrap (i.tdiv j) = r) : QOp P n C S ⟨d, .binOp .quo t x y u, ty, pos, af, g⟩ (.int k r) :=
  .of fun a w hs hC => by subst hr; simp [execOp, hs.eval hx, hs.eval hy, eqGuard, binOp, Op.intDiv, hj]
theorem QOp.rem {x y : Operand} {k : IntKind} {i j r : Int} {t u : TypeId} (hx : ev S x = some (.int k i)) (hy : ev S y = some (.int k j)) (hj : j ≠ 0) (hr : i.tmod j = r) : QOp P n C S ⟨d, .binOp .rem t x y u, ty, pos, af, g⟩ (.int k r) :=
  .of fun a w hs hC => by subst hr; simp [execOp, hs.eval hx, hs.eval hy, eqGuard, binOp, Op.intDiv, hj]
def cmpI : BinOp → Int → Int → Option Bool
  | .eql, a, b => some (a == b)
  | .neq, a, b => some (a != b)
  | .lss, a, b => some (decide (a < b))
  | .leq, a, b => some (decide (a ≤ b))
  | .gtr, a, b => some (decide (a > b))
  | .geq, a, b => some (decide (a ≥ b))
  | _, _, _ => none
theorem eqT {a b : Int} (h : a = b) : cmpI .eql a b = some true := by simp [cmpI, h]
theorem eqF {a b : Int} (h : a ≠ b) : cmpI .eql a b = some false := by simp [cmpI, h]
theorem neT {a b : Int} (h : a ≠ b) : cmpI .neq a b = some true := by simp [cmpI, h]
theorem neF {a b : Int} (h : a = b) : cmpI .neq a b = some false := by simp [cmpI, h]
theorem ltT {a b : Int} (h : a < b) : cmpI .lss a b = some true := by simp [cmpI, h]
theorem ltF {a b : Int} (h : b ≤ a) : cmpI .lss a b = some false := by simp [cmpI, h]
theorem leT {a b : Int} (h : a ≤ b) : cmpI .leq a b = some true := by simp [cmpI, h]
theorem leF {a b : Int} (h : b < a) : cmpI .leq a b = some false := by simp [cmpI, h]
theorem gtT {a b : Int} (h : b < a) : cmpI .gtr a b = some true := by simp [cmpI, h]
theorem gtF {a b : Int} (h : a ≤ b) : cmpI .gtr a b = some false := by simp [cmpI, h]
theorem geT {a b : Int} (h : b ≤ a) : cmpI .geq a b = some true := by simp [cmpI, h]
theorem geF {a b : Int} (h : a < b) : cmpI .geq a b = some false := by simp [cmpI, h]
theorem QOp.cmp {x y : Operand} {o : BinOp} {k : IntKind} {i j : Int} {b : Bool} {t u : TypeId} (hx : ev S x = some (.int k i)) (hy : ev S y = some (.int k j)) (hb : cmpI o i j = some b) : QOp P n C S ⟨d, .binOp o t x y u, ty, pos, af, g⟩ (.bool b) :=
  .of fun a w hs hC => by cases o <;> simp only [cmpI] at hb <;> first | cases hb | skip
                          all_goals simp [execOp, hs.eval hx, hs.eval hy, eqGuard, binOp, Op.intCmp]
theorem QOp.notB {x : Operand} {b : Bool} {t : TypeId} (hx : ev S x = some (.bool b)) : QOp P n C S ⟨d, .unOp .not t x, ty, pos, af, g⟩ (.bool (!b)) :=
  .of fun a w hs hC => by simp [execOp, hs.eval hx, Op.unary]
theorem QOp.eqB {x y : Operand} {b c : Bool} {t u : TypeId} (ht : P.underlying t = some .bool) (hx : ev S x = some (.bool b)) (hy : ev S y = some (.bool c)) : QOp P n C S ⟨d, .binOp .eql t x y u, ty, pos, af, g⟩ (.bool (b == c)) :=
  .of fun a w hs hC => by
    have h1 : (eqGuard .eql t x y (.bool b) (.bool c)).run P w = .ok () w := by simp [eqGuard]
    simp [execOp, hs.eval hx, hs.eval hy, h1, run_eql_bool w t b c ht]
theorem QOp.neB {x y : Operand} {b c : Bool} {t u : TypeId} (ht : P.underlying t = some .bool) (hx : ev S x = some (.bool b)) (hy : ev S y = some (.bool c)) : QOp P n C S ⟨d, .binOp .neq t x y u, ty, pos, af, g⟩ (.bool (!(b == c))) :=
  .of fun a w hs hC => by
    have h1 : (eqGuard .neq t x y (.bool b) (.bool c)).run P w = .ok () w := by simp [eqGuard]
    simp [execOp, hs.eval hx, hs.eval hy, h1, run_neq_bool w t b c ht]
theorem QOp.ext {x : Operand} {vs : Array Value} {k : Nat} {v : Value} (hx : ev S x = some (.tuple vs)) (hv : vs[k]? = some v) : QOp P n C S ⟨d, .extract x k, ty, pos, af, g⟩ v :=
  .of fun a w hs hC => by simp [execOp, hs.eval hx, Instr.extract, hv]
/-! types: closed facts -/
structure One (P : Program) (t : TypeId) : Prop where
  out : ∃ u, P.underlying t = some u ∧ (match u with | .struct _ => false | .array _ _ => false | _ => true) = true ∧ (P.info? t).map (·.size) = some 1
structure Ag (P : Program) (t : TypeId) (k : Nat) : Prop where
  out : ∃ u, P.underlying t = some u ∧ (match u with | .struct _ => true | .array _ _ => true | _ => false) = true ∧ (P.info? t).map (·.size) = some k
structure Fld (P : Program) (t : TypeId) (k o : Nat) : Prop where
  out : ∃ fs f, P.underlying t = some (.struct fs) ∧ fs[k]? = some f ∧ f.offset = o ∧ ∃ m, (P.info? f.type).map (·.size) = some (m + 1)
/-- A slice type t: elements of type e, k cells, b bytes, zero cells z. -/
structure Slc (P : Program) (t e k b : Nat) (z : List Value) : Prop where
  t : P.underlying t = some (.slice e)
  e' : (P.info? e).map (fun i => (i.size, i.bytes, i.zero.map fun z => z.cells.toList)) = some (k, b, some z)
  zl : z.length = k
theorem Slc.e {P : Program} {t e k b : Nat} {z : List Value} (h : Slc P t e k b z) : ∃ i zv, P.info? e = some i ∧ i.size = k ∧ i.bytes = b ∧ i.zero = some zv ∧ zv.cells.toList = z := by
  obtain ⟨i, h1, h2⟩ := Option.map_eq_some_iff.1 h.e'
  simp only [Prod.mk.injEq, Option.map_eq_some_iff] at h2
  obtain ⟨h3, h4, zv, h5, h6⟩ := h2
  exact ⟨i, zv, h1, h3, h4, h5, h6⟩
structure Zr (P : Program) (t : TypeId) (z : List Value) : Prop where
  out' : (P.info? t).map (fun i => i.zero.map fun z => z.cells.toList) = some (some z)
theorem Zr.out {P : Program} {t : Nat} {z : List Value} (h : Zr P t z) : ∃ i zv, P.info? t = some i ∧ i.zero = some zv ∧ zv.cells.toList = z := by
  obtain ⟨i, h1, h2⟩ := Option.map_eq_some_iff.1 h.out'
  obtain ⟨zv, h5, h6⟩ := Option.map_eq_some_iff.1 h2
  exact ⟨i, zv, h1, h5, h6⟩
theorem run_isAgg1 {t : TypeId} (h : One P t) (w : World) : (isAgg t).run P w = .ok false w := by
  obtain ⟨u, hu, hb, _⟩ := h.out
  simp only [isAgg, Sem.run_bind, run_underlying hu]
  cases u <;> first | (simp at hb; done) | simp
theorem run_isAggA {t k : TypeId} (h : Ag P t k) (w : World) : (isAgg t).run P w = .ok true w := by
  obtain ⟨u, hu, hb, _⟩ := h.out
  simp only [isAgg, Sem.run_bind, run_underlying hu]
  cases u <;> first | (simp at hb; done) | simp
theorem run_size {t k : Nat} (h : (P.info? t).map (·.size) = some k) (w : World) : (sizeOf t).run P w = .ok k w := by
  obtain ⟨i, hi, he⟩ := Option.map_eq_some_iff.1 h
  simp [sizeOf, typeInfo, hi, he]
theorem QOp.fld {T k o b off : Nat} {x : Operand} (hF : Fld P T k o) (hx : ev S x = some (.pointer (some ⟨b, off, none⟩))) : QOp P n C S ⟨d, .fieldAddr T x k, ty, pos, af, g⟩ (.pointer (some ⟨b, off + o, none⟩)) :=
  .of fun a w hs hC => by
    obtain ⟨fs, f, hu, hf, ho, m, hm⟩ := hF.out
    subst ho
    have e : (⟨b, off, none⟩ : Addr).add f.offset = ⟨b, off + f.offset, none⟩ := by unfold Addr.add; split <;> simp_all
    simp [execOp, hs.eval hx, Instr.fieldAt, Instr.sureAddr, run_underlying hu, hf, fieldPlace, run_size hm, e]
theorem QOp.lenS {x : Operand} {A : Option Addr} {m c : Nat} {t e : TypeId} (ht : P.underlying t = some (.slice e)) (hx : ev S x = some (.slice A m c)) : QOp P n C S ⟨d, .call { callee := .builtin .len, args := #[x], argTypes := #[t] }, ty, pos, af, g⟩ (.int .i64 (m : Int)) :=
  .of fun a w hs hC => by simp [execOp, resolve, invoke, builtin, hs.eval hx, Builtin.len_, run_underlying ht, goInt]
theorem QOp.ix {x i : Operand} {b off m c j : Nat} {t e k by_ : Nat} {z : List Value} (ht : Slc P t e k by_ z) (hx : ev S x = some (.slice (some ⟨b, off, none⟩) m c)) (hi : ev S i = some (.int .i64 (j : Int))) (hj : j < m) : QOp P n C S ⟨d, .indexAddr t x i, ty, pos, af, g⟩ (.pointer (some ⟨b, off + j * k, none⟩)) :=
  .of fun a w hs hC => by
    obtain ⟨inf, zv, h1, h2, _⟩ := ht.e
    have e1 : ((⟨b, off, none⟩ : Addr).add (j * k)) = ⟨b, off + j * k, none⟩ := by unfold Addr.add; split <;> simp_all
    have e2 : (0 : Int) ≤ (j : Int) ∧ (j : Int) < (m : Int) := by omega
    simp [execOp, hs.eval hx, hs.eval hi, Instr.indexAt, asIntOf, run_underlying ht.t, sizeOf, typeInfo, h1, h2, e1, e2, hj]
/-! reads -/
theorem QOp.ld {x : Operand} {p : Addr} {t : TypeId} {v : Value} (ho : One P t) (hx : ev S x = some (.pointer (some p))) (hc : ∀ w, C w → w.cell? p = some v) : QOp P n C S ⟨d, .load t x, ty, pos, af, g⟩ v :=
  .of fun a w hs hC => by simp [execOp, hs.eval hx, Instr.loadAt, Instr.sureAddr, loadVar, run_isAgg1 ho, load, Sem.run, hc w hC]
theorem run_loadCellsFrom {w : World} {b off : Nat} {cs : List Value} (h : ∀ j, j < cs.length → w.cell? ⟨b, off + j, none⟩ = cs[j]?) : ∀ (m i : Nat) (acc : Array Value), i + m = cs.length → (loadCellsFrom ⟨b, off, none⟩ i m acc).run P w = .ok (acc ++ (cs.drop i).toArray) w
  | 0, i, acc, hi => by simp [loadCellsFrom, List.drop_of_length_le (show cs.length ≤ i by omega)]
  | m + 1, i, acc, hi => by
    have e1 : ((⟨b, off, none⟩ : Addr).add i) = ⟨b, off + i, none⟩ := by unfold Addr.add; split <;> simp_all
    have hlt : i < cs.length := by omega
    have hc := h i hlt
    rw [List.getElem?_eq_getElem hlt] at hc
    simp only [loadCellsFrom, Sem.run_bind, load, e1, Sem.run, hc, Result.andThen_ok]
    rw [run_loadCellsFrom h m (i + 1) _ (by omega)]
    rw [List.drop_eq_getElem_cons hlt]
    simp
theorem QOp.ldA {x : Operand} {b off k : Nat} {t : TypeId} {cs : List Value} (ho : Ag P t k) (hx : ev S x = some (.pointer (some ⟨b, off, none⟩))) (hk : cs.length = k) (hc : ∀ w, C w → ∀ j, j < cs.length → w.cell? ⟨b, off + j, none⟩ = cs[j]?) : QOp P n C S ⟨d, .load t x, ty, pos, af, g⟩ (.agg cs.toArray) :=
  .of fun a w hs hC => by
    obtain ⟨_, _, _, hm⟩ := ho.out
    have h1 := run_loadCellsFrom (P := P) (hc w hC) k 0 #[] (by omega)
    simp only [List.drop_zero, Array.empty_append] at h1
    simp [execOp, hs.eval hx, Instr.loadAt, Instr.sureAddr, loadVar, run_isAggA ho, run_size hm, loadCells, h1]
end
section
variable {P : Program} {n : Nat} {S : SS} {d : Option Nat} {ty : TypeId} {pos : String} {af : Array Edge} {g : Option (Nat × Bool)} {w0 we : World} {Le L : List Blk}
theorem Z.cell {w : World} (hz : Z w0 we Le L w) {b : Nat} {c : List Value} {T : TypeId} {fr : Nat × Nat} {i off : Nat} (hL : L[i]? = some (b, .cells c.toArray T fr)) : w.cell? ⟨b, off, none⟩ = c[off]? := by
  have := hz.h.has _ (List.mem_of_getElem? hL)
  simp [World.cell?, this]
theorem Z.old {w : World} (hz : Z w0 we Le L w) {p : Addr} {v : Value} (h : w0.cell? p = some v) : w.cell? p = some v := (hz.h.below.cell (World.block_lt_of_cell? w0 p h)).trans h
/-- A read of a block of the call's own, the i-th. -/
theorem QOp.ldO {x : Operand} {b off : Nat} {t T : TypeId} {c : List Value} {fr : Nat × Nat} {v : Value} (ho : One P t) (i : Nat) (hx : ev S x = some (.pointer (some ⟨b, off, none⟩))) (hL : L[i]? = some (b, .cells c.toArray T fr)) (hv : c[off]? = some v) : QOp P n (Z w0 we Le L) S ⟨d, .load t x, ty, pos, af, g⟩ v :=
  .ld ho hx fun w hz => by rw [hz.cell hL, hv]
theorem QOp.ldOA {x : Operand} {b off k : Nat} {t T : TypeId} {c cs : List Value} {fr : Nat × Nat} (ho : Ag P t k) (i : Nat) (hx : ev S x = some (.pointer (some ⟨b, off, none⟩))) (hL : L[i]? = some (b, .cells c.toArray T fr)) (hv : (c.drop off).take k = cs) (hk : cs.length = k) : QOp P n (Z w0 we Le L) S ⟨d, .load t x, ty, pos, af, g⟩ (.agg cs.toArray) :=
  .ldA ho hx hk fun w hz j hj => by
    rw [hz.cell hL, ← hv]
    rw [List.getElem?_take_of_lt (by omega), List.getElem?_drop]
/-- A read of what was there. -/
theorem QOp.ldW {x : Operand} {p : Addr} {t : TypeId} {v : Value} (ho : One P t) (hx : ev S x = some (.pointer (some p))) (h : w0.cell? p = some v) : QOp P n (Z w0 we Le L) S ⟨d, .load t x, ty, pos, af, g⟩ v :=
  .ld ho hx fun w hz => hz.old h
theorem QOp.ldWA {x : Operand} {b off k : Nat} {t : TypeId} {cs : List Value} (ho : Ag P t k) (hx : ev S x = some (.pointer (some ⟨b, off, none⟩))) (hk : cs.length = k) (h : ∀ j, j < cs.length → w0.cell? ⟨b, off + j, none⟩ = cs[j]?) : QOp P n (Z w0 we Le L) S ⟨d, .load t x, ty, pos, af, g⟩ (.agg cs.toArray) :=
  .ldA ho hx hk fun w hz j hj => by
    have := h j hj
    rw [List.getElem?_eq_getElem hj] at this ⊢
    exact hz.old this
end

/-! ### 6. Effects: the next list of operations stands under a new list of blocks -/
theorem perm_pick {α : Type} : ∀ (l : List α) (i : Nat) (x : α), l[i]? = some x → l.Perm (x :: l.eraseIdx i)
  | [], i, x, h => by simp at h
  | y :: l, 0, x, h => by simp at h; subst h; exact List.Perm.refl _
  | y :: l, i + 1, x, h => by
    have := perm_pick l i x (by simpa using h)
    exact (this.cons y).trans (List.Perm.swap ..)
theorem perm_set {α : Type} : ∀ (l : List α) (i : Nat) (x y : α), l[i]? = some x → (y :: l.eraseIdx i).Perm (l.set i y)
  | [], i, x, y, h => by simp at h
  | z :: l, 0, x, y, h => by exact List.Perm.refl _
  | z :: l, i + 1, x, y, h => by
    have := perm_set l i x y (by simpa using h)
    exact (List.Perm.swap z y _).trans (this.cons z)
theorem Z.setI {w0 we w : World} {Le L : List Blk} {b : Nat} {c : List Value} {T : TypeId} {fr : Nat × Nat} (h : Z w0 we Le L w) (i : Nat) (hL : L[i]? = some (b, .cells c.toArray T fr)) (off : Nat) (v : Value) : Z w0 we Le (L.set i (b, .cells (c.set off v).toArray T fr)) (w.setCell ⟨b, off, none⟩ v) := by
  have h1 := (h.perm (perm_pick L i _ hL)).set off v
  have e : c.toArray.setIfInBounds off v = (c.set off v).toArray := by simp
  rw [e] at h1
  exact h1.perm (perm_set L i _ _ hL)
section
variable {P : Program} {n : Nat} {ops : Array Oper} {Q : Exit → Act → World → Prop} {S : SS} {rest : List Oper} {d : Nat} {ty : TypeId} {pos : String} {af : Array Edge} {g : Option (Nat × Bool)} {w0 we : World} {Le L : List Blk}
/-- One operation with an effect, from what it comes to. -/
theorem W.eff {op : Op} (D : Value → World → Prop) (hrun : ∀ a w, Sl n a S → Z w0 we Le L w → ∃ v w', (execOp a.eval ⟨some d, op, ty, pos, af, g⟩).run P w = .ok (.value v) w' ∧ D v w') (h : ∀ v, W P n ops Q (D v) rest ((d, v) :: S)) (hg : gd ops S g = some true := by rfl) (hd : Nat.blt d n = true := by rfl) : W P n ops Q (Z w0 we Le L) (⟨some d, op, ty, pos, af, g⟩ :: rest) S := by
  intro a w hs hC
  have hw : Region.wanted ⟨some d, op, ty, pos, af, g⟩ (yielded ops a.tmps) = true := gd_wanted hs hg
  obtain ⟨v, w', hr, hD⟩ := hrun a w hs hC
  unfold wpList
  rw [if_pos hw]
  left
  unfold Oper.wp
  rw [hr]
  exact h v _ w' (hs.put hd) hD
theorem W.world {C C' : World → Prop} {l : List Oper} (h : W P n ops Q C' l S) (hs : ∀ w, C w → C' w) : W P n ops Q C l S := fun a w k hC => h a w k (hs w hC)
theorem W.ex {C : World → Prop} {α : Type} {D : α → World → Prop} {l : List Oper} (h : ∀ x, W P n ops Q (D x) l S) (hs : ∀ w, C w → ∃ x, D x w) : W P n ops Q C l S := fun a w k hC => let ⟨x, hx⟩ := hs w hC; h x a w k hx
theorem run_newRow (e : TypeId) (c : Array Value) (w : World) : (newRow e c).run P w = .ok ⟨w.heap.size, 0, none⟩ (w.alloc (.cells c e)) := by simp [newRow, newObj, Sem.run]
theorem W.alloc {t : TypeId} {z : List Value} (hz : Zr P t z) (h : ∀ b, W P n ops Q (Z w0 we Le ((b, .cells z.toArray t (0, 0)) :: L)) rest ((d, .pointer (some ⟨b, 0, none⟩)) :: S)) (hg : gd ops S g = some true := by rfl) (hd : Nat.blt d n = true := by rfl) : W P n ops Q (Z w0 we Le L) (⟨some d, .alloc t, ty, pos, af, g⟩ :: rest) S := by
  refine W.eff (fun v w' => ∃ b, v = .pointer (some ⟨b, 0, none⟩) ∧ Z w0 we Le ((b, .cells z.toArray t (0, 0)) :: L) w') (fun a w hs hC => ?_) (fun v => ?_) hg hd
  · obtain ⟨i, zv, h1, h2, h3⟩ := hz.out
    refine ⟨.pointer (some ⟨w.heap.size, 0, none⟩), w.alloc (.cells z.toArray t), ?_, _, rfl, hC.alloc _⟩
    have e : zv.cells = z.toArray := by rw [← h3]
    simp [execOp, Instr.alloc, zeroValue, typeInfo, h1, h2, newVar, run_newRow, e]
  · intro a w hs hC
    obtain ⟨b, rfl, hZ⟩ := hC
    exact h b a w hs hZ
theorem W.box {t : TypeId} {x : Operand} {v : Value} (hx : ev S x = some v) (h : ∀ b, W P n ops Q (Z w0 we Le ((b, .cells v.cells t (0, 0)) :: L)) rest ((d, .pointer (some ⟨b, 0, none⟩)) :: S)) (hg : gd ops S g = some true := by rfl) (hd : Nat.blt d n = true := by rfl) : W P n ops Q (Z w0 we Le L) (⟨some d, .box t x, ty, pos, af, g⟩ :: rest) S := by
  refine W.eff (fun v' w' => ∃ b, v' = .pointer (some ⟨b, 0, none⟩) ∧ Z w0 we Le ((b, .cells v.cells t (0, 0)) :: L) w') (fun a w hs hC => ?_) (fun v => ?_) hg hd
  · refine ⟨.pointer (some ⟨w.heap.size, 0, none⟩), w.alloc (.cells v.cells t), ?_, _, rfl, hC.alloc _⟩
    simp [execOp, hs.eval hx, Instr.box, newVar, run_newRow]
  · intro a w hs hC
    obtain ⟨b, rfl, hZ⟩ := hC
    exact h b a w hs hZ
/-- A store of one cell into the i-th block. -/
theorem W.st {t : TypeId} {x y : Operand} {b off : Nat} {T : TypeId} {c : List Value} {v : Value} (ho : One P t) (i : Nat) (hx : ev S x = some (.pointer (some ⟨b, off, none⟩))) (hy : ev S y = some v) (hv : v.oneCell' = true) (hL : L[i]? = some (b, .cells c.toArray T (0, 0))) (hlt : Nat.blt off c.length = true) (h : W P n ops Q (Z w0 we Le (L.set i (b, .cells (c.set off v).toArray T (0, 0)))) rest S) (hg : gd ops S g = some true := by rfl) : W P n ops Q (Z w0 we Le L) (⟨none, .store t x y, ty, pos, af, g⟩ :: rest) S := by
  intro a w hs hC
  have hw : Region.wanted ⟨none, .store t x y, ty, pos, af, g⟩ (yielded ops a.tmps) = true := gd_wanted hs hg
  have hlt' : off < c.length := by simpa [Nat.blt_eq] using hlt
  have hcell := hC.cell (off := off) hL
  rw [List.getElem?_eq_getElem hlt'] at hcell
  have hb := hC.h.has _ (List.mem_of_getElem? hL)
  have hfz : w.frozen? ⟨b, off, none⟩ = false := by simp [World.frozen?, hb]
  obtain ⟨u, hu, hb1, hsz⟩ := ho.out
  have hvc : v.cells = #[v] := by cases v <;> simp_all [Value.cells, Value.oneCell']
  have hrun : (execOp a.eval ⟨none, .store t x y, ty, pos, af, g⟩).run P w = .ok .skip (w.setCell ⟨b, off, none⟩ v) := by
    simp only [execOp, hs.eval hx, hs.eval hy, Instr.storeAt, Instr.sureAddr, storeVar, Sem.run_bind, Sem.run_pure, Result.andThen_ok, run_size hsz, hvc]
    cases v <;> simp_all [storeCells, store, Sem.run, Addr.add, Value.oneCell']
  unfold wpList
  rw [if_pos hw]
  left
  unfold Oper.wp
  rw [hrun]
  exact h _ _ hs.put0 (hC.setI i hL off v)
theorem run_store_one {w : World} {p : Addr} {u v : Value} (hc : w.cell? p = some u) (hf : w.frozen? p = false) (hv : v.oneCell' = true) : (store p v).run P w = .ok () (w.setCell p v) := by
  cases v <;> first | (cases hv; done) | simp [store, Sem.run, hc, hf]
theorem run_storeCells {w0 we : World} {Le : List Blk} {b : Nat} {T : TypeId} : ∀ (vs : List Value) (i off : Nat) (w : World) (L : List Blk) (k : Nat) (c : List Value), Z w0 we Le L w → L[k]? = some (b, .cells c.toArray T (0, 0)) → off + i + vs.length ≤ c.length → (∀ u ∈ vs, u.oneCell' = true) →
    ∃ w', (storeCells ⟨b, off, none⟩ vs i).run P w = .ok () w' ∧ Z w0 we Le (L.set k (b, .cells (c.take (off + i) ++ vs ++ c.drop (off + i + vs.length)).toArray T (0, 0))) w'
  | [], i, off, w, L, k, c, hz, hL, hlen, h1 => by
    refine ⟨w, by simp [storeCells], ?_⟩
    have e : c.take (off + i) ++ [] ++ c.drop (off + i + ([] : List Value).length) = c := by simp
    rw [e]
    have : L.set k (b, .cells c.toArray T (0, 0)) = L := by
      apply List.ext_getElem?
      intro j
      rw [List.getElem?_set]
      split
      · rename_i e; subst e
        split
        · exact hL.symm
        · rename_i hlt
          exact absurd (List.getElem?_eq_some_iff.1 hL).1 hlt
      · rfl
    rw [this]; exact hz
  | u :: vs, i, off, w, L, k, c, hz, hL, hlen, h1 => by
    simp only [List.length_cons] at hlen
    have e1 : ((⟨b, off, none⟩ : Addr).add i) = ⟨b, off + i, none⟩ := by unfold Addr.add; split <;> simp_all
    have hcell := hz.cell (off := off + i) hL
    rw [List.getElem?_eq_getElem (by omega)] at hcell
    have hb := hz.h.has _ (List.mem_of_getElem? hL)
    have hfz : w.frozen? ⟨b, off + i, none⟩ = false := by simp [World.frozen?, hb]
    have hu := h1 u (List.mem_cons_self ..)
    have hz' := hz.setI k hL (off + i) u
    have hkl : k < L.length := (List.getElem?_eq_some_iff.1 hL).1
    obtain ⟨w', hr, hZ⟩ := run_storeCells (b := b) (T := T) vs (i + 1) off _ (L.set k (b, .cells (c.set (off + i) u).toArray T (0, 0))) k (c.set (off + i) u) hz' (by simp [hkl]) (by simp; omega) (fun x hx => h1 x (List.mem_cons_of_mem _ hx))
    refine ⟨w', ?_, ?_⟩
    · have hs : (store ⟨b, off + i, none⟩ u).run P w = .ok () (w.setCell ⟨b, off + i, none⟩ u) := by
        exact run_store_one hcell hfz hu
      simp only [storeCells, Sem.run_bind, e1, hs, Result.andThen_ok]
      exact hr
    · have e2 : (c.set (off + i) u).take (off + (i + 1)) ++ vs ++ (c.set (off + i) u).drop (off + (i + 1) + vs.length) = c.take (off + i) ++ (u :: vs) ++ c.drop (off + i + (u :: vs).length) := by
        rw [show off + (i + 1) = (off + i) + 1 by omega]
        rw [List.take_succ_eq_append_getElem (by simp; omega), List.getElem_set_self, List.take_set_of_le (Nat.le_refl _), List.drop_set_of_lt (by omega)]
        simp only [List.append_assoc, List.cons_append, List.nil_append, List.length_cons]
        rw [show off + i + 1 + vs.length = off + i + (vs.length + 1) by omega]
      rw [e2, List.set_set] at hZ
      exact hZ
/-- A store of a struct into the i-th block. -/
theorem W.stA {t : TypeId} {x y : Operand} {b off k : Nat} {T : TypeId} {c vs : List Value} (ho : Ag P t k) (i : Nat) (hx : ev S x = some (.pointer (some ⟨b, off, none⟩))) (hy : ev S y = some (.agg vs.toArray)) (hk : vs.length = k) (hv0 : vs.all Value.oneCell' = true) (hL : L[i]? = some (b, .cells c.toArray T (0, 0))) (hlt0 : Nat.ble (off + vs.length) c.length = true) (h : W P n ops Q (Z w0 we Le (L.set i (b, .cells (c.take off ++ vs ++ c.drop (off + vs.length)).toArray T (0, 0)))) rest S) (hg : gd ops S g = some true := by rfl) : W P n ops Q (Z w0 we Le L) (⟨none, .store t x y, ty, pos, af, g⟩ :: rest) S := by
  intro a w hs hC
  have hw : Region.wanted ⟨none, .store t x y, ty, pos, af, g⟩ (yielded ops a.tmps) = true := gd_wanted hs hg
  obtain ⟨u, hu, hb1, hsz⟩ := ho.out
  have hlt := Nat.le_of_ble_eq_true hlt0
  have hv : ∀ u ∈ vs, u.oneCell' = true := by simpa using hv0
  obtain ⟨w', hr, hZ⟩ := run_storeCells (P := P) vs 0 off w L i c hC hL (by omega) hv
  simp only [Nat.add_zero] at hZ
  have hrun : (execOp a.eval ⟨none, .store t x y, ty, pos, af, g⟩).run P w = .ok .skip w' := by
    simp only [execOp, hs.eval hx, hs.eval hy, Instr.storeAt, Instr.sureAddr, storeVar, Sem.run_bind, Sem.run_pure, Result.andThen_ok, run_size hsz, Value.cells, List.size_toArray, hk, ne_eq, not_true_eq_false, if_false]
    simp [hr]
  unfold wpList
  rw [if_pos hw]
  left
  unfold Oper.wp
  rw [hrun]
  exact h _ _ hs.put0 hZ
/-! slices of the call's own -/
/-- v is a slice with m elements of type e (k cells each), whose cells are cs, and Lx is its block (none, where it is nil). -/
def OS (e k : Nat) (v : Value) (cs : List Value) (m : Nat) (Lx : List Blk) : Prop :=
  cs.length = m * k ∧ ((v = .slice none 0 0 ∧ m = 0 ∧ Lx = []) ∨ ∃ b cap cur, v = .slice (some ⟨b, 0, none⟩) m cap ∧ Lx = [(b, .cells cur e (0, 0))] ∧ m ≤ cap ∧ cap ≤ maxLen ∧ cur.size = cap * k ∧ cur.toList.take (m * k) = cs)
theorem OS.nil (e k : Nat) : OS e k (.slice none 0 0) [] 0 [] := ⟨by simp, .inl ⟨rfl, rfl, rfl⟩⟩
theorem OS.owns {e k m : Nat} {v : Value} {cs : List Value} {Lx Lr : List Blk} {w : World} (h : OS e k v cs m Lx) (hz : H w0 w (Lx ++ Lr)) : w.ownsRow w0.heap.size e k v m cs := by
  refine ⟨h.1, ?_⟩
  rcases h.2 with ⟨rfl, h0, _⟩ | ⟨b, cap, cur, rfl, rfl, h1, h2, h3, h4⟩
  · exact .inl ⟨rfl, h0⟩
  · exact .inr ⟨b, cap, cur, rfl, hz.own (b, .cells cur e (0, 0)) (by simp), hz.has (b, .cells cur e (0, 0)) (by simp), h1, h2, h3, h4⟩
theorem OS.block {e k m : Nat} {v : Value} {cs : List Value} {Lx : List Blk} (h : OS e k v cs m Lx) : ∀ x ∈ Lx, v.ownBlock = some x.1 := by
  rcases h.2 with ⟨rfl, h0, rfl⟩ | ⟨b, cap, cur, rfl, rfl, h1, h2, h3, h4⟩
  · intro x hx; cases hx
  · intro x hx; simp at hx; subst hx; rfl
theorem OS.noblock {e k m : Nat} {v : Value} {cs : List Value} {Lx : List Blk} (h : OS e k v cs m Lx) (j : Nat) (hj : v.ownBlock = some j) : ∃ o, Lx = [(j, o)] := by
  rcases h.2 with ⟨rfl, h0, rfl⟩ | ⟨b, cap, cur, rfl, rfl, h1, h2, h3, h4⟩
  · cases hj
  · have : b = j := by simpa [Value.ownBlock] using hj
    subst this; exact ⟨_, rfl⟩
/-- Behind an append: its row may be the old one or a new one; all others are as they were. -/
theorem Z.grown {w w' : World} {e k m m' : Nat} {v v' : Value} {cs cs' : List Value} {Lx Lr : List Blk} (hz : Z w0 we Le (Lx ++ Lr) w) (ho : OS e k v cs m Lx) (hown : w'.ownsRow w0.heap.size e k v' m' cs') (hg : w.grownBy w' v.ownBlock) (hat : v'.ownBlock = v.ownBlock ∨ v'.ownBlock = some w.heap.size) :
    ∃ Lx', OS e k v' cs' m' Lx' ∧ Z w0 we Le (Lx' ++ Lr) w' := by
  have hsize := hz.h.below.size
  have hnd := hz.h.nd
  simp only [List.map_append, List.nodup_append] at hnd
  -- the new row's block
  have hx : ∃ Lx', OS e k v' cs' m' Lx' ∧ (∀ x ∈ Lx', w'.heap[x.1]? = some x.2) ∧ (Lx'.map (·.1)).Nodup ∧ ∀ x ∈ Lx', v'.ownBlock = some x.1 := by
    rcases hown.2 with ⟨rfl, h0⟩ | ⟨b, cap, cur, rfl, hb, hh, h1, h2, h3, h4⟩
    · exact ⟨[], ⟨hown.1, .inl ⟨rfl, h0, rfl⟩⟩, fun x hx => absurd hx (List.not_mem_nil), List.nodup_nil, fun x hx => absurd hx (List.not_mem_nil)⟩
    · exact ⟨[(b, .cells cur e (0, 0))], ⟨hown.1, .inr ⟨b, cap, cur, rfl, rfl, h1, h2, h3, h4⟩⟩, fun x hx => by simp at hx; subst hx; exact hh, by simp, fun x hx => by simp at hx; subst hx; rfl⟩
  obtain ⟨Lx', h1, h2, h3, h4⟩ := hx
  have hnew : ∀ x ∈ Lx', x.1 ∈ Lx.map (·.1) ∨ x.1 = w.heap.size := by
    intro x hx
    have := h4 x hx
    rcases hat with hat | hat
    · obtain ⟨o, ho'⟩ := ho.noblock x.1 (hat ▸ this)
      left; rw [ho']; simp
    · right; rw [this] at hat; exact Option.some.inj hat
  have hlt : ∀ x ∈ Lx ++ Lr, x.1 < w.heap.size := fun x hx => hz.h.lt hx
  have hkeep : ∀ j, j < w.heap.size → j ∉ Lx.map (·.1) → w'.heap[j]? = w.heap[j]? := by
    intro j hj hn
    refine hg.block j hj fun e => hn ?_
    obtain ⟨o, ho'⟩ := ho.noblock j e.symm
    rw [ho']; simp
  refine ⟨Lx', h1, ⟨⟨⟨hg.os.trans hz.h.below.os, hg.tape.trans hz.h.below.tape, hg.output.trans hz.h.below.output, Nat.le_trans hsize hg.size, fun j hj => ?_⟩, fun x hx => ?_, fun x hx => ?_, ?_⟩, hg.os.trans hz.u.os, hg.tape.trans hz.u.tape, hg.output.trans hz.u.output, Nat.le_trans hz.u.size hg.size, fun j hj hn => ?_, fun b hb => ?_⟩⟩
  · rw [hkeep j (by omega) (fun hm => by
      obtain ⟨x, hx, e⟩ := List.mem_map.1 hm
      have := hz.h.own x (List.mem_append_left _ hx)
      omega)]
    exact hz.h.below.block j hj
  · rcases List.mem_append.1 hx with hx | hx
    · exact h2 x hx
    · rw [hkeep x.1 (hlt x (List.mem_append_right _ hx)) (fun hm => hnd.2.2 x.1 hm x.1 (List.mem_map_of_mem hx) rfl)]
      exact hz.h.has x (List.mem_append_right _ hx)
  · rcases List.mem_append.1 hx with hx | hx
    · rcases hnew x hx with h5 | h5
      · obtain ⟨y, hy, e⟩ := List.mem_map.1 h5
        have := hz.h.own y (List.mem_append_left _ hy)
        omega
      · omega
    · exact hz.h.own x (List.mem_append_right _ hx)
  · simp only [List.map_append, List.nodup_append]
    refine ⟨h3, hnd.2.1, fun x hx y hy e => ?_⟩
    subst e
    obtain ⟨z, hz1, ez⟩ := List.mem_map.1 hx
    obtain ⟨u, hu, eu⟩ := List.mem_map.1 hy
    rcases hnew z hz1 with h5 | h5
    · exact hnd.2.2 z.1 h5 u.1 (List.mem_map_of_mem hu) (by omega)
    · have := hlt u (List.mem_append_right _ hu)
      omega
  · by_cases e : j ∈ Lx.map (·.1)
    · rcases hz.u.fresh j (by rw [List.map_append]; exact List.mem_append_left _ e) with h5 | h5
      · exact absurd h5 hn
      · omega
    · rw [hkeep j (by have := hz.u.size; omega) e]
      exact hz.u.frame j hj hn
  · rw [List.map_append] at hb
    rcases List.mem_append.1 hb with hb | hb
    · obtain ⟨x, hx, rfl⟩ := List.mem_map.1 hb
      rcases hnew x hx with h5 | h5
      · exact hz.u.fresh x.1 (by rw [List.map_append]; exact List.mem_append_left _ h5)
      · exact .inr (by have := hz.u.size; omega)
    · exact hz.u.fresh b (by rw [List.map_append]; exact List.mem_append_right _ hb)
end

/-! ### 7. append, make, literals, calls -/
def evs (S : SS) : List Operand → Option (List Value)
  | [] => some []
  | x :: l => (ev S x).bind fun v => (evs S l).bind fun vs => some (v :: vs)
theorem Sl.evals {n : Nat} {a : Act} {S : SS} (hs : Sl n a S) : ∀ {l : List Operand} {vs : List Value}, evs S l = some vs → l.map a.eval = vs
  | [], vs, h => by simpa [evs] using h
  | x :: l, vs, h => by
    simp only [evs] at h
    obtain ⟨v, hv, h⟩ := Option.bind_eq_some_iff.1 h
    obtain ⟨us, hu, h⟩ := Option.bind_eq_some_iff.1 h
    obtain rfl := Option.some.inj h
    rw [List.map_cons, hs.eval hv, Sl.evals hs hu]
structure Fnc (P : Program) (f : FuncId) : Prop where
  out' : (P.funcs[f]?).map (fun fn => (fn.name == "runtime.NumGoroutine", fn.body.isNone)) = some (false, false)
theorem Fnc.out {P : Program} {f : FuncId} (h : Fnc P f) : ∃ fn, P.funcs[f]? = some fn ∧ (fn.name == "runtime.NumGoroutine") = false ∧ fn.body.isNone = false := by
  obtain ⟨fn, h1, h2⟩ := Option.map_eq_some_iff.1 h.out'
  simp only [Prod.mk.injEq] at h2
  exact ⟨fn, h1, h2.1, h2.2⟩
theorem run_callFunc {P : Program} {f : FuncId} (h : Fnc P f) (args : Array Value) (w : World) : (callFunc f args).run P w = .ok (.enter f args) w := by
  obtain ⟨fn, h1, h2, h3⟩ := h.out
  have h2' : fn.name ≠ "runtime.NumGoroutine" := by simpa using h2
  have h3' : fn.body ≠ none := by intro e; rw [e] at h3; cases h3
  simp [callFunc, h1, h2', h3']
section
variable {P : Program} {n : Nat} {ops : Array Oper} {Q : Exit → Act → World → Prop} {S : SS} {rest : List Oper} {d : Nat} {ty : TypeId} {pos : String} {af : Array Edge} {g : Option (Nat × Bool)} {w0 we : World} {Le L : List Blk}
theorem run_call {d : Option Nat} {a : Act} {w : World} {f : FuncId} {fo : Operand} {args : List Operand} {ts : Array TypeId} {fst cap : List Value} {vs : List Value} (hs : Sl n a S) (hF : Fnc P f) (hf : ev S fo = some (.func (.func f) fst.toArray cap.toArray)) (ha : evs S args = some vs) :
    (execOp a.eval ⟨d, .call { callee := .value fo, args := args.toArray, argTypes := ts }, ty, pos, af, g⟩).run P w = .ok (.enter f (fst ++ vs ++ cap).toArray) w := by
  have h1 : args.toArray.map a.eval = vs.toArray := by simp [hs.evals ha]
  simp [execOp, resolve, hs.eval hf, h1, Deferred.ofValue, invoke, run_callFunc hF]
theorem QOp.callC {d : Option Nat} {C : World → Prop} {f : FuncId} {fo : Operand} {args : List Operand} {ts : Array TypeId} {fst cap vs : List Value} {v : Value} (hF : Fnc P f) (hf : ev S fo = some (.func (.func f) fst.toArray cap.toArray)) (ha : evs S args = some vs) (hc : ∀ w, C w → Calls P f (fst ++ vs ++ cap).toArray w fun e w' => e = .returned v ∧ C w') : QOp P n C S ⟨d, .call { callee := .value fo, args := args.toArray, argTypes := ts }, ty, pos, af, g⟩ v := by
  intro a w hs hC
  unfold Oper.quietAt
  rw [run_call hs hF hf ha]
  exact ⟨rfl, hc w hC⟩
/-- A callee that hands over one known value and no block. -/
theorem QOp.call {d : Option Nat} {f : FuncId} {args : List Operand} {ts : Array TypeId} {vs : List Value} {v : Value} (hF : Fnc P f) (ha : evs S args = some vs) (hc : ∀ w, Z w0 we Le L w → Calls P f vs.toArray w fun e w' => e = .returned v ∧ Z w w [] [] w') : QOp P n (Z w0 we Le L) S ⟨d, .call { callee := .value (.func f), args := args.toArray, argTypes := ts }, ty, pos, af, g⟩ v :=
  .callC (fst := []) (cap := []) hF rfl ha fun w hC => by
    simp only [List.nil_append, List.append_nil]
    exact (hc w hC).mono fun e w' h => ⟨h.1, hC.callA h.2⟩
theorem W.callX {C' : Value → World → Prop} {f : FuncId} {fo : Operand} {args : List Operand} {ts : Array TypeId} {fst cap vs : List Value} (hF : Fnc P f) (hf : ev S fo = some (.func (.func f) fst.toArray cap.toArray)) (ha : evs S args = some vs) (hc : ∀ w, Z w0 we Le L w → Calls P f (fst ++ vs ++ cap).toArray w fun e w' => ∃ v, e = .returned v ∧ C' v w') (h : ∀ v, W P n ops Q (C' v) rest ((d, v) :: S)) (hg : gd ops S g = some true := by rfl) (hd : Nat.blt d n = true := by rfl) : W P n ops Q (Z w0 we Le L) (⟨some d, .call { callee := .value fo, args := args.toArray, argTypes := ts }, ty, pos, af, g⟩ :: rest) S := by
  intro a w hs hC
  have hw : Region.wanted ⟨some d, .call { callee := .value fo, args := args.toArray, argTypes := ts }, ty, pos, af, g⟩ (yielded ops a.tmps) = true := gd_wanted hs hg
  unfold wpList
  rw [if_pos hw]
  left
  unfold Oper.wp
  rw [run_call hs hF hf ha]
  exact (hc w hC).mono fun e w' he => by
    obtain ⟨v, rfl, hv⟩ := he
    exact h v _ w' (hs.put hd) hv
theorem W.callX0 {C' : World → Prop} {f : FuncId} {fo : Operand} {args : List Operand} {ts : Array TypeId} {fst cap vs : List Value} (hF : Fnc P f) (hf : ev S fo = some (.func (.func f) fst.toArray cap.toArray)) (ha : evs S args = some vs) (hc : ∀ w, Z w0 we Le L w → Calls P f (fst ++ vs ++ cap).toArray w fun e w' => ∃ v, e = .returned v ∧ C' w') (h : W P n ops Q C' rest S) (hg : gd ops S g = some true := by rfl) : W P n ops Q (Z w0 we Le L) (⟨none, .call { callee := .value fo, args := args.toArray, argTypes := ts }, ty, pos, af, g⟩ :: rest) S := by
  intro a w hs hC
  have hw : Region.wanted ⟨none, .call { callee := .value fo, args := args.toArray, argTypes := ts }, ty, pos, af, g⟩ (yielded ops a.tmps) = true := gd_wanted hs hg
  unfold wpList
  rw [if_pos hw]
  left
  unfold Oper.wp
  rw [run_call hs hF hf ha]
  exact (hc w hC).mono fun e w' he => by
    obtain ⟨v, rfl, hv⟩ := he
    exact h _ w' hs.put0 hv
/-- A callee that makes blocks of its own and hands some of them over. -/
theorem W.callA {f : FuncId} {args : List Operand} {ts : Array TypeId} {vs : List Value} {Post : Value → List Blk → Prop} (hF : Fnc P f) (ha : evs S args = some vs) (hc : ∀ w, Z w0 we Le L w → Calls P f vs.toArray w fun e w' => ∃ v L', e = .returned v ∧ Z w w [] L' w' ∧ Post v L') (h : ∀ v L', Post v L' → W P n ops Q (Z w0 we Le (L' ++ L)) rest ((d, v) :: S)) (hg : gd ops S g = some true := by rfl) (hd : Nat.blt d n = true := by rfl) : W P n ops Q (Z w0 we Le L) (⟨some d, .call { callee := .value (.func f), args := args.toArray, argTypes := ts }, ty, pos, af, g⟩ :: rest) S :=
  W.callX (fst := []) (cap := []) (C' := fun v w' => ∃ L', Post v L' ∧ Z w0 we Le (L' ++ L) w') hF rfl ha (fun w hC => by
    simp only [List.nil_append, List.append_nil]
    exact (hc w hC).mono fun e w' ⟨v, L', he, hz, hp⟩ => ⟨v, he, L', hp, hC.callA hz⟩) (fun v a w hs ⟨L', hp, hz⟩ => h v L' hp a w hs hz) hg hd
/-- A callee that changes blocks Lm of the call's own. -/
theorem W.callM {f : FuncId} {args : List Operand} {ts : Array TypeId} {vs : List Value} {Lm Lr : List Blk} {Post : Value → List Blk → Prop} (hF : Fnc P f) (ha : evs S args = some vs) (hp : L.Perm (Lm ++ Lr)) (hc : ∀ w, H w0 w Lm → Calls P f vs.toArray w fun e w' => ∃ v L', e = .returned v ∧ Z w0 w Lm L' w' ∧ Post v L') (h : ∀ v L', Post v L' → W P n ops Q (Z w0 we Le (L' ++ Lr)) rest ((d, v) :: S)) (hg : gd ops S g = some true := by rfl) (hd : Nat.blt d n = true := by rfl) : W P n ops Q (Z w0 we Le L) (⟨some d, .call { callee := .value (.func f), args := args.toArray, argTypes := ts }, ty, pos, af, g⟩ :: rest) S :=
  W.callX (fst := []) (cap := []) (C' := fun v w' => ∃ L', Post v L' ∧ Z w0 we Le (L' ++ Lr) w') hF rfl ha (fun w hC => by
    simp only [List.nil_append, List.append_nil]
    have hC' := hC.perm hp
    exact (hc w ⟨hC'.h.below, fun x hx => hC'.h.has x (List.mem_append_left _ hx), fun x hx => hC'.h.own x (List.mem_append_left _ hx), hC'.h.nd.sublist ((List.sublist_append_left _ _).map _)⟩).mono fun e w' ⟨v, L', he, hz, hq⟩ => ⟨v, he, L', hq, hC'.call hz⟩) (fun v a w hs ⟨L', hq, hz⟩ => h v L' hq a w hs hz) hg hd
theorem W.callM0 {f : FuncId} {args : List Operand} {ts : Array TypeId} {vs : List Value} {Lm Lr : List Blk} {Post : List Blk → Prop} (hF : Fnc P f) (ha : evs S args = some vs) (hp : L.Perm (Lm ++ Lr)) (hc : ∀ w, H w0 w Lm → Calls P f vs.toArray w fun e w' => ∃ v L', e = .returned v ∧ Z w0 w Lm L' w' ∧ Post L') (h : ∀ L', Post L' → W P n ops Q (Z w0 we Le (L' ++ Lr)) rest S) (hg : gd ops S g = some true := by rfl) : W P n ops Q (Z w0 we Le L) (⟨none, .call { callee := .value (.func f), args := args.toArray, argTypes := ts }, ty, pos, af, g⟩ :: rest) S :=
  W.callX0 (fst := []) (cap := []) (C' := fun w' => ∃ L', Post L' ∧ Z w0 we Le (L' ++ Lr) w') hF rfl ha (fun w hC => by
    simp only [List.nil_append, List.append_nil]
    have hC' := hC.perm hp
    exact (hc w ⟨hC'.h.below, fun x hx => hC'.h.has x (List.mem_append_left _ hx), fun x hx => hC'.h.own x (List.mem_append_left _ hx), hC'.h.nd.sublist ((List.sublist_append_left _ _).map _)⟩).mono fun e w' ⟨v, L', he, hz, hq⟩ => ⟨v, he, L', hq, hC'.call hz⟩) (fun a w hs ⟨L', hq, hz⟩ => h L' hq a w hs hz) hg
/-- The same, of a function that stands in a slot. -/
theorem W.callAV {f : FuncId} {fo : Operand} {args : List Operand} {ts : Array TypeId} {vs : List Value} {Post : Value → List Blk → Prop} (hF : Fnc P f) (hf : ev S fo = some (.func (.func f) #[] #[])) (ha : evs S args = some vs) (hc : ∀ w, Z w0 we Le L w → Calls P f vs.toArray w fun e w' => ∃ v L', e = .returned v ∧ Z w w [] L' w' ∧ Post v L') (h : ∀ v L', Post v L' → W P n ops Q (Z w0 we Le (L' ++ L)) rest ((d, v) :: S)) (hg : gd ops S g = some true := by rfl) (hd : Nat.blt d n = true := by rfl) : W P n ops Q (Z w0 we Le L) (⟨some d, .call { callee := .value fo, args := args.toArray, argTypes := ts }, ty, pos, af, g⟩ :: rest) S :=
  W.callX (fst := []) (cap := []) (C' := fun v w' => ∃ L', Post v L' ∧ Z w0 we Le (L' ++ L) w') hF hf ha (fun w hC => by
    simp only [List.nil_append, List.append_nil]
    exact (hc w hC).mono fun e w' ⟨v, L', he, hz, hp⟩ => ⟨v, he, L', hp, hC.callA hz⟩) (fun v a w hs ⟨L', hp, hz⟩ => h v L' hp a w hs hz) hg hd
theorem W.callMV {f : FuncId} {fo : Operand} {args : List Operand} {ts : Array TypeId} {vs : List Value} {Lm Lr : List Blk} {Post : Value → List Blk → Prop} (hF : Fnc P f) (hf : ev S fo = some (.func (.func f) #[] #[])) (ha : evs S args = some vs) (hp : L.Perm (Lm ++ Lr)) (hc : ∀ w, H w0 w Lm → Calls P f vs.toArray w fun e w' => ∃ v L', e = .returned v ∧ Z w0 w Lm L' w' ∧ Post v L') (h : ∀ v L', Post v L' → W P n ops Q (Z w0 we Le (L' ++ Lr)) rest ((d, v) :: S)) (hg : gd ops S g = some true := by rfl) (hd : Nat.blt d n = true := by rfl) : W P n ops Q (Z w0 we Le L) (⟨some d, .call { callee := .value fo, args := args.toArray, argTypes := ts }, ty, pos, af, g⟩ :: rest) S :=
  W.callX (fst := []) (cap := []) (C' := fun v w' => ∃ L', Post v L' ∧ Z w0 we Le (L' ++ Lr) w') hF hf ha (fun w hC => by
    simp only [List.nil_append, List.append_nil]
    have hC' := hC.perm hp
    exact (hc w ⟨hC'.h.below, fun x hx => hC'.h.has x (List.mem_append_left _ hx), fun x hx => hC'.h.own x (List.mem_append_left _ hx), hC'.h.nd.sublist ((List.sublist_append_left _ _).map _)⟩).mono fun e w' ⟨v, L', he, hz, hq⟩ => ⟨v, he, L', hq, hC'.call hz⟩) (fun v a w hs ⟨L', hq, hz⟩ => h v L' hq a w hs hz) hg hd
/-- append(s, x...) of what lies at a known place, s a slice of the call's own. -/
theorem W.app {s x : Operand} {t e k by_ m c m' xb xo : Nat} {z news cs : List Value} {v : Value} {Lx Lr : List Blk} (ht : Slc P t e k by_ z) (hk : 0 < k) (hby : 0 < by_) (hS : ev S s = some v) (hX : ev S x = some (.slice (some ⟨xb, xo, none⟩) m c)) (hO : OS e k v cs m' Lx) (hp : L.Perm (Lx ++ Lr)) (hlen : news.length = m * k) (hn : ∀ w, Z w0 we Le L w → ∀ j, j < news.length → w.cell? ⟨xb, xo + j, none⟩ = news[j]?) (h1 : ∀ u ∈ news, u.oneCell' = true) (hb : (m' + m) * by_ ≤ 140737488355328) (h : ∀ v' Lx', OS e k v' (cs ++ news) (m' + m) Lx' → W P n ops Q (Z w0 we Le (Lx' ++ Lr)) rest ((d, v') :: S)) (hg : gd ops S g = some true := by rfl) (hd : Nat.blt d n = true := by rfl) : W P n ops Q (Z w0 we Le L) (⟨some d, .call { callee := .builtin .append, args := #[s, x], argTypes := #[t, t] }, ty, pos, af, g⟩ :: rest) S := by
  refine W.eff (fun v' w' => ∃ Lx', OS e k v' (cs ++ news) (m' + m) Lx' ∧ Z w0 we Le (Lx' ++ Lr) w') (fun a w hs hC => ?_) (fun v' a w hs ⟨Lx', ho, hz⟩ => h v' Lx' ho a w hs hz) hg hd
  obtain ⟨i, zv, q1, q2, q3, q4, q5⟩ := ht.e
  have hC' := hC.perm hp
  have hown := hO.owns hC'.h
  have hml : m' + m ≤ maxLen := by
    have : m' + m ≤ (m' + m) * by_ := Nat.le_mul_of_pos_right _ hby
    simp only [maxLen]; omega
  obtain ⟨v1, w1, hr, ho1, hg1, _, hat⟩ := run_append_own_at (P := P) w w0.heap.size t ty e i zv k by_ ht.t q1 q4 q2 q3 (by rw [← Array.length_toList, q5, ht.zl]) hk v m' cs hown ⟨xb, xo, none⟩ m c news hlen (fun j u hu => by
    have hj : j < news.length := (List.getElem?_eq_some_iff.1 hu).1
    have e1 : ((⟨xb, xo, none⟩ : Addr).add j) = ⟨xb, xo + j, none⟩ := by unfold Addr.add; split <;> simp_all
    rw [e1, hn w hC j hj, hu]) h1 hml hb hC.h.below.size
  obtain ⟨Lx', ho2, hz2⟩ := hC'.grown hO ho1 hg1 hat
  exact ⟨v1, w1, by simp [execOp, resolve, invoke, builtin, hs.eval hS, hs.eval hX, hr], Lx', ho2, hz2⟩
/-- The same where the literal that is appended has just been laid: its block is dropped. -/
theorem W.app1 {s x : Operand} {t e k by_ m c m' xb : Nat} {z news cs : List Value} {v : Value} {L1 Lx Lr : List Blk} (ht : Slc P t e k by_ z) (hk : 0 < k) (hby : 0 < by_) (hS : ev S s = some v) (hX : ev S x = some (.slice (some ⟨xb, 0, none⟩) m c)) (hO : OS e k v cs m' Lx) (hp : L1.Perm (Lx ++ Lr)) (hlen : news.length = m * k) (h1 : ∀ u ∈ news, u.oneCell' = true) (hb : (m' + m) * by_ ≤ 140737488355328) (h : ∀ v' Lx', OS e k v' (cs ++ news) (m' + m) Lx' → W P n ops Q (Z w0 we Le (Lx' ++ Lr)) rest ((d, v') :: S)) (hg : gd ops S g = some true := by rfl) (hd : Nat.blt d n = true := by rfl) : W P n ops Q (Z w0 we Le ((xb, .cells news.toArray e (0, 0)) :: L1)) (⟨some d, .call { callee := .builtin .append, args := #[s, x], argTypes := #[t, t] }, ty, pos, af, g⟩ :: rest) S :=
  W.app (Lr := (xb, .cells news.toArray e (0, 0)) :: Lr) ht hk hby hS hX hO ((hp.cons _).trans List.perm_middle.symm) hlen (fun w hz j hj => by
    rw [Nat.zero_add]; exact hz.cell (i := 0) rfl) h1 hb (fun v' Lx' ho => (h v' Lx' ho).world fun w hz => hz.sublist ((List.Sublist.refl Lx').append (List.sublist_cons_self _ Lr))) hg hd
/-! literals -/
def evps (S : SS) : List (Nat × Operand) → Option (List (Nat × Value))
  | [] => some []
  | (i, x) :: l => (ev S x).bind fun v => (evps S l).bind fun vs => some ((i, v) :: vs)
theorem Sl.evalps {a : Act} (hs : Sl n a S) : ∀ {l : List (Nat × Operand)} {vs : List (Nat × Value)}, evps S l = some vs → l.map (fun p => (p.1, a.eval p.2)) = vs
  | [], vs, h => by simpa [evps] using h
  | (i, x) :: l, vs, h => by
    simp only [evps] at h
    obtain ⟨v, hv, h⟩ := Option.bind_eq_some_iff.1 h
    obtain ⟨us, hu, h⟩ := Option.bind_eq_some_iff.1 h
    obtain rfl := Option.some.inj h
    rw [List.map_cons, hs.eval hv, Sl.evalps hs hu]
/-- What a literal's parts come to. -/
def fillB (place : Nat → Option (Nat × Nat)) : List Value → List (Nat × Value) → Option (List Value)
  | cells, [] => some cells
  | cells, (i, v) :: rest => (place i).bind fun p => bif Nat.beq v.cells.toList.length p.2 && Nat.ble (p.1 + p.2) cells.length then fillB place (cells.take p.1 ++ v.cells.toList ++ cells.drop (p.1 + p.2)) rest else none
theorem foldl_set : ∀ (cs cells : List Value) (off s : Nat), off + s + cs.length ≤ cells.length → (cs.zipIdx s).foldl (fun (c : List Value) (x : Value × Nat) => c.set (off + x.2) x.1) cells = cells.take (off + s) ++ cs ++ cells.drop (off + s + cs.length)
  | [], cells, off, s, h => by simp
  | c :: cs, cells, off, s, h => by
    simp only [List.length_cons] at h
    rw [List.zipIdx_cons, List.foldl_cons, foldl_set cs _ off (s + 1) (by simp; omega)]
    rw [show off + (s + 1) = (off + s) + 1 by omega, List.take_succ_eq_append_getElem (by simp; omega), List.getElem_set_self, List.take_set_of_le (Nat.le_refl _), List.drop_set_of_lt (by omega)]
    simp only [List.append_assoc, List.cons_append, List.nil_append, List.length_cons]
    rw [show off + s + 1 + cs.length = off + s + (cs.length + 1) by omega]
theorem foldl_arr (off : Nat) : ∀ (l : List (Value × Nat)) (cells : List Value), l.foldl (fun (cs : Array Value) (x : Value × Nat) => cs.setIfInBounds (off + x.2) x.1) cells.toArray = (l.foldl (fun (cs : List Value) (x : Value × Nat) => cs.set (off + x.2) x.1) cells).toArray
  | [], cells => rfl
  | x :: l, cells => by rw [List.foldl_cons, List.foldl_cons, List.setIfInBounds_toArray]; exact foldl_arr off l _
theorem fillB_fill (place : Nat → Option (Nat × Nat)) : ∀ (parts : List (Nat × Value)) (cells out : List Value), fillB place cells parts = some out → Instr.fill place cells.toArray parts = some out.toArray
  | [], cells, out, h => by simp only [fillB, Option.some.injEq] at h; subst h; rfl
  | (i, v) :: rest, cells, out, h => by
    unfold fillB at h
    obtain ⟨p, hp, h⟩ := Option.bind_eq_some_iff.1 h
    cases hb : (Nat.beq v.cells.toList.length p.2 && Nat.ble (p.1 + p.2) cells.length) with
    | false => rw [hb] at h; cases h
    | true =>
      rw [hb] at h
      simp only [cond_true] at h
      simp only [Bool.and_eq_true, Nat.beq_eq, Nat.ble_eq] at hb
      obtain ⟨h1, h2⟩ := hb
      unfold Instr.fill
      rw [hp]
      obtain ⟨off, size⟩ := p
      simp only at h1 h2 h ⊢
      have hs : v.cells.size = size := by rw [← Array.length_toList]; exact h1
      rw [if_neg (by simp [hs]; omega)]
      rw [← fillB_fill place rest _ _ h]
      congr 1
      rw [← Array.foldl_toList, Array.toList_zipIdx, foldl_arr, foldl_set _ _ _ _ (by rw [h1]; omega)]
      rw [h1]; rfl
theorem range_flat {z : List Value} {k m : Nat} (hzl : z.length = k) : ((Array.range (m * k)).map fun j => z.toArray[j % z.toArray.size]!) = (List.replicate m z).flatten.toArray := by
  rcases Nat.eq_zero_or_pos k with h0 | h0
  · subst h0
    have : z = [] := List.eq_nil_of_length_eq_zero hzl
    subst this
    simp
  · apply Array.ext'
    rw [Array.toList_map, Array.toList_range]
    apply List.ext_getElem
    · simp [hzl]
    · intro j h1 h2
      have hj : j < m * k := by simpa using h1
      simp only [List.getElem_map, List.getElem_range, List.size_toArray]
      have hmod : j % z.length < z.length := Nat.mod_lt _ (by omega)
      rw [getElem!_pos _ _ (by simpa using hmod)]
      simp only [List.getElem_toArray]
      have : ∀ (m j : Nat) (hj : j < (List.replicate m z).flatten.length) (hm : j % z.length < z.length), z[j % z.length] = (List.replicate m z).flatten[j] := by
        intro m
        induction m with
        | zero => intro j hj; simp at hj
        | succ m ih =>
          intro j hj hm
          simp only [List.replicate_succ, List.flatten_cons, List.getElem_append]
          split
          · rename_i hlt
            congr 1
            exact Nat.mod_eq_of_lt hlt
          · rename_i hge
            have hge' : z.length ≤ j := by omega
            have hjj : (j - z.length) % z.length = j % z.length := by rw [← Nat.mod_eq_sub_mod hge']
            rw [← ih (j - z.length) (by simp [List.replicate_succ] at hj ⊢; omega) (by rw [hjj]; exact hm)]
            congr 1
            exact hjj.symm
      exact this m j (by simpa using h2) hmod
/-- A struct type: its zero cells, and where its fields lie. -/
structure Str (P : Program) (t : TypeId) (z : List Value) (pl : Array (Nat × Nat)) : Prop where
  z : Zr P t z
  out : ∃ fs, P.underlying t = some (.struct fs) ∧ ∀ w : World, (fs.mapM fun f => do pure (f.offset, ← sizeOf f.type) : Sem _).run P w = .ok pl w
theorem QOp.build {C : World → Prop} {d : Option Nat} {t : TypeId} {parts : List (Nat × Operand)} {vps : List (Nat × Value)} {z out : List Value} {pl : Array (Nat × Nat)} (ht : Str P t z pl) (he : evps S parts = some vps) (hf0 : fillB (pl.toList[·]?) z vps = some out) : QOp P n C S ⟨d, .build t parts.toArray, ty, pos, af, g⟩ (.agg out.toArray) :=
  .of fun a w hs hC => by
    obtain ⟨i, zv, h1, h2, h3⟩ := ht.z.out
    obtain ⟨fs, h4, h5⟩ := ht.out
    have hf : Instr.fill (pl[·]?) z.toArray vps = some out.toArray := by have := fillB_fill _ _ _ _ hf0; simpa using this
    have e : zv.cells = z.toArray := by rw [← h3]
    have e2 : parts.toArray.map (fun p => (p.1, a.eval p.2)) = vps.toArray := by rw [List.map_toArray, hs.evalps he]
    have e3 : (Instr.build t vps.toArray).run P w = .ok (.agg out.toArray) w := by
      simp only [Instr.build, Sem.run_bind, zeroValue, typeInfo, program, Sem.run, Sem.run_pure, h1, h2, Result.andThen_ok, run_underlying h4]
      rw [h5 w]
      simp only [Result.andThen_ok, e, hf, Sem.run_pure]
    simp [execOp, e2, e3]
/-- An array type: its zero cells, and the size of its elements. -/
structure ArB (P : Program) (t : TypeId) (z : List Value) (e k : Nat) : Prop where
  z : Zr P t z
  out : ∃ len, P.underlying t = some (.array len e)
  sz : (P.info? e).map (·.size) = some k
theorem QOp.buildA {C : World → Prop} {d : Option Nat} {t : TypeId} {e k : Nat} {parts : List (Nat × Operand)} {vps : List (Nat × Value)} {z out : List Value} (ht : ArB P t z e k) (he : evps S parts = some vps) (hf0 : fillB (fun i => some (i * k, k)) z vps = some out) : QOp P n C S ⟨d, .build t parts.toArray, ty, pos, af, g⟩ (.agg out.toArray) :=
  .of fun a w hs hC => by
    obtain ⟨i, zv, h1, h2, h3⟩ := ht.z.out
    obtain ⟨len, h4⟩ := ht.out
    have hf : Instr.fill (fun i => some (i * k, k)) z.toArray vps = some out.toArray := fillB_fill _ _ _ _ hf0
    have e1 : zv.cells = z.toArray := by rw [← h3]
    have e2 : parts.toArray.map (fun p => (p.1, a.eval p.2)) = vps.toArray := by rw [List.map_toArray, hs.evalps he]
    have e3 : (Instr.build t vps.toArray).run P w = .ok (.agg out.toArray) w := by
      simp only [Instr.build, Sem.run_bind, zeroValue, typeInfo, program, Sem.run, Sem.run_pure, h1, h2, Result.andThen_ok, run_underlying h4, run_size ht.sz]
      simp only [Result.andThen_ok, e1, hf, Sem.run_pure]
    simp [execOp, e2, e3]
theorem W.bslice {t e k by_ len : Nat} {parts : List (Nat × Operand)} {vps : List (Nat × Value)} {z out : List Value} (ht : Slc P t e k by_ z) (hl : Nat.ble (len * k) 16777216 = true) (he : evps S parts = some vps) (hf0 : fillB (fun i => some (i * k, k)) (List.replicate len z).flatten vps = some out) (h : ∀ b, W P n ops Q (Z w0 we Le ((b, .cells out.toArray e (0, 0)) :: L)) rest ((d, .slice (some ⟨b, 0, none⟩) len len) :: S)) (hg : gd ops S g = some true := by rfl) (hd : Nat.blt d n = true := by rfl) : W P n ops Q (Z w0 we Le L) (⟨some d, .buildSlice t len parts.toArray, ty, pos, af, g⟩ :: rest) S := by
  refine W.eff (fun v' w' => ∃ b, v' = .slice (some ⟨b, 0, none⟩) len len ∧ Z w0 we Le ((b, .cells out.toArray e (0, 0)) :: L) w') (fun a w hs hC => ?_) (fun v => ?_) hg hd
  · refine ⟨.slice (some ⟨w.heap.size, 0, none⟩) len len, w.alloc (.cells out.toArray e), ?_, _, rfl, hC.alloc _⟩
    obtain ⟨i, zv, q1, q2, q3, q4, q5⟩ := ht.e
    have e2 : parts.toArray.map (fun p => (p.1, a.eval p.2)) = vps.toArray := by rw [List.map_toArray, hs.evalps he]
    have e1 : zv.cells = z.toArray := by rw [← q5]
    have hf : Instr.fill (fun i => some (i * k, k)) ((Array.range (len * k)).map fun j => z.toArray[j % z.toArray.size]!) vps = some out.toArray := by rw [range_flat ht.zl]; exact fillB_fill _ _ _ _ hf0
    have hl' : ¬ len * k > 2 ^ 24 := by have := Nat.le_of_ble_eq_true hl; omega
    have hz0 : ((Array.range (len * k)).map fun j => (if len * k = 0 then #[] else z.toArray)[j % (if len * k = 0 then #[] else z.toArray).size]!) = ((Array.range (len * k)).map fun j => z.toArray[j % z.toArray.size]!) := by
      by_cases h0 : len * k = 0
      · simp [h0]
      · simp [h0]
    have e3 : (Instr.buildSlice t len vps.toArray).run P w = .ok (.slice (some ⟨w.heap.size, 0, none⟩) len len) (w.alloc (.cells out.toArray e)) := by
      by_cases h0 : len * k = 0
      · have er : ∀ f : Nat → Value, (Array.range 0).map f = #[] := fun f => by simp
        have hf' := hf
        rw [h0, er] at hf'
        simp only [Instr.buildSlice, Sem.run_bind, run_underlying ht.t, sizeOf, typeInfo, program, Sem.run, Sem.run_pure, q1, q2, h0, Result.andThen_ok, if_true, if_false, er, hf', run_newRow, Nat.not_lt_zero, gt_iff_lt]
      · simp only [Instr.buildSlice, Sem.run_bind, run_underlying ht.t, sizeOf, typeInfo, program, Sem.run, Sem.run_pure, q1, q2, q4, h0, hl', zeroValue, Result.andThen_ok, if_true, if_false, e1, hf, run_newRow]
    simp [execOp, e2, e3]
  · intro a w hs hC
    obtain ⟨b, rfl, hZ⟩ := hC
    exact h b a w hs hZ
/-- make([]T, m). -/
theorem W.mk {t e k by_ m : Nat} {x y : Operand} {z : List Value} (ht : Slc P t e k by_ z) (hx : ev S x = some (.int .i64 (m : Int))) (hy : ev S y = some (.int .i64 (m : Int))) (hk : 0 < k) (hby : 0 < by_) (hm : m * by_ ≤ 140737488355328) (h : ∀ b, W P n ops Q (Z w0 we Le ((b, .cells (List.replicate m z).flatten.toArray e (0, 0)) :: L)) rest ((d, .slice (some ⟨b, 0, none⟩) m m) :: S)) (hg : gd ops S g = some true := by rfl) (hd : Nat.blt d n = true := by rfl) : W P n ops Q (Z w0 we Le L) (⟨some d, .makeSlice t x y, ty, pos, af, g⟩ :: rest) S := by
  refine W.eff (fun v' w' => ∃ b, v' = .slice (some ⟨b, 0, none⟩) m m ∧ Z w0 we Le ((b, .cells (List.replicate m z).flatten.toArray e (0, 0)) :: L) w') (fun a w hs hC => ?_) (fun v => ?_) hg hd
  · refine ⟨.slice (some ⟨w.heap.size, 0, none⟩) m m, w.alloc (.cells (List.replicate m z).flatten.toArray e), ?_, _, rfl, hC.alloc _⟩
    obtain ⟨i, zv, q1, q2, q3, q4, q5⟩ := ht.e
    have e1 : zv.cells = z.toArray := by rw [← q5]
    have hmle : m ≤ m * by_ := Nat.le_mul_of_pos_right _ hby
    have hw : IntKind.i64.wrap (m : Int) = (m : Int) := IntWalk.i64_in _ (by omega)
    have hcells : ((Array.range (m * k)).map fun j => (if m * k = 0 then #[] else z.toArray)[j % (if m * k = 0 then #[] else z.toArray).size]!) = (List.replicate m z).flatten.toArray := by
      have hzl := ht.zl
      apply Array.ext'
      rw [Array.toList_map, Array.toList_range]
      apply List.ext_getElem
      · simp [hzl]
      · intro j h1 h2
        have hj : j < m * k := by simpa using h1
        have h0 : m * k ≠ 0 := by omega
        simp only [h0, if_false, List.getElem_map, List.getElem_range, List.size_toArray]
        have hmod : j % z.length < z.length := Nat.mod_lt _ (by omega)
        rw [getElem!_pos _ _ (by simpa using hmod)]
        simp only [List.getElem_toArray]
        have : ∀ (m j : Nat) (hj : j < (List.replicate m z).flatten.length) (hm : j % z.length < z.length), z[j % z.length] = (List.replicate m z).flatten[j] := by
          intro m
          induction m with
          | zero => intro j hj; simp at hj
          | succ m ih =>
            intro j hj hm
            simp only [List.replicate_succ, List.flatten_cons, List.getElem_append]
            split
            · rename_i hlt
              congr 1
              exact Nat.mod_eq_of_lt hlt
            · rename_i hge
              have hge' : z.length ≤ j := by omega
              have hjj : (j - z.length) % z.length = j % z.length := by rw [← Nat.mod_eq_sub_mod hge']
              rw [← ih (j - z.length) (by simp [List.replicate_succ] at hj ⊢; omega) (by rw [hjj]; exact hm)]
              congr 1
              exact hjj.symm
        exact this m j (by simpa using h2) hmod
    have e3 : (Instr.makeSlice t (.int .i64 (m : Int)) (.int .i64 (m : Int))).run P w = .ok (.slice (some ⟨w.heap.size, 0, none⟩) m m) (w.alloc (.cells (List.replicate m z).flatten.toArray e)) := by
      have hbig : ¬ (by_ : Int) * (m : Int) > 2 ^ 48 := by rw [Int.mul_comm]; omega
      have hroom : ¬ m * by_ > roomBytes := by simp only [roomBytes]; omega
      have hneg : ¬ (m : Int) < 0 := by omega
      have hbig2 : ¬ 281474976710656 < (by_ : Int) * (m : Int) := by rw [Int.mul_comm]; omega
      by_cases h0 : m * k = 0
      · simp only [h0, if_true] at hcells
        simp [Instr.makeSlice, run_underlying ht.t, asInt, asIntOf, hw, sizeOf, typeInfo, q1, q2, q3, h0, askRoom, hroom, hbig, hneg, run_newRow, hcells]
        rw [if_neg hbig2]
        have h3 := hcells
        have er : ∀ f : Nat → Value, (Array.range 0).map f = #[] := fun f => by simp
        rw [er] at h3 ⊢
        rw [h3]
      · simp only [h0, if_false] at hcells
        simp [Instr.makeSlice, run_underlying ht.t, asInt, asIntOf, hw, sizeOf, typeInfo, q1, q2, q3, q4, h0, askRoom, hroom, hbig, hneg, run_newRow, zeroValue, e1, hcells]
        rw [if_neg hbig2]
        have h3 := hcells
        simp at h3
        rw [h3]
    simp [execOp, hs.eval hx, hs.eval hy, e3]
  · intro a w hs hC
    obtain ⟨b, rfl, hZ⟩ := hC
    exact h b a w hs hZ
end

/-! ### 8. Splits at a comparison; loops over the call's own blocks -/
section
variable {P : Program} {n : Nat} {ops : Array Oper} {Q : Exit → Act → World → Prop} {Qa : Act → Prop} {C : World → Prop} {S : SS} {rest : List Oper} {d : Nat} {ty : TypeId} {pos : String} {af : Array Edge} {g : Option (Nat × Bool)} {x y : Operand} {k : IntKind} {i j : Int} {t u : TypeId}
theorem W.ltS (hx : ev S x = some (.int k i)) (hy : ev S y = some (.int k j)) (ht : i < j → W P n ops Q C rest ((d, .bool true) :: S)) (hf : j ≤ i → W P n ops Q C rest ((d, .bool false) :: S)) (hg : gd ops S g = some true := by rfl) (hd : Nat.blt d n = true := by rfl) : W P n ops Q C (⟨some d, .binOp .lss t x y u, ty, pos, af, g⟩ :: rest) S := by
  by_cases h : i < j
  · exact .q (.cmp hx hy (ltT h)) (ht h) hg hd
  · exact .q (.cmp hx hy (ltF (by omega))) (hf (by omega)) hg hd
theorem QJ.ltS (hx : ev S x = some (.int k i)) (hy : ev S y = some (.int k j)) (ht : i < j → QJ P n ops Qa C rest ((d, .bool true) :: S)) (hf : j ≤ i → QJ P n ops Qa C rest ((d, .bool false) :: S)) (hg : gd ops S g = some true := by rfl) (hd : Nat.blt d n = true := by rfl) : QJ P n ops Qa C (⟨some d, .binOp .lss t x y u, ty, pos, af, g⟩ :: rest) S := by
  by_cases h : i < j
  · exact .q (.cmp hx hy (ltT h)) (ht h) hg hd
  · exact .q (.cmp hx hy (ltF (by omega))) (hf (by omega)) hg hd
theorem W.leS (hx : ev S x = some (.int k i)) (hy : ev S y = some (.int k j)) (ht : i ≤ j → W P n ops Q C rest ((d, .bool true) :: S)) (hf : j < i → W P n ops Q C rest ((d, .bool false) :: S)) (hg : gd ops S g = some true := by rfl) (hd : Nat.blt d n = true := by rfl) : W P n ops Q C (⟨some d, .binOp .leq t x y u, ty, pos, af, g⟩ :: rest) S := by
  by_cases h : i ≤ j
  · exact .q (.cmp hx hy (leT h)) (ht h) hg hd
  · exact .q (.cmp hx hy (leF (by omega))) (hf (by omega)) hg hd
theorem QJ.leS (hx : ev S x = some (.int k i)) (hy : ev S y = some (.int k j)) (ht : i ≤ j → QJ P n ops Qa C rest ((d, .bool true) :: S)) (hf : j < i → QJ P n ops Qa C rest ((d, .bool false) :: S)) (hg : gd ops S g = some true := by rfl) (hd : Nat.blt d n = true := by rfl) : QJ P n ops Qa C (⟨some d, .binOp .leq t x y u, ty, pos, af, g⟩ :: rest) S := by
  by_cases h : i ≤ j
  · exact .q (.cmp hx hy (leT h)) (ht h) hg hd
  · exact .q (.cmp hx hy (leF (by omega))) (hf (by omega)) hg hd
theorem W.gtS (hx : ev S x = some (.int k i)) (hy : ev S y = some (.int k j)) (ht : j < i → W P n ops Q C rest ((d, .bool true) :: S)) (hf : i ≤ j → W P n ops Q C rest ((d, .bool false) :: S)) (hg : gd ops S g = some true := by rfl) (hd : Nat.blt d n = true := by rfl) : W P n ops Q C (⟨some d, .binOp .gtr t x y u, ty, pos, af, g⟩ :: rest) S := by
  by_cases h : j < i
  · exact .q (.cmp hx hy (gtT h)) (ht h) hg hd
  · exact .q (.cmp hx hy (gtF (by omega))) (hf (by omega)) hg hd
theorem QJ.gtS (hx : ev S x = some (.int k i)) (hy : ev S y = some (.int k j)) (ht : j < i → QJ P n ops Qa C rest ((d, .bool true) :: S)) (hf : i ≤ j → QJ P n ops Qa C rest ((d, .bool false) :: S)) (hg : gd ops S g = some true := by rfl) (hd : Nat.blt d n = true := by rfl) : QJ P n ops Qa C (⟨some d, .binOp .gtr t x y u, ty, pos, af, g⟩ :: rest) S := by
  by_cases h : j < i
  · exact .q (.cmp hx hy (gtT h)) (ht h) hg hd
  · exact .q (.cmp hx hy (gtF (by omega))) (hf (by omega)) hg hd
theorem W.geS (hx : ev S x = some (.int k i)) (hy : ev S y = some (.int k j)) (ht : j ≤ i → W P n ops Q C rest ((d, .bool true) :: S)) (hf : i < j → W P n ops Q C rest ((d, .bool false) :: S)) (hg : gd ops S g = some true := by rfl) (hd : Nat.blt d n = true := by rfl) : W P n ops Q C (⟨some d, .binOp .geq t x y u, ty, pos, af, g⟩ :: rest) S := by
  by_cases h : j ≤ i
  · exact .q (.cmp hx hy (geT h)) (ht h) hg hd
  · exact .q (.cmp hx hy (geF (by omega))) (hf (by omega)) hg hd
theorem QJ.geS (hx : ev S x = some (.int k i)) (hy : ev S y = some (.int k j)) (ht : j ≤ i → QJ P n ops Qa C rest ((d, .bool true) :: S)) (hf : i < j → QJ P n ops Qa C rest ((d, .bool false) :: S)) (hg : gd ops S g = some true := by rfl) (hd : Nat.blt d n = true := by rfl) : QJ P n ops Qa C (⟨some d, .binOp .geq t x y u, ty, pos, af, g⟩ :: rest) S := by
  by_cases h : j ≤ i
  · exact .q (.cmp hx hy (geT h)) (ht h) hg hd
  · exact .q (.cmp hx hy (geF (by omega))) (hf (by omega)) hg hd
theorem W.eqS (hx : ev S x = some (.int k i)) (hy : ev S y = some (.int k j)) (ht : i = j → W P n ops Q C rest ((d, .bool true) :: S)) (hf : i ≠ j → W P n ops Q C rest ((d, .bool false) :: S)) (hg : gd ops S g = some true := by rfl) (hd : Nat.blt d n = true := by rfl) : W P n ops Q C (⟨some d, .binOp .eql t x y u, ty, pos, af, g⟩ :: rest) S := by
  by_cases h : i = j
  · exact .q (.cmp hx hy (eqT h)) (ht h) hg hd
  · exact .q (.cmp hx hy (eqF (by omega))) (hf (by omega)) hg hd
theorem QJ.eqS (hx : ev S x = some (.int k i)) (hy : ev S y = some (.int k j)) (ht : i = j → QJ P n ops Qa C rest ((d, .bool true) :: S)) (hf : i ≠ j → QJ P n ops Qa C rest ((d, .bool false) :: S)) (hg : gd ops S g = some true := by rfl) (hd : Nat.blt d n = true := by rfl) : QJ P n ops Qa C (⟨some d, .binOp .eql t x y u, ty, pos, af, g⟩ :: rest) S := by
  by_cases h : i = j
  · exact .q (.cmp hx hy (eqT h)) (ht h) hg hd
  · exact .q (.cmp hx hy (eqF (by omega))) (hf (by omega)) hg hd
theorem W.neS (hx : ev S x = some (.int k i)) (hy : ev S y = some (.int k j)) (ht : i ≠ j → W P n ops Q C rest ((d, .bool true) :: S)) (hf : i = j → W P n ops Q C rest ((d, .bool false) :: S)) (hg : gd ops S g = some true := by rfl) (hd : Nat.blt d n = true := by rfl) : W P n ops Q C (⟨some d, .binOp .neq t x y u, ty, pos, af, g⟩ :: rest) S := by
  by_cases h : i ≠ j
  · exact .q (.cmp hx hy (neT h)) (ht h) hg hd
  · exact .q (.cmp hx hy (neF (by omega))) (hf (by omega)) hg hd
theorem QJ.neS (hx : ev S x = some (.int k i)) (hy : ev S y = some (.int k j)) (ht : i ≠ j → QJ P n ops Qa C rest ((d, .bool true) :: S)) (hf : i = j → QJ P n ops Qa C rest ((d, .bool false) :: S)) (hg : gd ops S g = some true := by rfl) (hd : Nat.blt d n = true := by rfl) : QJ P n ops Qa C (⟨some d, .binOp .neq t x y u, ty, pos, af, g⟩ :: rest) S := by
  by_cases h : i ≠ j
  · exact .q (.cmp hx hy (neT h)) (ht h) hg hd
  · exact .q (.cmp hx hy (neF (by omega))) (hf (by omega)) hg hd
end
section
variable {P : Program} {n : Nat} {Q : Exit → Act → World → Prop} {S : SS} {w0 we : World} {Le L : List Blk} {x y : Code}
/-- A loop: at its head the slots hold T s, the call's own blocks are B s, I s is known. -/
theorem WC.lp {σ : Type} (T : σ → SS) (B : σ → List Blk) (I : σ → Prop) (μ : σ → Nat) (s0 : σ) (hs0 : Sub (T s0) S) (hB : ∀ w, Z w0 we Le L w → Z w0 we Le (B s0) w) (hI : I s0)
    (body : ∀ s, I s → WC P n x (Exit.then (fun a w => ∃ s', Sl n a (T s') ∧ (Z w0 we Le (B s') w ∧ I s') ∧ μ s' < μ s) Q) (Z w0 we Le (B s)) (T s)) : WC P n (.loop x) Q (Z w0 we Le L) S :=
  .loop T (fun s w => Z w0 we Le (B s) w ∧ I s) μ s0 hs0 (fun w hz => ⟨hB w hz, hI⟩) fun s a w hs ⟨hz, hi⟩ => body s hi a w hs hz
theorem X.rd {σ : Type} {T : σ → SS} {B : σ → List Blk} {I : σ → Prop} {μ : σ → Nat} {m : Nat} (s : σ) (hs : Sub (T s) S) (hB : ∀ w, Z w0 we Le L w → Z w0 we Le (B s) w) (hI : I s) (hm : μ s < m) : X n (fun a w => ∃ s', Sl n a (T s') ∧ (Z w0 we Le (B s') w ∧ I s') ∧ μ s' < m) (Z w0 we Le L) S :=
  fun a w k hz => ⟨s, k.sub hs, ⟨hB w hz, hI⟩, hm⟩
/-- Ways meet again. -/
theorem WC.ct {σ : Type} (T : σ → SS) (B : σ → List Blk) (I : σ → Prop) (hx : WC P n x (Exit.then (fun a w => ∃ s, Sl n a (T s) ∧ Z w0 we Le (B s) w ∧ I s) Q) (Z w0 we Le L) S) (hy : ∀ s, I s → WC P n y Q (Z w0 we Le (B s)) (T s)) : WC P n (.seq x y) Q (Z w0 we Le L) S :=
  .cut T (fun s w => Z w0 we Le (B s) w ∧ I s) hx fun s a w hs ⟨hz, hi⟩ => hy s hi a w hs hz
theorem X.ot {σ : Type} {T : σ → SS} {B : σ → List Blk} {I : σ → Prop} (s : σ) (hs : Sub (T s) S) (hB : ∀ w, Z w0 we Le L w → Z w0 we Le (B s) w) (hI : I s) : X n (fun a w => ∃ s, Sl n a (T s) ∧ Z w0 we Le (B s) w ∧ I s) (Z w0 we Le L) S :=
  fun a w k hz => ⟨s, k.sub hs, hB w hz, hI⟩
/-- Blocks that are no longer needed are dropped. -/
theorem drp {w0 we w : World} {Le L : List Blk} {x : Blk} (h : Z w0 we Le (x :: L) w) : Z w0 we Le L w := h.sublist (List.sublist_cons_self ..)
end
/-! ### 9. Slices that are read -/
/-- v is a slice with the elements xs, of k cells each, read in w. -/
def Rd {α : Type} (enc : α → List Value) (k : Nat) (w : World) (v : Value) (xs : List α) : Prop :=
  ∃ A c, v = .slice A xs.length c ∧ xs.length ≤ 140737488355328 ∧ (∀ x, (enc x).length = k) ∧ (xs = [] ∨ ∃ b off, A = some ⟨b, off, none⟩ ∧ ∀ i (h : i < xs.length) j, j < k → w.cell? ⟨b, off + i * k + j, none⟩ = (enc xs[i])[j]?)
theorem pkN {α : Type} (A : List α) : A.Perm (A ++ []) := by rw [List.append_nil]
theorem pkA {α : Type} {A B R R' : List α} (h : R.Perm (A ++ R')) : (B ++ R).Perm (A ++ (B ++ R')) := (h.append_left B).trans (by
  rw [← List.append_assoc, ← List.append_assoc]; exact List.perm_append_comm.append_right R')
theorem pkC {α : Type} {A R R' : List α} {x : α} (h : R.Perm (A ++ R')) : (x :: R).Perm (A ++ (x :: R')) := (h.cons x).trans List.perm_middle.symm
theorem zperm {w0 we w : World} {Le L L' : List Blk} (p : L.Perm L') (h : Z w0 we Le L w) : Z w0 we Le L' w := h.perm p
section
variable {n id k : Nat} {Q : Exit → Act → World → Prop} {next : Act → World → Prop} {C : World → Prop} {S : SS}
theorem X.inbN (h : X n (Q .normal) C S) : X n (Exit.inBlock id Q .normal) C S := h
theorem X.inbX (h : X n (Q .normal) C S) : X n (Exit.inBlock id Q (.exit id)) C S := fun a w hs hC => by
  have := h a w hs hC
  simpa [Exit.inBlock] using this
theorem X.inbE (h : X n (Q (.exit k)) C S) (hne : Nat.beq k id = false := by rfl) : X n (Exit.inBlock id Q (.exit k)) C S := fun a w hs hC => by
  have := h a w hs hC
  have hne' : k ≠ id := fun e => by rw [e] at hne; simp at hne
  simpa [Exit.inBlock, hne'] using this
theorem X.inbR (h : X n (Q .ret) C S) : X n (Exit.inBlock id Q .ret) C S := h
theorem X.thE (h : X n (Q (.exit k)) C S) : X n (Exit.then next Q (.exit k)) C S := h
theorem X.thR (h : X n (Q .ret) C S) : X n (Exit.then next Q .ret) C S := h
end
/-! ### 10. A region that draws its order: quiet operations in whatever order, then a tail in its own -/
section
variable {P : Program} {ops : Array Oper} {C : World → Prop}
/-- f operations of the head come up, whichever; then L holds. -/
def Heads (P : Program) (ops : Array Oper) (C : World → Prop) (k : Nat) (L : Array Bool → Act → Prop) : Nat → Array Bool → Act → Prop
  | 0, ls, a => L ls a
  | f + 1, ls, a => Region.ready .any ops ls ≠ [] ∧ ∀ i ∈ Region.ready .any ops ls, i < k ∧ qOp P ops C i (Heads P ops C k L f (ls.setIfInBounds i true)) a
theorem Heads.any {k m : Nat} {L : Array Bool → Act → Prop} {Q : Exit → Act → World → Prop} (hL : ∀ ls a w, L ls a → C w → wpAny P .any ops Q m ls a w) : ∀ (f : Nat) (ls : Array Bool) (a : Act) (w : World), Heads P ops C k L f ls a → C w → wpAny P .any ops Q (f + m) ls a w := by
  intro f
  induction f with
  | zero => intro ls a w h hC; rw [Nat.zero_add]; exact hL _ _ _ h hC
  | succ f ih =>
    intro ls a w h hC
    rw [show f + 1 + m = f + m + 1 by omega]
    exact ⟨fun e => absurd e h.1, fun i hi => wpOp_of_qOp hC (fun a' w' hC' h' => ih _ a' w' h' hC') (h.2 i hi).2⟩
theorem Heads.first {k i : Nat} {o : Oper} {v : Value} {L : Array Bool → Act → Prop} (hi : ops[i]? = some o) (hsel : Region.noSelect ops = true) (hs : Region.sinkB .any ops k = true) (hc : Region.chainB .any ops k = true) (hk : k < ops.size) (hik : i < k)
    (hdone : ∀ ls a, L ls a → ∀ j ∈ Region.ready .any ops ls, k ≤ j) :
    ∀ (f : Nat) (ls : Array Bool) (a : Act), HeadInv .any ops k ls → (∀ j oj, ops[j]? = some oj → j ≠ i → ls.getD j true = false → (∀ e ∈ oj.after, Region.binds .any e = true → e.on ≠ i) → o.apart ops oj = true) →
      i ∈ Region.ready .any ops ls → YieldsIn P ops C o v a → Heads P ops C k L f (ls.setIfInBounds i true) (a.put o.dst v) → Heads P ops C k L (f + 1) ls a := by
  intro f
  induction f with
  | zero =>
    intro ls a inv _ hr hy h
    have hun := (mem_ready.1 hr).1
    refine ⟨List.ne_nil_of_mem hr, fun j hj => ?_⟩
    have hjk : j < k := Nat.lt_of_not_le fun hge => tail_waits hs hc hk inv _ i rfl hik hun j hge hj
    by_cases e : j = i
    · subst e; exact ⟨hjk, hy.qOp hi h⟩
    · exact absurd (hdone _ _ h j (ready_mono hj e)) (by omega)
  | succ f ih =>
    intro ls a inv hap hr hy h
    have hun := (mem_ready.1 hr).1
    refine ⟨List.ne_nil_of_mem hr, fun j hj => ?_⟩
    have hjk : j < k := Nat.lt_of_not_le fun hge => tail_waits hs hc hk inv _ i rfl hik hun j hge hj
    refine ⟨hjk, ?_⟩
    by_cases e : j = i
    · subst e; exact hy.qOp hi h
    · obtain ⟨hjun, oj, hoj, hall⟩ := mem_ready.1 hj
      have hnot : ∀ x ∈ oj.after, Region.binds .any x = true → x.on ≠ i := fun x hx hb hon => by
        have h1 := hall x hx hb
        rw [hon, getD_both hun] at h1
        cases h1
      have hq := qOp_put hoj (hap j oj hoj e hjun hnot) (fun cs b => Region.noSelect_spec hsel i o cs b hi) (fun cs b => Region.noSelect_spec hsel j oj cs b hoj) hy (h.2 j (ready_mono hj e)).2
      refine qOp_mono (fun a' h' => ih _ a' (inv.set hj hjk) (fun m om hm hmi hmun hno => ?_) (ready_mono hr (Ne.symm e)) h'.1 ?_) hq
      · refine hap m om hm hmi ?_ hno
        by_cases e2 : j = m
        · subst e2; exact hjun
        · rwa [getD_set_ne true e2] at hmun
      · rw [Array.setIfInBounds_comm _ _ e]
        exact h'.2
theorem Heads.lex {k m : Nat} {La : Act → Prop} (hsel : Region.noSelect ops = true) (hs : Region.sinkB .any ops k = true) (hc : Region.chainB .any ops k = true) (hk : k < ops.size) :
    ∀ (l : List Oper) (i : Nat) (ls : Array Bool) (a : Act), (∀ j, j < l.length → l[j]? = ops[i + j]?) → i + l.length = k → HeadInv .any ops k ls → Region.lexHead .any ops m l.length i ls = true → wpQuiet P ops C La l a →
      Heads P ops C k (fun ls' a' => Region.seqB .any ops m k ls' = true ∧ La a') l.length ls a := by
  intro l
  induction l with
  | nil =>
    intro i ls a _ hik _ hB h
    have : i = k := by simpa using hik
    subst this
    exact ⟨hB, h⟩
  | cons o l ih =>
    intro i ls a hl hik inv hB h
    have h0 : ops[i]? = some o := (hl 0 (by simp)).symm
    simp only [List.length_cons, Region.lexHead, Bool.and_eq_true] at hB
    obtain ⟨⟨hr, hf⟩, hB⟩ := hB
    have hr' : i ∈ Region.ready .any ops ls := by simpa using hr
    have hik' : i < k := by simp at hik; omega
    have hq : qOp P ops C i (wpQuiet P ops C La l) a := by unfold qOp; rw [h0]; exact h
    obtain ⟨v, hy, hK⟩ := yieldsIn_of_qOp h0 hq
    exact Heads.first h0 hsel hs hc hk hik' (fun ls' a' hL => seqB_ready hL.1) l.length ls a inv (Region.free_spec h0 hf) hr' hy
      (ih (i + 1) _ _ (fun j hj => by have := hl (j + 1) (by simp; omega); simpa [Nat.add_assoc, Nat.add_comm 1 j] using this) (by simp at hik; omega) (inv.set hr' hik') hB hK)
end
section
variable {P : Program} {n id : Nat} {Q : Exit → Act → World → Prop} {C : World → Prop} {S : SS}
/-- The judgement for a head of k quiet operations: what follows is the tail, in its own order. -/
def QT (P : Program) (n : Nat) (ops : Array Oper) (Q : Exit → Act → World → Prop) (C : World → Prop) (tl : List Oper) (l : List Oper) (S : SS) : Prop := QJ P n ops (fun a => ∀ w, C w → wpList P ops Q tl a w) C l S
theorem QT.tail {ops : Array Oper} {tl : List Oper} (h : W P n ops Q C tl S) : QJ P n ops (fun a => ∀ w, C w → wpList P ops Q tl a w) C [] S := fun a hs w hC => h a w hs hC
theorem WC.drawT (hm : P.follows .mixedOrders = true) {l : List Oper} (k : Nat) (hB : Region.lexTailB .any l.toArray k = true) (hC : ∀ w, C w → C { w with drawn := w.drawn + 1 }) (h : QJ P n l.toArray (fun a => ∀ w, C w → wpList P l.toArray Q (l.drop k) a w) C (l.take k) S) : WC P n (.region id l.toArray true) Q C S := by
  intro a w hsl hw
  simp only [Region.lexTailB, Bool.and_eq_true, decide_eq_true_eq] at hB
  obtain ⟨⟨⟨⟨hsel, hn⟩, hs⟩, hc⟩, hlex⟩ := hB
  have hn' : k < l.length := by simpa using hn
  have htl : (l.take k).length = k := by simp; omega
  have hdl : (l.drop k).length = l.toArray.size - k := by simp
  have inv0 : HeadInv .any l.toArray k (Array.replicate l.toArray.size false) :=
    ⟨by simp, fun j oj _ hl => (by rw [getD_replicate_false] at hl; cases hl), fun t _ ht => getD_in (by simpa using ht) (getD_replicate_false _ _)⟩
  have H1 := Heads.lex (P := P) (C := C) (m := l.toArray.size - k) hsel hs hc hn (l.take k) 0 _ a (fun j hj => by
    have hj' : j < k := by rw [htl] at hj; exact hj
    simp [hj']) (by simpa using htl) inv0 (by rw [htl]; exact hlex) (h a hsl)
  refine wp_region_any hm ?_
  have H2 := Heads.any (Q := Q) (m := l.toArray.size - k) (fun ls a' w' hL hw' => by
    rw [← hdl]
    rw [← hdl] at hL
    exact wpAny_of_seq (l.drop k) k ls a' w' (fun j => by simp) hL.1 (hL.2 w' hw')) (l.take k).length _ a _ H1 (hC w hw)
  rw [htl] at H2
  rw [show l.toArray.size = k + (l.toArray.size - k) by simp; omega]
  rw [show k + (l.toArray.size - k) = l.toArray.size by simp; omega] at H2 ⊢
  exact H2
theorem QJ.tail {ops : Array Oper} {tl : List Oper} (h : W P n ops Q C tl S) : QJ P n ops (fun a => ∀ w, C w → wpList P ops Q tl a w) C [] S := fun a hs w hC => h a w hs hC
end
/-! ### 11. Results in memory -/
section
variable {P : Program} {n : Nat} {S : SS} {w0 we : World} {Le L : List Blk}
theorem run_result {w : World} {t b off k i : Nat} {T : TypeId} {c cs : List Value} {fr : Nat × Nat} (hz : Z w0 we Le L w) (ha : Ag P t k) (hL : L[i]? = some (b, .cells c.toArray T fr)) (hv : (c.drop off).take k = cs) (hk : cs.length = k) : (loadVar t ⟨b, off, none⟩).run P w = .ok (.agg cs.toArray) w := by
  obtain ⟨_, _, _, hm⟩ := ha.out
  have h1 := run_loadCellsFrom (P := P) (w := w) (b := b) (off := off) (cs := cs) (fun j hj => by
    rw [hz.cell hL, ← hv, List.getElem?_take_of_lt (by omega), List.getElem?_drop]) k 0 #[] (by omega)
  simp only [List.drop_zero, Array.empty_append] at h1
  simp [loadVar, run_isAggA ha, run_size hm, loadCells, h1]
theorem X.retC {fn : Func} {s t b off k : Nat} {T : TypeId} {c cs : List Value} {fr : Nat × Nat} {E : Ending → World → Prop} (ha : Ag P t k) (i : Nat) (hr : fn.results = #[.cell s t]) (hp : lk S s = some (.pointer (some ⟨b, off, none⟩))) (hL : L[i]? = some (b, .cells c.toArray T fr)) (hv : (c.drop off).take k = cs) (hk : cs.length = k) (h : ∀ w, Z w0 we Le L w → E (.returned (.agg cs.toArray)) w) : X n (bodyPost P fn E .ret) (Z w0 we Le L) S :=
  fun a w hs hz => ⟨hs.nodef, _, by simp [results, hr, hs.get s _ hp, asAddr, run_result hz ha hL hv hk], h w hz⟩
theorem X.retCT {fn : Func} {s t u b off k : Nat} {T : TypeId} {c cs : List Value} {fr : Nat × Nat} {v : Value} {E : Ending → World → Prop} (ha : Ag P t k) (i : Nat) (hr : fn.results = #[.cell s t, .tmp u]) (hp : lk S s = some (.pointer (some ⟨b, off, none⟩))) (hL : L[i]? = some (b, .cells c.toArray T fr)) (hv : (c.drop off).take k = cs) (hk : cs.length = k) (hu : lk S u = some v) (h : ∀ w, Z w0 we Le L w → E (.returned (.tuple #[.agg cs.toArray, v])) w) : X n (bodyPost P fn E .ret) (Z w0 we Le L) S :=
  fun a w hs hz => ⟨hs.nodef, _, by simp [results, hr, hs.get s _ hp, hs.get u _ hu, asAddr, run_result hz ha hL hv hk], h w hz⟩
/-! slices of the call's own, read by a callee -/
theorem Rd.own {α : Type} {enc : α → List Value} {k b cap : Nat} {w : World} {T : TypeId} {c : List Value} {fr : Nat × Nat} {xs : List α} (hb : w.heap[b]? = some (.cells c.toArray T fr)) (hk : ∀ x, (enc x).length = k) (hc : c.take (xs.length * k) = xs.flatMap enc) (hn : xs.length ≤ 140737488355328) : Rd enc k w (.slice (some ⟨b, 0, none⟩) xs.length cap) xs := by
  refine ⟨_, cap, rfl, hn, hk, .inr ⟨b, 0, rfl, fun i hi j hj => ?_⟩⟩
  have h1 : w.cell? ⟨b, 0 + i * k + j, none⟩ = c[0 + i * k + j]? := by simp [World.cell?, hb]
  rw [h1, Nat.zero_add]
  have hlt : i * k + j < xs.length * k := by
    have : i * k + k ≤ xs.length * k := by rw [← Nat.succ_mul]; exact Nat.mul_le_mul_right _ hi
    omega
  rw [← List.getElem?_take_of_lt hlt, hc]
  clear hc h1 hb hn hlt
  induction xs generalizing i with
  | nil => simp at hi
  | cons x xs ih =>
    rw [List.flatMap_cons]
    cases i with
    | zero => rw [Nat.zero_mul, Nat.zero_add, List.getElem?_append_left (by rw [hk]; exact hj)]; rfl
    | succ i =>
      rw [List.getElem?_append_right (by rw [hk, Nat.succ_mul]; omega), hk, show (i + 1) * k + j - k = i * k + j by rw [Nat.succ_mul]; omega]
      exact ih i (by simpa using hi)
theorem Z.has {w : World} (hz : Z w0 we Le L w) {b : Nat} {o : Obj} {i : Nat} (hL : L[i]? = some (b, o)) : w.heap[b]? = some o := hz.h.has _ (List.mem_of_getElem? hL)
theorem Rd.below {α : Type} {enc : α → List Value} {k : Nat} {w w' : World} {v : Value} {xs : List α} (h : Rd enc k w v xs) (hb : Below w.heap.size w w') : Rd enc k w' v xs := by
  obtain ⟨A, c, rfl, h1, h2, h3⟩ := h
  refine ⟨A, c, rfl, h1, h2, ?_⟩
  rcases h3 with h3 | ⟨b, off, rfl, h3⟩
  · exact .inl h3
  · refine .inr ⟨b, off, rfl, fun i hi j hj => ?_⟩
    have h4 := h3 i hi j hj
    rw [List.getElem?_eq_getElem (by rw [h2]; exact hj)] at h4 ⊢
    exact (hb.cell (World.block_lt_of_cell? w _ h4)).trans h4
end
section
variable {P : Program} {n : Nat} {ops : Array Oper} {Q : Exit → Act → World → Prop} {Qa : Act → Prop} {C : World → Prop} {S : SS} {rest : List Oper} {d : Nat} {op : Op} {ty : TypeId} {pos : String} {af : Array Edge} {g : Option (Nat × Bool)} {b : Bool}
/-- A bool that is not known yet: two ways. -/
theorem W.qB (hq : QOp P n C S ⟨some d, op, ty, pos, af, g⟩ (.bool b)) (ht : b = true → W P n ops Q C rest ((d, .bool true) :: S)) (hf : b = false → W P n ops Q C rest ((d, .bool false) :: S)) (hg : gd ops S g = some true := by rfl) (hd : Nat.blt d n = true := by rfl) : W P n ops Q C (⟨some d, op, ty, pos, af, g⟩ :: rest) S := by
  cases b with
  | true => exact .q hq (ht rfl) hg hd
  | false => exact .q hq (hf rfl) hg hd
theorem QJ.qB (hq : QOp P n C S ⟨some d, op, ty, pos, af, g⟩ (.bool b)) (ht : b = true → QJ P n ops Qa C rest ((d, .bool true) :: S)) (hf : b = false → QJ P n ops Qa C rest ((d, .bool false) :: S)) (hg : gd ops S g = some true := by rfl) (hd : Nat.blt d n = true := by rfl) : QJ P n ops Qa C (⟨some d, op, ty, pos, af, g⟩ :: rest) S := by
  cases b with
  | true => exact .q hq (ht rfl) hg hd
  | false => exact .q hq (hf rfl) hg hd
end
section
variable {P : Program} {n : Nat} {C : World → Prop} {S : SS} {d : Option Nat} {ty : TypeId} {pos : String} {af : Array Edge} {g : Option (Nat × Bool)}
theorem QOp.mkf {fn : Fn} {fs cs : List Operand} {us vs : List Value} (hf : evs S fs = some us) (hc : evs S cs = some vs) : QOp P n C S ⟨d, .makeFunc fn fs.toArray cs.toArray, ty, pos, af, g⟩ (.func fn us.toArray vs.toArray) :=
  .of fun a w hs hC => by
    have h1 : fs.toArray.map a.eval = us.toArray := by simp [hs.evals hf]
    have h2 : cs.toArray.map a.eval = vs.toArray := by simp [hs.evals hc]
    simp [execOp, Instr.makeFunc, h1, h2]
theorem QOp.conv {src dst : TypeId} {u : TypeDesc} {k k' : IntKind} {x : Operand} {i r : Int} (h1 : P.underlying src = some u) (h2 : P.underlying dst = some (.int k')) (hx : ev S x = some (.int k i)) (hr : k'.wrap i = r) : QOp P n C S ⟨d, .convert src dst x, ty, pos, af, g⟩ (.int k' r) :=
  .of fun a w hs hC => by subst hr; simp [execOp, hs.eval hx, convert, run_underlying h1, run_underlying h2, Conv.intToInt]
theorem QOp.shr {x y : Operand} {k k' : IntKind} {i j r : Int} {t u : TypeId} (hx : ev S x = some (.int k i)) (hy : ev S y = some (.int k' j)) (hj : 0 ≤ j) (hr : i.fdiv (2 ^ (min j.toNat k.bits)) = r) : QOp P n C S ⟨d, .binOp .shr t x y u, ty, pos, af, g⟩ (.int k r) :=
  .of fun a w hs hC => by
    subst hr
    have : ¬ j < 0 := by omega
    simp [execOp, hs.eval hx, hs.eval hy, eqGuard, binOp, Op.shift, this]
end
theorem bv {a b : Bool} (h : b = a) : Ending.returned (.bool a) = Ending.returned (.bool b) := by rw [h]
theorem iv {k : IntKind} {a b : Int} (h : b = a) : Ending.returned (.int k a) = Ending.returned (.int k b) := by rw [h]
theorem WC.once {P : Program} {n : Nat} {Q : Exit → Act → World → Prop} {S : SS} {C : World → Prop} {x : Code} (h : WC P n x (Exit.then (fun _ _ => False) Q) C S) : WC P n (.loop x) Q C S := fun a w hs hC => wp_loop_once (h a w hs hC)
/-! ### 12. Rows of elements of k cells -/
section
variable {α : Type} {enc : α → List Value} {k : Nat}
theorem flat_len (hk : ∀ x, (enc x).length = k) (xs : List α) : (xs.flatMap enc).length = xs.length * k := by
  induction xs with
  | nil => simp
  | cons x xs ih => rw [List.flatMap_cons, List.length_append, ih, hk, List.length_cons, Nat.succ_mul]; omega
theorem flat_at (hk : ∀ x, (enc x).length = k) : ∀ (xs : List α) (rest : List Value) (j : Nat) (h : j < xs.length), ((xs.flatMap enc ++ rest).drop (j * k)).take k = enc xs[j]
  | [], rest, j, h => by simp at h
  | x :: xs, rest, 0, h => by
    rw [Nat.zero_mul, List.drop_zero, List.flatMap_cons, List.append_assoc, List.take_append_of_le_length (by rw [hk]; exact Nat.le_refl _)]
    rw [← hk x, List.take_length]; rfl
  | x :: xs, rest, j + 1, h => by
    have h' : j < xs.length := by simpa using h
    rw [List.flatMap_cons, List.append_assoc, Nat.succ_mul, List.drop_append, hk]
    rw [List.drop_of_length_le (by rw [hk]; omega), List.nil_append, show j * k + k - k = j * k by omega]
    exact flat_at hk xs rest j h'
theorem flat_set (hk : ∀ x, (enc x).length = k) : ∀ (xs : List α) (rest : List Value) (j : Nat) (y : α), j < xs.length → (xs.flatMap enc ++ rest).take (j * k) ++ enc y ++ (xs.flatMap enc ++ rest).drop (j * k + (enc y).length) = (xs.set j y).flatMap enc ++ rest
  | [], rest, j, y, h => by simp at h
  | x :: xs, rest, 0, y, h => by
    simp only [Nat.zero_mul, List.take_zero, List.nil_append, List.set_cons_zero, List.flatMap_cons, List.append_assoc, Nat.zero_add]
    rw [hk, ← hk x, List.drop_left]
  | x :: xs, rest, j + 1, y, h => by
    have h' : j < xs.length := by simpa using h
    have ih := flat_set hk xs rest j y h'
    simp only [List.set_cons_succ, List.flatMap_cons, List.append_assoc] at ih ⊢
    rw [← ih, hk, Nat.succ_mul]
    rw [List.take_append, List.drop_append, hk]
    rw [List.take_of_length_le (by rw [hk]; omega), List.drop_of_length_le (by rw [hk]; omega)]
    rw [show j * k + k - k = j * k by omega, show j * k + k + k - k = j * k + k by omega]
    simp
end
section
variable {P : Program} {n : Nat} {ops : Array Oper} {Q : Exit → Act → World → Prop} {S : SS} {rest : List Oper} {d : Option Nat} {ty : TypeId} {pos : String} {af : Array Edge} {g : Option (Nat × Bool)} {w0 we : World} {Le L : List Blk}
variable {α : Type} {enc : α → List Value} {k : Nat}
/-- Element j of a row of the call's own: read, written. -/
theorem QOp.ldR {x : Operand} {b j : Nat} {t T : TypeId} {xs : List α} {sp : List Value} {fr : Nat × Nat} (ho : Ag P t k) (hk : ∀ x, (enc x).length = k) (i : Nat) (hx : ev S x = some (.pointer (some ⟨b, 0 + j * k, none⟩))) (hL : L[i]? = some (b, .cells (xs.flatMap enc ++ sp).toArray T fr)) (hj : j < xs.length) : QOp P n (Z w0 we Le L) S ⟨d, .load t x, ty, pos, af, g⟩ (.agg (enc xs[j]).toArray) :=
  .ldOA ho i hx hL (by rw [Nat.zero_add]; exact flat_at hk xs sp j hj) (hk _)
theorem QOp.ldR1 {x : Operand} {b j : Nat} {t T : TypeId} {f : α → Value} {xs : List α} {sp : List Value} {fr : Nat × Nat} (ho : One P t) (i : Nat) (hx : ev S x = some (.pointer (some ⟨b, 0 + j * 1, none⟩))) (hL : L[i]? = some (b, .cells (xs.flatMap (fun x => [f x]) ++ sp).toArray T fr)) (hj : j < xs.length) : QOp P n (Z w0 we Le L) S ⟨d, .load t x, ty, pos, af, g⟩ (f xs[j]) :=
  .ldO ho i hx hL (by
    have h := flat_at (enc := fun x => [f x]) (k := 1) (fun _ => rfl) xs sp j hj
    rw [Nat.zero_add]
    have h2 := congrArg (·[0]?) h
    simp only [List.getElem?_take_of_lt (show 0 < 1 by omega), List.getElem?_drop, Nat.add_zero, List.getElem?_cons_zero] at h2
    exact h2)
theorem W.stR {x y : Operand} {b j : Nat} {t T : TypeId} {xs : List α} {u : α} {sp : List Value} (ho : Ag P t k) (hk : ∀ x, (enc x).length = k) (i : Nat) (hx : ev S x = some (.pointer (some ⟨b, 0 + j * k, none⟩))) (hy : ev S y = some (.agg (enc u).toArray)) (hv : (enc u).all Value.oneCell' = true) (hL : L[i]? = some (b, .cells (xs.flatMap enc ++ sp).toArray T (0, 0))) (hj : j < xs.length) (h : W P n ops Q (Z w0 we Le (L.set i (b, .cells ((xs.set j u).flatMap enc ++ sp).toArray T (0, 0)))) rest S) (hg : gd ops S g = some true := by rfl) : W P n ops Q (Z w0 we Le L) (⟨none, .store t x y, ty, pos, af, g⟩ :: rest) S := by
  have hlen := flat_len hk xs
  have hle : j * k + k ≤ xs.length * k := by rw [← Nat.succ_mul]; exact Nat.mul_le_mul_right _ hj
  refine .stA ho i hx hy (hk u) hv hL (by simp only [Nat.ble_eq, List.length_append, hk, hlen]; omega) ?_ hg
  rw [Nat.zero_add, flat_set hk xs sp j u hj]
  exact h
theorem W.stR1 {x y : Operand} {b j : Nat} {t T : TypeId} {f : α → Value} {xs : List α} {u : α} {sp : List Value} (ho : One P t) (i : Nat) (hx : ev S x = some (.pointer (some ⟨b, 0 + j * 1, none⟩))) (hy : ev S y = some (f u)) (hv : (f u).oneCell' = true) (hL : L[i]? = some (b, .cells (xs.flatMap (fun x => [f x]) ++ sp).toArray T (0, 0))) (hj : j < xs.length) (h : W P n ops Q (Z w0 we Le (L.set i (b, .cells ((xs.set j u).flatMap (fun x => [f x]) ++ sp).toArray T (0, 0)))) rest S) (hg : gd ops S g = some true := by rfl) : W P n ops Q (Z w0 we Le L) (⟨none, .store t x y, ty, pos, af, g⟩ :: rest) S := by
  have hlen := flat_len (enc := fun x => [f x]) (k := 1) (fun _ => rfl) xs
  refine .st ho i hx hy hv hL (by simp only [Nat.blt_eq, List.length_append, hlen]; omega) ?_ hg
  have h2 := flat_set (enc := fun x => [f x]) (k := 1) (fun _ => rfl) xs sp j u hj
  simp only [Nat.mul_one, List.length_singleton] at h2
  have h3 : (xs.flatMap (fun x => [f x]) ++ sp).set (0 + j * 1) (f u) = (xs.set j u).flatMap (fun x => [f x]) ++ sp := by
    rw [← h2, Nat.zero_add, Nat.mul_one, List.set_eq_take_append_cons_drop, if_pos (by simp only [List.length_append, hlen]; omega)]
    simp
  rw [h3]
  exact h
end
/-! ### 13. A region that draws its order, where some operations float -/
section
variable {P : Program} {ops : Array Oper} {F : World → Prop} {K : Nat → Bool} {R : Act → World → Prop}
/-- R behind a way that ends; no panic. -/
def Qn (Q : Exit → Act → World → Prop) (R : Act → World → Prop) : Exit → Act → World → Prop
  | .normal, a, w => R a w
  | .panic _, _, _ => False
  | e, a, w => Q e a w
/-- Whatever comes up from here on; F holds behind every operation of K. -/
def wpAnyS (P : Program) (ops : Array Oper) (Q : Exit → Act → World → Prop) (F : World → Prop) (K : Nat → Bool) (R : Act → World → Prop) : Nat → Array Bool → Act → World → Prop
  | 0, ls, a, w => Region.ready .any ops ls = [] ∧ R a w
  | f + 1, ls, a, w => (Region.ready .any ops ls = [] → R a w) ∧ ∀ i ∈ Region.ready .any ops ls, wpOp P ops (Qn Q R) i (fun a' w' => (K i = true → F w') ∧ wpAnyS P ops Q F K R f (ls.setIfInBounds i true) a' w') a w
theorem wpOp_out {Q : Exit → Act → World → Prop} {i : Nat} {K : Act → World → Prop} {a : Act} {w : World} (h : wpOp P ops (Qn Q (Q .normal)) i K a w) : wpOp P ops Q i K a w := by
  have hl : LetsOut (Qn Q (Q .normal)) → LetsOut Q := id
  unfold wpOp at *
  split
  · rename_i ho; simpa only [ho] using h
  · rename_i o ho
    simp only [ho] at h
    split
    · rename_i hw
      simp only [hw, if_true] at h
      refine h.imp (fun h => ?_) (fun h => ⟨h.1, hl h.2⟩)
      unfold Oper.wp at *
      generalize (execOp a.eval o).run P w = r at *
      cases r with
      | ok n w' =>
        cases n <;> simp only [Oper.upon] at h ⊢ <;> first
          | exact h
          | exact h.elim
          | exact h.mono fun e w'' he => by
              cases e with
              | returned u => exact he
              | panicked c => exact he.elim
              | outgrown => exact hl he
      | halt x w' =>
        cases x <;> simp only [Oper.upon] at h ⊢
        exact h.elim
    · rename_i hw
      rwa [if_neg hw] at h
theorem wpAny_of_S {Q : Exit → Act → World → Prop} : ∀ (f : Nat) (ls : Array Bool) (a : Act) (w : World), wpAnyS P ops Q F K (Q .normal) f ls a w → wpAny P .any ops Q f ls a w
  | 0, _, _, _, h => h
  | f + 1, _, _, _, h => ⟨h.1, fun i hi => wpOp_mono (fun a' w' h' => wpAny_of_S f _ a' w' h'.2) (wpOp_out (h.2 i hi))⟩
theorem wpAnyS_first {Q : Exit → Act → World → Prop} {G : World → Prop} {i : Nat} {oi : Oper} {v : Value} (hG : (∀ w, G w) ∨ G = F) (hi : ops[i]? = some oi) (hsel : Region.noSelect ops = true) :
    ∀ (f : Nat) (ls : Array Bool) (a : Act) (w : World),
      (∀ j oj, ops[j]? = some oj → j ≠ i → ls.getD j true = false → (∀ e ∈ oj.after, Region.binds .any e = true → e.on ≠ i) → oi.apart ops oj = true ∧ ((∀ w, G w) ∨ K j = true)) → (K i = true → G = F) →
      i ∈ Region.ready .any ops ls → YieldsIf P ops G oi v a → G w →
      wpAnyS P ops Q F K R f (ls.setIfInBounds i true) (a.put oi.dst v) w → wpAnyS P ops Q F K R (f + 1) ls a w := by
  intro f
  induction f with
  | zero =>
    intro ls a w _ hKi hr hy hw H
    refine ⟨fun h => (by rw [h] at hr; cases hr), fun j hj => ?_⟩
    by_cases hji : j = i
    · subst hji; exact hy.wpOp hi hw ⟨fun k => hKi k ▸ hw, H⟩
    · have := ready_mono hj hji
      rw [H.1] at this
      cases this
  | succ f ih =>
    intro ls a w hfree hKi hr hy hw H
    refine ⟨fun h => (by rw [h] at hr; cases hr), fun j hj => ?_⟩
    by_cases hji : j = i
    · subst hji; exact hy.wpOp hi hw ⟨fun k => hKi k ▸ hw, H⟩
    · have h1 := H.2 j (ready_mono hj hji)
      obtain ⟨hjun, oj, hoj, hall⟩ := mem_ready.1 hj
      have hnot : ∀ e ∈ oj.after, Region.binds .any e = true → e.on ≠ i := fun e he hb heq => by
        have h1 := hall e he hb
        rw [heq, getD_both (mem_ready.1 hr).1] at h1
        cases h1
      obtain ⟨hap, hKj⟩ := hfree j oj hoj hji hjun hnot
      have h2 := wpOp_putIf (S := G) hoj hap (fun cs b => Region.noSelect_spec hsel i oi cs b hi) (fun cs b => Region.noSelect_spec hsel j oj cs b hoj) (fun c a w h => h.elim) hy h1
      refine wpOp_mono (fun a' w' h3 => ⟨h3.2.1, ih (ls.setIfInBounds j true) a' w' (fun k ok hk hki hun hno => ?_) hKi (ready_mono hr (Ne.symm hji)) h3.1 ?_ ?_⟩) h2
      · refine hfree k ok hk hki ?_ hno
        by_cases hjk : j = k
        · subst hjk; exact hjun
        · rw [getD_set_ne true hjk] at hun; exact hun
      · rcases hG with hG | hG
        · exact hG _
        · rcases hKj with hKj | hKj
          · exact hKj _
          · exact hG ▸ h3.2.1 hKj
      · rw [Array.setIfInBounds_comm _ _ hji]
        exact h3.2.2
/-- Operations that yield one value and leave the world as it is. -/
def plainB : Op → Bool
  | .call c => match c.callee with
    | .builtin .len => true
    | .builtin .min => true
    | _ => false
  | .move .. | .assign .. | .pick .. | .build .. | .load .. | .nilCheck .. | .binOp .. | .unOp .. | .convert .. | .makeFunc .. | .slice .. | .fieldAddr .. | .field .. | .indexAddr .. | .index .. | .extract .. => true
  | _ => false
def OnlyValue (P : Program) (s : Sem Next) : Prop := ∀ w n w', s.run P w = .ok n w' → ∃ u, n = .value u
theorem OnlyValue.pure (u : Value) : OnlyValue P (pure (.value u)) := fun w n w' h => by simp only [Sem.run_pure, Result.ok.injEq] at h; exact ⟨u, h.1.symm⟩
theorem OnlyValue.bind {α : Type} {s : Sem α} {f : α → Sem Next} (h : ∀ x, OnlyValue P (f x)) : OnlyValue P (s >>= f) := fun w n w' e => by
  rw [Sem.run_bind] at e
  cases hs : s.run P w with
  | ok x w1 => rw [hs] at e; exact h x w1 n w' e
  | halt x w1 => rw [hs] at e; cases e
theorem OnlyValue.halt {s : Sem Next} (h : ∀ w, ∃ x w', s.run P w = .halt x w') : OnlyValue P s := fun w n w' e => by
  obtain ⟨x, w1, h⟩ := h w
  rw [h] at e; cases e
theorem OnlyValue.out {s : Sem Next} (ho : OnlyValue P s) {C : World → Prop} {w : World} {v : Value} (h : Oper.quietUpon P C w v (s.run P w)) : s.run P w = .ok (.value v) w := by
  cases hs : s.run P w with
  | ok n w' =>
    obtain ⟨u, rfl⟩ := ho w n w' hs
    rw [hs] at h
    simp only [Oper.quietUpon] at h
    rw [h.1, h.2]
  | halt x w' =>
    rw [hs] at h
    exact h.elim
theorem quiet_plain {o : Oper} {a : Act} {C : World → Prop} {w : World} {v : Value} (hp : plainB o.op = true) (h : o.quietAt P a C w v) : (execOp a.eval o).run P w = .ok (.value v) w := by
  obtain ⟨d, op, ty, pos, af, g⟩ := o
  unfold Oper.quietAt at h
  refine OnlyValue.out ?_ h
  cases op
  case call c =>
    obtain ⟨callee, args, ts⟩ := c
    cases callee
    case builtin b =>
      cases b <;> first | (cases hp; done) | skip
      all_goals
        intro w n w' hr
        simp only [execOp, resolve, Sem.run_bind, Sem.run_pure, Result.andThen_ok, invoke, builtin] at hr
        exact (OnlyValue.bind (P := P) (f := fun x => pure (Next.value x)) fun x => .pure x) w n w' (by rw [Sem.run_bind]; exact hr)
    all_goals cases hp
  all_goals (first | (cases hp; done) | skip)
  all_goals simp only [execOp]
  all_goals first
    | exact .bind fun x => .pure x
    | exact .bind fun x => .pure _
    | exact .pure _
    | skip
  repeat' split
  all_goals first
    | exact .pure _
    | exact .halt fun w => ⟨_, _, rfl⟩
    | skip
  refine .bind fun _ => .bind fun _ => ?_
  split
  · exact .bind fun _ => .pure _
  · exact .pure _
/-! The plan: l1 float whatever the world, l2 float while F holds, l3 come one by one; br: operations behind which F need not hold. -/
def nth {α : Type} : List α → Nat → Option α
  | [], _ => none
  | x :: _, 0 => some x
  | _ :: xs, i + 1 => nth xs i
theorem nth_eq {α : Type} : ∀ (l : List α) (i : Nat), nth l i = l[i]?
  | [], _ => rfl
  | x :: _, 0 => rfl
  | _ :: xs, i + 1 => by rw [nth, nth_eq xs i]; rfl
def sel {α : Type} (l : List α) : List Nat → List α
  | [] => []
  | i :: is => match nth l i with
    | some o => o :: sel l is
    | none => sel l is
def takeB (ops : Array Oper) (br : List Nat) (pu : Bool) (ls : Array Bool) (i : Nat) : Bool :=
  (Region.ready .any ops ls).contains i && (!pu || br.contains i) && match ops[i]? with
    | none => false
    | some oi => plainB oi.op && (List.range ops.size).all fun j => j == i || ls.getD j true || match ops[j]? with
      | some oj => oj.after.any (fun e => Region.binds .any e && e.on == i) || (oi.apart ops oj && (pu || !br.contains j))
      | none => true
/-- What comes one by one, or in one of two orders, or floats. -/
inductive Pl where
  | nil : Pl
  | one : Nat → Pl → Pl
  | two : Nat → Pl → Nat → Pl → Pl
  | tri : Nat → Pl → Nat → Pl → Nat → Pl → Pl
  | fl : Nat → Pl → Pl
def Pl.len : Pl → Nat
  | .nil => 0
  | .one _ t => t.len + 1
  | .two _ t _ _ => t.len + 1
  | .tri _ t _ _ _ _ => t.len + 1
  | .fl _ t => t.len + 1
def soloB (ops : Array Oper) (br : List Nat) : Pl → Array Bool → Bool
  | .nil, ls => (Region.ready .any ops ls).isEmpty
  | .one i t, ls => decide (Region.ready .any ops ls = [i]) && soloB ops br t (ls.setIfInBounds i true)
  | .two i t j u, ls => decide (Region.ready .any ops ls = [i, j]) && Nat.beq u.len t.len && soloB ops br t (ls.setIfInBounds i true) && soloB ops br u (ls.setIfInBounds j true)
  | .tri i t j u k v, ls => decide (Region.ready .any ops ls = [i, j, k]) && Nat.beq u.len t.len && Nat.beq v.len t.len && soloB ops br t (ls.setIfInBounds i true) && soloB ops br u (ls.setIfInBounds j true) && soloB ops br v (ls.setIfInBounds k true)
  | .fl i t, ls => takeB ops br false ls i && soloB ops br t (ls.setIfInBounds i true)
def takesB (ops : Array Oper) (br : List Nat) (pu : Bool) (B : Array Bool → Bool) : List Nat → Array Bool → Bool
  | [], ls => B ls
  | i :: is, ls => takeB ops br pu ls i && takesB ops br pu B is (ls.setIfInBounds i true)
def wpT (P : Program) (l : List Oper) (Q : Exit → Act → World → Prop) (F : World → Prop) (br : List Nat) (R : Act → World → Prop) : Pl → Act → World → Prop
  | .nil, a, w => R a w
  | .one i t, a, w => match nth l i with
    | some o => wpList P l.toArray (Qn Q (fun a w => (br.contains i = false → F w) ∧ wpT P l Q F br R t a w)) [o] a w
    | none => False
  | .two i t j u, a, w => (match nth l i with
    | some o => wpList P l.toArray (Qn Q (fun a w => (br.contains i = false → F w) ∧ wpT P l Q F br R t a w)) [o] a w
    | none => False) ∧ (match nth l j with
    | some o => wpList P l.toArray (Qn Q (fun a w => (br.contains j = false → F w) ∧ wpT P l Q F br R u a w)) [o] a w
    | none => False)
  | .tri i t j u k v, a, w => (match nth l i with
    | some o => wpList P l.toArray (Qn Q (fun a w => (br.contains i = false → F w) ∧ wpT P l Q F br R t a w)) [o] a w
    | none => False) ∧ (match nth l j with
    | some o => wpList P l.toArray (Qn Q (fun a w => (br.contains j = false → F w) ∧ wpT P l Q F br R u a w)) [o] a w
    | none => False) ∧ (match nth l k with
    | some o => wpList P l.toArray (Qn Q (fun a w => (br.contains k = false → F w) ∧ wpT P l Q F br R v a w)) [o] a w
    | none => False)
  | .fl i t, a, w => F w ∧ wpQuiet P l.toArray F (fun a => wpT P l Q F br R t a w) (sel l [i]) a
theorem wp_Qn {Q : Exit → Act → World → Prop} {R R' K : Act → World → Prop} {o : Oper} {a : Act} {w : World} (h : o.wp P a w K (Qn Q R)) : o.wp P a w K (Qn Q R') := by
  unfold Oper.wp at *
  generalize (execOp a.eval o).run P w = r at *
  cases r with
  | ok n w' =>
    cases n <;> simp only [Oper.upon] at h ⊢ <;> first
      | exact h
      | exact h.elim
      | exact h.mono fun e w'' he => by
          cases e with
          | returned u => exact he
          | panicked c => exact he.elim
          | outgrown => exact he
  | halt x w' =>
    cases x <;> simp only [Oper.upon] at h ⊢
    exact h.elim
theorem take_sound {Q : Exit → Act → World → Prop} {G : World → Prop} {l : List Oper} {br : List Nat} {Qa : Act → Prop} {w : World} {m : Nat} {pu : Bool} (hsel : Region.noSelect l.toArray = true) (hG : (pu = true ∧ ∀ w, G w) ∨ (pu = false ∧ G = F)) (hw : G w) (B : Array Bool → Bool)
    (hr : ∀ ls a, B ls = true → Qa a → wpAnyS P l.toArray Q F (fun i => !br.contains i) R m ls a w) : ∀ (is : List Nat) (ls : Array Bool) (a : Act),
    takesB l.toArray br pu B is ls = true → wpQuiet P l.toArray G Qa (sel l is) a → wpAnyS P l.toArray Q F (fun i => !br.contains i) R (is.length + m) ls a w
  | [], ls, a, hB, h => by rw [List.length_nil, Nat.zero_add]; exact hr ls a hB h
  | i :: is, ls, a, hB, h => by
    simp only [takesB, Bool.and_eq_true] at hB
    obtain ⟨hB, hB'⟩ := hB
    simp only [takeB, Bool.and_eq_true] at hB
    obtain ⟨⟨hrd, hpu⟩, hB⟩ := hB
    have hrd' : i ∈ Region.ready .any l.toArray ls := by simpa using hrd
    cases ho : l.toArray[i]? with
    | none => rw [ho] at hB; cases hB
    | some o =>
      rw [ho] at hB
      simp only [Bool.and_eq_true, List.all_eq_true, List.mem_range] at hB
      have hn : nth l i = some o := by rw [nth_eq, ← List.getElem?_toArray, ho]
      simp only [sel, hn] at h
      have hq : qOp P l.toArray G i (wpQuiet P l.toArray G Qa (sel l is)) a := by unfold qOp; rw [ho]; exact h
      obtain ⟨v, hy, hK⟩ := yieldsIn_of_qOp ho hq
      have hy' : YieldsIf P l.toArray G o v a := hy.imp (fun h => ⟨h.1, fun w' hw' => quiet_plain hB.1 (h.2 w' hw')⟩) id
      rw [List.length_cons, show is.length + 1 + m = is.length + m + 1 by omega]
      refine wpAnyS_first (G := G) (hG.imp (·.2) (·.2)) ho hsel (is.length + m) ls a w (fun j oj hj hne hun hno => ?_) (fun hk => ?_) hrd' hy' hw (take_sound hsel hG hw B hr is _ _ hB' hK)
      · have h1 := hB.2 j (Array.getElem?_eq_some_iff.1 hj).1
        rw [hj] at h1
        simp only [Bool.or_eq_true, Bool.and_eq_true, beq_iff_eq, hne, false_or, hun, Bool.false_eq_true] at h1
        rcases h1 with h1 | h1
        · obtain ⟨e, he, hb⟩ := Array.any_eq_true'.1 h1
          simp only [Bool.and_eq_true, beq_iff_eq] at hb
          exact absurd hb.2 (hno e he hb.1)
        · refine ⟨h1.1, ?_⟩
          rcases hG with ⟨e, hG⟩ | ⟨e, hG⟩
          · exact .inl hG
          · rw [e] at h1; exact .inr (by simpa using h1.2)
      · rcases hG with ⟨e, hG⟩ | ⟨e, hG⟩
        · rw [e] at hpu
          simp only [Bool.not_true, Bool.false_or] at hpu
          simp only [hpu, Bool.not_true, Bool.false_eq_true] at hk
        · exact hG
theorem step_sound {Q : Exit → Act → World → Prop} {l : List Oper} {br : List Nat} {i : Nat} {t : Pl} {m : Nat} {ls : Array Bool} {a : Act} {w : World} (ih : ∀ a w, wpT P l Q F br R t a w → wpAnyS P l.toArray Q F (fun i => !br.contains i) R m (ls.setIfInBounds i true) a w)
    (h : match nth l i with | some o => wpList P l.toArray (Qn Q (fun a w => (br.contains i = false → F w) ∧ wpT P l Q F br R t a w)) [o] a w | none => False) :
    wpOp P l.toArray (Qn Q R) i (fun a' w' => ((!br.contains i) = true → F w') ∧ wpAnyS P l.toArray Q F (fun i => !br.contains i) R m (ls.setIfInBounds i true) a' w') a w := by
  have hK : ∀ a' w', ((br.contains i = false → F w') ∧ wpT P l Q F br R t a' w') → ((!br.contains i) = true → F w') ∧ wpAnyS P l.toArray Q F (fun i => !br.contains i) R m (ls.setIfInBounds i true) a' w' := fun a' w' h' => ⟨fun e => h'.1 (by simpa using e), ih a' w' h'.2⟩
  cases ho : nth l i with
  | none => rw [ho] at h; exact h.elim
  | some o =>
    rw [ho] at h
    have h0 : l.toArray[i]? = some o := by rw [List.getElem?_toArray, ← nth_eq, ho]
    unfold wpOp
    rw [h0]
    simp only [wpList] at h
    dsimp only
    split
    · rename_i hw
      rw [if_pos hw] at h
      exact h.imp (fun h => wp_Qn (Oper.wp_mono hK h)) id
    · rename_i hw
      rw [if_neg hw] at h
      exact hK _ _ h
theorem wpT_sound {Q : Exit → Act → World → Prop} {l : List Oper} {br : List Nat} (hsel : Region.noSelect l.toArray = true) : ∀ (l3 : Pl) (ls : Array Bool) (a : Act) (w : World), soloB l.toArray br l3 ls = true → wpT P l Q F br R l3 a w → wpAnyS P l.toArray Q F (fun i => !br.contains i) R l3.len ls a w
  | .nil, ls, a, w, hB, h => ⟨by simpa [soloB] using hB, h⟩
  | .one i t, ls, a, w, hB, h => by
    simp only [soloB, Bool.and_eq_true, decide_eq_true_eq] at hB
    refine ⟨fun h1 => (by rw [hB.1] at h1; cases h1), fun j hj => ?_⟩
    rw [hB.1] at hj
    obtain rfl : j = i := by simpa using hj
    exact step_sound (fun a w h => wpT_sound hsel t _ a w hB.2 h) h
  | .two i t j u, ls, a, w, hB, h => by
    simp only [soloB, Bool.and_eq_true, decide_eq_true_eq] at hB
    obtain ⟨⟨⟨h1, h2⟩, h3⟩, h4⟩ := hB
    have hlen := Nat.eq_of_beq_eq_true h2
    refine ⟨fun e => (by rw [h1] at e; cases e), fun k hk => ?_⟩
    rw [h1] at hk
    have hk' : k = i ∨ k = j := by simpa using hk
    rcases hk' with rfl | rfl
    · exact step_sound (fun a w h => wpT_sound hsel t _ a w h3 h) h.1
    · exact step_sound (fun a w h => hlen ▸ wpT_sound hsel u _ a w h4 h) h.2
  | .tri i t j u k v, ls, a, w, hB, h => by
    simp only [soloB, Bool.and_eq_true, decide_eq_true_eq] at hB
    obtain ⟨⟨⟨⟨⟨h1, h2⟩, h2'⟩, h3⟩, h4⟩, h5⟩ := hB
    have hlen := Nat.eq_of_beq_eq_true h2
    have hlen' := Nat.eq_of_beq_eq_true h2'
    refine ⟨fun e => (by rw [h1] at e; cases e), fun q hq => ?_⟩
    rw [h1] at hq
    have hq' : q = i ∨ q = j ∨ q = k := by simpa using hq
    rcases hq' with rfl | rfl | rfl
    · exact step_sound (fun a w h => wpT_sound hsel t _ a w h3 h) h.1
    · exact step_sound (fun a w h => hlen ▸ wpT_sound hsel u _ a w h4 h) h.2.1
    · exact step_sound (fun a w h => hlen' ▸ wpT_sound hsel v _ a w h5 h) h.2.2
  | .fl i t, ls, a, w, hB, h => by
    simp only [soloB, Bool.and_eq_true] at hB
    have := take_sound (P := P) (Q := Q) (F := F) (R := R) (m := t.len) (w := w) (pu := false) (br := br) hsel (.inr ⟨rfl, rfl⟩) h.1 (soloB l.toArray br t) (fun ls a hB h => wpT_sound hsel t ls a w hB h) [i] ls a (by simp only [takesB, Bool.and_eq_true]; exact hB) h.2
    rw [List.length_singleton, Nat.add_comm] at this
    exact this
def planAll (ops : Array Oper) (br l1 l2 : List Nat) (l3 : Pl) : Bool := Region.noSelect ops && Nat.beq (l1.length + (l2.length + l3.len)) ops.size && takesB ops br true (takesB ops br false (soloB ops br l3) l2) l1 (Array.replicate ops.size false)
variable {n id : Nat} {C : World → Prop} {S : SS} {Q : Exit → Act → World → Prop}
def WT (P : Program) (n : Nat) (l : List Oper) (Q : Exit → Act → World → Prop) (F : World → Prop) (br : List Nat) (R : Act → World → Prop) (is : Pl) (C : World → Prop) (S : SS) : Prop := ∀ a w, Sl n a S → C w → wpT P l Q F br R is a w
theorem WT.nil {l : List Oper} {br : List Nat} (h : X n R C S) : WT P n l Q F br R .nil C S := h
theorem WT.step {l : List Oper} {br : List Nat} {is : Pl} {i : Nat} {o : Oper} (ho : nth l i = some o) (h : W P n l.toArray (Qn Q (fun a w => (br.contains i = false → F w) ∧ wpT P l Q F br R is a w)) C [o] S) : WT P n l Q F br R (.one i is) C S := fun a w hs hC => by
  unfold wpT; rw [ho]; exact h a w hs hC
theorem WT.both {l : List Oper} {br : List Nat} {is js : Pl} {i j : Nat} (h1 : WT P n l Q F br R (.one i is) C S) (h2 : WT P n l Q F br R (.one j js) C S) : WT P n l Q F br R (.two i is j js) C S := fun a w hs hC => ⟨h1 a w hs hC, h2 a w hs hC⟩
theorem WT.all3 {l : List Oper} {br : List Nat} {is js ks : Pl} {i j k : Nat} (h1 : WT P n l Q F br R (.one i is) C S) (h2 : WT P n l Q F br R (.one j js) C S) (h3 : WT P n l Q F br R (.one k ks) C S) : WT P n l Q F br R (.tri i is j js k ks) C S := fun a w hs hC => ⟨h1 a w hs hC, h2 a w hs hC, h3 a w hs hC⟩
/-- An operation that floats. -/
theorem WT.flt {l : List Oper} {br : List Nat} {is : Pl} {i : Nat} (hF : ∀ w, C w → F w) (h : QJ P n l.toArray (fun a => ∀ w, C w → wpT P l Q F br R is a w) F (sel l [i]) S) : WT P n l Q F br R (.fl i is) C S := fun a w hs hC => by
  unfold wpT
  refine ⟨hF w hC, ?_⟩
  have h1 := h a hs
  generalize sel l [i] = ol at h1 ⊢
  clear h hs
  induction ol generalizing a with
  | nil => exact h1 w hC
  | cons o os ih =>
    unfold wpQuiet at h1 ⊢
    split
    · rename_i hw
      rw [if_pos hw] at h1
      obtain ⟨v, h2, h3⟩ := h1
      exact ⟨v, h2, ih _ h3⟩
    · rename_i hw
      rw [if_neg hw] at h1
      exact ih _ h1
theorem X.tk {l : List Oper} {br : List Nat} {is : Pl} {i : Nat} (hF : ∀ w, C w → F w) (h : WT P n l Q F br R is C S) : X n (Qn Q (fun a w => (br.contains i = false → F w) ∧ wpT P l Q F br R is a w) .normal) C S := fun a w hs hC => ⟨fun _ => hF w hC, h a w hs hC⟩
theorem X.tkB {l : List Oper} {br : List Nat} {is : Pl} {i : Nat} (h : WT P n l Q F br R is C S) (hF : br.contains i = true := by rfl) : X n (Qn Q (fun a w => (br.contains i = false → F w) ∧ wpT P l Q F br R is a w) .normal) C S := fun a w hs hC => ⟨fun e => absurd (hF.symm.trans e) (by decide), h a w hs hC⟩
theorem QJ.toS {ops : Array Oper} {l2 : List Oper} {Qa : Act → Prop} (h : QJ P n ops Qa F l2 S) : QJ P n ops (wpQuiet P ops F Qa l2) (fun _ => True) [] S := h
theorem QJ.toT {ops : Array Oper} {l : List Oper} {br : List Nat} {is : Pl} (h : WT P n l Q F br R is C S) : QJ P n ops (fun a => ∀ w, C w → wpT P l Q F br R is a w) F [] S := fun a hs w hC => h a w hs hC
theorem WC.drawS (hm : P.follows .mixedOrders = true) {l : List Oper} (br l1 l2 : List Nat) (l3 : Pl) (hB : planAll l.toArray br l1 l2 l3 = true) (hC : ∀ w, C w → C { w with drawn := w.drawn + 1 }) (hF : ∀ w, C w → F w)
    (h : QJ P n l.toArray (wpQuiet P l.toArray F (fun a => ∀ w, C w → wpT P l Q F br (Q .normal) l3 a w) (sel l l2)) (fun _ => True) (sel l l1) S) : WC P n (.region id l.toArray true) Q C S := by
  intro a w hsl hw
  simp only [planAll, Bool.and_eq_true] at hB
  obtain ⟨⟨hsel, hlen⟩, hB⟩ := hB
  have hlen' : l1.length + (l2.length + l3.len) = l.toArray.size := Nat.eq_of_beq_eq_true hlen
  refine wp_region_any hm (wpAny_of_S (F := F) (K := fun i => !br.contains i) _ _ _ _ ?_)
  have hw1 := hC w hw
  have := take_sound (P := P) (Q := Q) (F := F) (R := Q .normal) (m := l2.length + l3.len) (w := { w with drawn := w.drawn + 1 }) hsel (.inl ⟨rfl, fun _ => trivial⟩) trivial (takesB l.toArray br false (soloB l.toArray br l3) l2) (fun ls a hB h =>
    take_sound (pu := false) hsel (.inr ⟨rfl, rfl⟩) (hF _ hw1) (soloB l.toArray br l3) (fun ls a hB h => wpT_sound hsel l3 ls a _ hB (h _ hw1)) l2 ls a hB h) l1 _ a hB (h a hsl)
  rw [hlen'] at this
  exact this
end
section
variable {P : Program} {n : Nat} {C : World → Prop} {S : SS} {d : Option Nat} {ty : TypeId} {pos : String} {af : Array Edge} {g : Option (Nat × Bool)}
/-- A byte of a string. -/
theorem QOp.idxS {x i : Operand} {t : TypeId} {s : ByteArray} {k : IntKind} {j : Nat} {b : UInt8} (ht : P.underlying t = some .string) (hx : ev S x = some (.string s)) (hi : ev S i = some (.int k (j : Int))) (hb : s[j]? = some b) : QOp P n C S ⟨d, .index t x i, ty, pos, af, g⟩ (.int .u8 (b.toNat : Int)) :=
  .of fun a w hs hC => by simp [execOp, hs.eval hx, hs.eval hi, Instr.index, asIntOf, run_underlying ht, hb]
theorem QOp.idxL {x i : Operand} {t : TypeId} {s : ByteArray} {k : IntKind} {j : Nat} (ht : P.underlying t = some .string) (hx : ev S x = some (.string s)) (hi : ev S i = some (.int k (j : Int))) (hj : j < s.size) : QOp P n C S ⟨d, .index t x i, ty, pos, af, g⟩ (.int .u8 ((s[j]'hj).toNat : Int)) :=
  .idxS ht hx hi (getElem?_pos s j hj)
end
/-! ### 14. Equality of pointers with nil, of functions with nil, of structs of numbers; parts of a struct's or an array's value -/
def eqf (P : Program) : Nat → List Field → List IntKind → Bool
  | _, [], [] => true
  | i, f :: fs, k :: ks => !(f.name == "_") && Nat.beq f.offset i && (match P.underlying f.type with | some (.int _) => true | _ => false) && eqf P (i + 1) fs ks
  | _, _, _ => false
def eqsB (P : Program) (t : TypeId) (ks : List IntKind) : Bool := match P.underlying t with
  | some (.struct fs) => eqf P 0 fs.toList ks && !P.stoodInHeld t && !P.eqGuardType P.depth t
  | _ => false
/-- t is a struct of numbers of these kinds. -/
structure EqS (P : Program) (t : TypeId) (ks : List IntKind) : Prop where
  out : eqsB P t ks = true
def ints : List IntKind → List Int → List Value
  | k :: ks, i :: is => .int k i :: ints ks is
  | _, _ => []
def sc : TypeDesc → Bool
  | .struct _ => false
  | .array _ _ => false
  | _ => true
theorem run_part1 {P : Program} {t : TypeId} {cs : Array Value} {off : Nat} {v : Value} {u : TypeDesc} {w : World} (hu : P.underlying t = some u) (hn : sc u = true) (hv : cs[off]? = some v) : (part t cs off).run P w = .ok v w := by
  have : (isAgg t).run P w = .ok false w := by
    simp only [isAgg, Sem.run_bind, run_underlying hu]
    cases u <;> first | (simp [sc] at hn; done) | simp
  simp [part, this, hv]
theorem run_eqFields {P : Program} {w : World} {xs ys : List Value} : ∀ (fs : List Field) (ks : List IntKind) (i : Nat) (as bs : List Int), eqf P i fs ks = true → as.length = ks.length → bs.length = ks.length → xs.drop i = ints ks as → ys.drop i = ints ks bs → (Op.eqFields 9999 xs.toArray ys.toArray fs).run P w = .ok (decide (as = bs)) w
  | [], [], i, as, bs, _, ha, hb, _, _ => by
    obtain rfl := List.eq_nil_of_length_eq_zero ha
    obtain rfl := List.eq_nil_of_length_eq_zero hb
    simp [Op.eqFields]
  | [], k :: ks, i, as, bs, h, _, _, _, _ => by simp [eqf] at h
  | f :: fs, [], i, as, bs, h, _, _, _, _ => by simp [eqf] at h
  | f :: fs, k :: ks, i, [], bs, h, ha, _, _, _ => by simp at ha
  | f :: fs, k :: ks, i, a :: as, [], h, _, hb, _, _ => by simp at hb
  | f :: fs, k :: ks, i, a :: as, b :: bs, h, ha, hb, hx, hy => by
    simp only [eqf, Bool.and_eq_true] at h
    obtain ⟨⟨⟨h1, h2⟩, h3⟩, h4⟩ := h
    obtain rfl : f.offset = i := Nat.eq_of_beq_eq_true h2
    have hname : (f.name ≠ "_") := by simpa using h1
    have hxi : xs.toArray[f.offset]? = some (.int k a) := by
      have := congrArg (·[0]?) hx
      simpa [ints] using this
    have hyi : ys.toArray[f.offset]? = some (.int k b) := by
      have := congrArg (·[0]?) hy
      simpa [ints] using this
    have hx' : xs.drop (f.offset + 1) = ints ks as := by rw [← List.drop_drop, hx]; rfl
    have hy' : ys.drop (f.offset + 1) = ints ks bs := by rw [← List.drop_drop, hy]; rfl
    have ih := run_eqFields (w := w) fs ks (f.offset + 1) as bs h4 (by simpa using ha) (by simpa using hb) hx' hy'
    cases hu : P.underlying f.type with
    | none => rw [hu] at h3; cases h3
    | some u =>
      rw [hu] at h3
      cases u <;> try (cases h3; done)
      rename_i k'
      have e1 := run_part1 (w := w) hu rfl hxi
      have e2 := run_part1 (w := w) hu rfl hyi
      have e3 := run_equalIn_int (P := P) w 9998 f.type k k' a b hu
      rw [Op.eqFields, if_pos hname]
      simp only [Sem.run_bind, e1, e2, Result.andThen_ok]
      rw [show (9999 : Nat) = 9998 + 1 from rfl, e3]
      simp only [Result.andThen_ok]
      by_cases hab : a = b
      · subst hab
        simp only [BEq.rfl, Bool.not_true, Bool.false_eq_true, if_false, List.cons.injEq, true_and]
        exact ih
      · have : (a == b) = false := by simpa using hab
        simp [this, hab]
theorem ints_eq : ∀ (ks : List IntKind) (as : List Int), as.length = ks.length → ints ks as = List.zipWith Value.int ks as
  | [], as, h => by cases as <;> simp_all [ints]
  | k :: ks, [], h => by simp at h
  | k :: ks, a :: as, h => by simp [ints, ints_eq ks as (by simpa using h)]
section
variable {P : Program} {n : Nat} {C : World → Prop} {S : SS} {d : Option Nat} {ty : TypeId} {pos : String} {af : Array Edge} {g : Option (Nat × Bool)}
theorem eqS_run {t : TypeId} {ks : List IntKind} (ht : EqS P t ks) {us vs : List Int} (ha : us.length = ks.length) (hb : vs.length = ks.length) (w : World) : (Op.equalIn 10000 t (.agg (ints ks us).toArray) (.agg (ints ks vs).toArray)).run P w = .ok (decide (us = vs)) w ∧ P.eqGuardType P.depth t = false := by
  have h := ht.out
  unfold eqsB at h
  cases hu : P.underlying t with
  | none => rw [hu] at h; cases h
  | some u =>
    rw [hu] at h
    cases u <;> try (cases h; done)
    rename_i fs
    simp only [Bool.and_eq_true, Bool.not_eq_true'] at h
    obtain ⟨⟨h1, h2⟩, h3⟩ := h
    have hf : P.fieldsOf t = fs := by simp [Program.fieldsOf, hu]
    refine ⟨?_, h3⟩
    rw [run_equalIn_struct w 9999 t _ _ (by rw [hf, hu]) h2, hf]
    exact run_eqFields fs.toList ks 0 us vs h1 ha hb (by simp) (by simp)
theorem QOp.eqS {x y : Operand} {t u : TypeId} {ks : List IntKind} {us vs : List Int} {b : Bool} (ht : EqS P t ks) (hx : ev S x = some (.agg (ints ks us).toArray)) (hy : ev S y = some (.agg (ints ks vs).toArray)) (ha : us.length = ks.length) (hb : vs.length = ks.length) (hv : decide (us = vs) = b) : QOp P n C S ⟨d, .binOp .eql t x y u, ty, pos, af, g⟩ (.bool b) :=
  .of fun a w hs hC => by
    obtain ⟨h1, h2⟩ := eqS_run ht ha hb w
    simp [execOp, hs.eval hx, hs.eval hy, run_eqGuard_agg w .eql t x y _ _ h2, run_eql_struct, h1, hv]
theorem QOp.neS {x y : Operand} {t u : TypeId} {ks : List IntKind} {us vs : List Int} {b : Bool} (ht : EqS P t ks) (hx : ev S x = some (.agg (ints ks us).toArray)) (hy : ev S y = some (.agg (ints ks vs).toArray)) (ha : us.length = ks.length) (hb : vs.length = ks.length) (hv : decide (us ≠ vs) = b) : QOp P n C S ⟨d, .binOp .neq t x y u, ty, pos, af, g⟩ (.bool b) :=
  .of fun a w hs hC => by
    obtain ⟨h1, h2⟩ := eqS_run ht ha hb w
    have : (!decide (us = vs)) = b := by rw [← hv]; simp
    simp [execOp, hs.eval hx, hs.eval hy, run_eqGuard_agg w .neq t x y _ _ h2, run_neq_struct, h1, this]
/-- A pointer type. -/
structure Pnt (P : Program) (t : TypeId) : Prop where
  out : P.underlying t = some (.pointer (P.pointee t))
theorem QOp.eqP {x : Operand} {t u : TypeId} {p : Option Addr} {b : Bool} (ht : Pnt P t) (hx : ev S x = some (.pointer p)) (hv : p.isNone = b) : QOp P n C S ⟨d, .binOp .eql t x (.const (.pointer none)) u, ty, pos, af, g⟩ (.bool b) :=
  .of fun a w hs hC => by
    have h1 : (eqGuard .eql t x (.const (.pointer none)) (.pointer p) (.pointer none)).run P w = .ok () w := by simp [eqGuard]
    have h2 : a.eval (.const (.pointer none)) = .pointer none := rfl
    simp [execOp, hs.eval hx, h2, h1, run_eql_pointer_nil w t p ht.out, hv]
theorem QOp.neP {x : Operand} {t u : TypeId} {p : Option Addr} {b : Bool} (ht : Pnt P t) (hx : ev S x = some (.pointer p)) (hv : p.isSome = b) : QOp P n C S ⟨d, .binOp .neq t x (.const (.pointer none)) u, ty, pos, af, g⟩ (.bool b) :=
  .of fun a w hs hC => by
    have h1 : (eqGuard .neq t x (.const (.pointer none)) (.pointer p) (.pointer none)).run P w = .ok () w := by simp [eqGuard]
    have h2 : a.eval (.const (.pointer none)) = .pointer none := rfl
    have h3 : (!p.isNone) = b := by rw [← hv]; cases p <;> rfl
    simp [execOp, hs.eval hx, h2, h1, run_neq_pointer_nil w t p ht.out, h3]
/-- A function type. -/
structure Fty (P : Program) (t : TypeId) : Prop where
  out : ∃ a b c, P.underlying t = some (.func a b c)
theorem run_fnN {t : TypeId} (ht : Fty P t) (d : Nat) (w : World) : (Op.equalIn (d + 1) t .nilFunc .nilFunc).run P w = .ok true w := by
  obtain ⟨q1, q2, q3, hu⟩ := ht.out
  simp [Op.equalIn, run_underlying hu]
theorem run_fnF {t : TypeId} (ht : Fty P t) (d : Nat) (w : World) (f : Fn) (y z : Array Value) : (Op.equalIn (d + 1) t (.func f y z) .nilFunc).run P w = .ok false w := by
  obtain ⟨q1, q2, q3, hu⟩ := ht.out
  simp [Op.equalIn, run_underlying hu]
theorem run_fnN' {t : TypeId} (ht : Fty P t) (w : World) : (Op.equal t .nilFunc .nilFunc).run P w = .ok true w := run_fnN ht 9999 w
theorem run_fnF' {t : TypeId} (ht : Fty P t) (w : World) (f : Fn) (y z : Array Value) : (Op.equal t (.func f y z) .nilFunc).run P w = .ok false w := run_fnF ht 9999 w f y z
theorem QOp.neFn {x : Operand} {t u : TypeId} {v : Value} {b : Bool} (ht : Fty P t) (hx : ev S x = some v) (hv : (v = .nilFunc ∧ b = false) ∨ ((∃ f y z, v = .func f y z) ∧ b = true)) : QOp P n C S ⟨d, .binOp .neq t x (.const .nilFunc) u, ty, pos, af, g⟩ (.bool b) :=
  .of fun a w hs hC => by
    have h2 : a.eval (.const .nilFunc) = .nilFunc := rfl
    rcases hv with ⟨rfl, rfl⟩ | ⟨⟨f, y, z, rfl⟩, rfl⟩
    · have h1 : (eqGuard .neq t x (.const .nilFunc) .nilFunc .nilFunc).run P w = .ok () w := by simp [eqGuard]
      have h3 : (binOp .neq t .nilFunc .nilFunc).run P w = .ok (.bool false) w := by
        simp only [binOp]
        simp [run_fnN' ht]
      simp [execOp, hs.eval hx, h2, h1, h3]
    · have h1 : (eqGuard .neq t x (.const .nilFunc) (.func f y z) .nilFunc).run P w = .ok () w := by simp [eqGuard]
      have h3 : (binOp .neq t (.func f y z) .nilFunc).run P w = .ok (.bool true) w := by
        simp only [binOp]
        simp [run_fnF' ht]
      simp [execOp, hs.eval hx, h2, h1, h3]
theorem run_partA {t k : Nat} {cs : List Value} {off : Nat} {vs : List Value} {w : World} (ha : Ag P t k) (hv : (cs.drop off).take k = vs) : (part t cs.toArray off).run P w = .ok (.agg vs.toArray) w := by
  obtain ⟨_, _, _, hm⟩ := ha.out
  have e : cs.toArray.extract off (off + k) = vs.toArray := by
    rw [List.extract_toArray, List.extract_eq_take_drop]
    simpa using hv
  simp [part, run_isAggA ha, run_size hm, hv]
/-- An element of an array's value. -/
theorem QOp.idxA {x i : Operand} {t e len k j : Nat} {q : IntKind} {cs vs : List Value} (ht : P.underlying t = some (.array len e)) (ha : Ag P e k) (hx : ev S x = some (.agg cs.toArray)) (hi : ev S i = some (.int q (j : Int))) (hj : j < len) (hv : (cs.drop (j * k)).take k = vs) : QOp P n C S ⟨d, .index t x i, ty, pos, af, g⟩ (.agg vs.toArray) :=
  .of fun a w hs hC => by
    obtain ⟨_, _, _, hm⟩ := ha.out
    have e2 : (0 : Int) ≤ (j : Int) ∧ (j : Int) < (len : Int) := by omega
    simp [execOp, hs.eval hx, hs.eval hi, Instr.index, asIntOf, run_underlying ht, e2, run_size hm, run_partA ha hv, hj]
/-- A field of a struct's value, of one cell. -/
theorem QOp.fld1 {x : Operand} {t k o : Nat} {cs : List Value} {v : Value} {fs : Array Field} {f : Field} {u : TypeDesc} (ht : P.underlying t = some (.struct fs)) (hf : fs[k]? = some f) (ho : f.offset = o) (hu : P.underlying f.type = some u) (hn : sc u = true) (hx : ev S x = some (.agg cs.toArray)) (hv : cs[o]? = some v) : QOp P n C S ⟨d, .field t x k, ty, pos, af, g⟩ v :=
  .of fun a w hs hC => by
    have := run_part1 (w := w) (cs := cs.toArray) (off := f.offset) hu hn (by rw [ho]; simpa using hv)
    simp [execOp, hs.eval hx, Instr.field, run_underlying ht, hf, asAgg, this]
end
/-! ### 15. Slices of slices; the less of two numbers -/
section
variable {P : Program} {n : Nat} {C : World → Prop} {S : SS} {d : Option Nat} {ty : TypeId} {pos : String} {af : Array Edge} {g : Option (Nat × Bool)}
theorem add0 (a : Addr) : a.add 0 = a := by
  obtain ⟨b, o, v⟩ := a
  cases v <;> simp [Addr.add]
/-- x[:j]. -/
theorem QOp.slHi {x i : Operand} {A : Option Addr} {m c j : Nat} {t e k by_ : Nat} {z : List Value} (ht : Slc P t e k by_ z) (hx : ev S x = some (.slice A m c)) (hi : ev S i = some (.int .i64 (j : Int))) (hj : j ≤ c) : QOp P n C S ⟨d, .slice t x none (some i) none, ty, pos, af, g⟩ (.slice A j c) :=
  .of fun a w hs hC => by
    obtain ⟨inf, zv, h1, h2, _⟩ := ht.e
    have e2 : (0 : Int) ≤ (j : Int) ∧ (j : Int) ≤ (c : Int) := by omega
    have e3 : A.map (fun x => x.add 0) = A := by cases A <;> simp [add0]
    simp [execOp, hs.eval hx, hs.eval hi, Instr.sliceAt, Instr.slice, Instr.sliceBounds, Instr.sliceBound, asIntOf, run_underlying ht.t, sizeOf, typeInfo, h1, h2, hj, e3]
/-- x[j:]. -/
theorem QOp.slLo {x i : Operand} {b off m c j : Nat} {t e k by_ : Nat} {z : List Value} (ht : Slc P t e k by_ z) (hx : ev S x = some (.slice (some ⟨b, off, none⟩) m c)) (hi : ev S i = some (.int .i64 (j : Int))) (hj : j ≤ m) (hm : m ≤ c) : QOp P n C S ⟨d, .slice t x (some i) none none, ty, pos, af, g⟩ (.slice (some ⟨b, off + (if c = j then 0 else j * k), none⟩) (m - j) (c - j)) :=
  .of fun a w hs hC => by
    obtain ⟨inf, zv, h1, h2, _⟩ := ht.e
    have e2 : (0 : Int) ≤ (j : Int) ∧ (j : Int) ≤ (m : Int) := by omega
    have e1 : ((⟨b, off, none⟩ : Addr).add (j * k)) = ⟨b, off + j * k, none⟩ := by unfold Addr.add; split <;> simp_all
    by_cases hc : c = j
    · simp [execOp, hs.eval hx, hs.eval hi, Instr.sliceAt, Instr.slice, Instr.sliceBounds, Instr.sliceBound, asIntOf, run_underlying ht.t, sizeOf, typeInfo, h1, h2, hj, hc]
    · simp [execOp, hs.eval hx, hs.eval hi, Instr.sliceAt, Instr.slice, Instr.sliceBounds, Instr.sliceBound, asIntOf, run_underlying ht.t, sizeOf, typeInfo, h1, h2, hj, hc, e1]
theorem QOp.minI {x y : Operand} {ts : Array TypeId} {k : IntKind} {i j r : Int} (hx : ev S x = some (.int k i)) (hy : ev S y = some (.int k j)) (hr : min i j = r) : QOp P n C S ⟨d, .call { callee := .builtin .min, args := #[x, y], argTypes := ts }, ty, pos, af, g⟩ (.int k r) :=
  .of fun a w hs hC => by
    have hr' : (if j < i then j else i) = r := by rw [← hr, Int.min_def]; split <;> split <;> omega
    simp [execOp, resolve, invoke, builtin, hs.eval hx, hs.eval hy, Builtin.min_, Builtin.min2, hr']
end
/-! ### 16. copy; bits -/
section
variable {P : Program} {n : Nat} {ops : Array Oper} {Q : Exit → Act → World → Prop} {S : SS} {rest : List Oper} {d : Nat} {ty : TypeId} {pos : String} {af : Array Edge} {g : Option (Nat × Bool)} {w0 we : World} {Le L : List Blk}
/-- copy(x, y): x in a block of the call's own. -/
theorem W.copy {x y : Operand} {t e k by_ b off m c xb xo m2 c2 : Nat} {z cs vs : List Value} {T : TypeId} (ht : Slc P t e k by_ z) (i : Nat) (hx : ev S x = some (.slice (some ⟨b, off, none⟩) m c)) (hy : ev S y = some (.slice (some ⟨xb, xo, none⟩) m2 c2)) (hlen : vs.length = min m2 m * k) (hn : ∀ w, Z w0 we Le L w → ∀ j, j < vs.length → w.cell? ⟨xb, xo + j, none⟩ = vs[j]?) (hv : ∀ u ∈ vs, u.oneCell' = true) (hL : L[i]? = some (b, .cells cs.toArray T (0, 0))) (hle : off + vs.length ≤ cs.length)
    (h : W P n ops Q (Z w0 we Le (L.set i (b, .cells (cs.take off ++ vs ++ cs.drop (off + vs.length)).toArray T (0, 0)))) rest ((d, .int .i64 ((min m2 m : Nat) : Int)) :: S)) (hg : gd ops S g = some true := by rfl) (hd : Nat.blt d n = true := by rfl) : W P n ops Q (Z w0 we Le L) (⟨some d, .call { callee := .builtin .copy, args := #[x, y], argTypes := #[t, t] }, ty, pos, af, g⟩ :: rest) S := by
  refine W.eff (fun v' w' => v' = .int .i64 ((min m2 m : Nat) : Int) ∧ Z w0 we Le (L.set i (b, .cells (cs.take off ++ vs ++ cs.drop (off + vs.length)).toArray T (0, 0))) w') (fun a w hs hC => ?_) (fun v => ?_) hg hd
  · obtain ⟨q, zv, q1, q2, q3, q4, q5⟩ := ht.e
    obtain ⟨w', hr, hZ⟩ := run_storeCells (P := P) vs 0 off w L i cs hC hL (by omega) hv
    simp only [Nat.add_zero] at hZ
    have h1 := run_loadCellsFrom (P := P) (w := w) (b := xb) (off := xo) (cs := vs) (hn w hC) (min m2 m * k) 0 #[] (by omega)
    simp only [List.drop_zero, Array.empty_append] at h1
    refine ⟨_, w', ?_, rfl, hZ⟩
    simp [execOp, resolve, invoke, builtin, hs.eval hx, hs.eval hy, Builtin.copy_, run_underlying ht.t, Builtin.lenOf, sizeOf, typeInfo, q1, q2, Builtin.firstCells, loadCells, h1, hr, goInt]
  · intro a w hs hC
    obtain ⟨rfl, hZ⟩ := hC
    exact h a w hs hZ
end
section
variable {P : Program} {n : Nat} {C : World → Prop} {S : SS} {d : Option Nat} {ty : TypeId} {pos : String} {af : Array Edge} {g : Option (Nat × Bool)}
theorem QOp.and {x y : Operand} {k : IntKind} {i j r : Int} {t u : TypeId} (hx : ev S x = some (.int k i)) (hy : ev S y = some (.int k j)) (hr : k.wrap (((i % 2 ^ k.bits).toNat &&& (j % 2 ^ k.bits).toNat : Nat) : Int) = r) : QOp P n C S ⟨d, .binOp .and t x y u, ty, pos, af, g⟩ (.int k r) :=
  .of fun a w hs hC => by simp [execOp, hs.eval hx, hs.eval hy, eqGuard, binOp, Op.intBits, hr]
end
end Go.Proofs.YtjccenbacjhglaaGreatDoor.K
