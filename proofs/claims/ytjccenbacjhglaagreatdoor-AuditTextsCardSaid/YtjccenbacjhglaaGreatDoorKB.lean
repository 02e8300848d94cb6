/- The library of this seat's walks, third part: a strings.Builder of the call's own, in the terms of the walks; callees known by a frame. No program in sight. -/
import Derived.Test.YtjccenbacjhglaaGreatDoorKS
import Derived.Shelf.Strings.BuilderK
set_option linter.unusedVariables false
set_option linter.unusedSimpArgs false
namespace Go.Proofs.YtjccenbacjhglaaGreatDoor.K
open Go Go.RowKit

/-- What a callee leaves that only laid blocks which nobody holds. -/
theorem Z.ofBelow {w w' : World} (h : Below w.heap.size w w') : Z w w [] [] w' :=
  ⟨⟨h, fun _ hx => absurd hx (List.not_mem_nil), fun _ hx => absurd hx (List.not_mem_nil), List.nodup_nil⟩, h.os, h.tape, h.output, h.size, fun k hk _ => h.block k hk, fun b hb => absurd hb (List.not_mem_nil)⟩

/-- A strings.Builder (type T) in block b, of the call's own, that holds the bytes s; L: its blocks. -/
def BdO (T e : TypeId) (b : Nat) (s : List UInt8) (L : List Blk) : Prop := ∃ p v Lb, L = (b, .cells #[p, v] T (0, 0)) :: Lb ∧ (p = .pointer none ∨ p = .pointer (some ⟨b, 0, none⟩)) ∧
  ((v = .slice none 0 0 ∧ s = [] ∧ Lb = []) ∨ ∃ g cap cur fz, v = .slice (some ⟨g, 0, none⟩) s.length cap ∧ Lb = [(g, .cells cur e fz)] ∧ fz.2 ≤ s.length ∧ s.length ≤ cap ∧ cap ≤ maxLen ∧ cur.size = cap ∧ cur.toList.take s.length = Lib.byteCells s)
theorem BdO.new (T e : TypeId) (b : Nat) : BdO T e b [] [(b, .cells #[.pointer none, .slice none 0 0] T (0, 0))] := ⟨_, _, [], rfl, .inl rfl, .inl ⟨rfl, rfl, rfl⟩⟩
theorem BdO.is {T e : TypeId} {b : Nat} {s : List UInt8} {L Lr : List Blk} {w0 w : World} (h : BdO T e b s L) (hz : H w0 w (L ++ Lr)) : Lib.IsBuilderF T e w0.heap.size b (Lib.byteCells s) w := by
  obtain ⟨p, v, Lb, rfl, hp, hv⟩ := h
  have hb := hz.has (b, .cells #[p, v] T (0, 0)) (by simp)
  have ho := hz.own (b, .cells #[p, v] T (0, 0)) (by simp)
  have hnd := hz.nd
  have hat : Lib.BuilderAtF T e w0.heap.size b p (Lib.byteCells s) w := by
    refine ⟨ho, v, hb, ?_, ?_⟩
    · refine ⟨by simp, ?_⟩
      rcases hv with ⟨rfl, rfl, rfl⟩ | ⟨g, cap, cur, fz, rfl, rfl, h1, h2, h3, h4, h5⟩
      · exact .inl ⟨rfl, rfl⟩
      · refine .inr ⟨g, cap, cur, fz, by rw [Lib.byteCells_length], hz.own (g, .cells cur e fz) (by simp), hz.has (g, .cells cur e fz) (by simp), by rw [Lib.byteCells_length]; omega, by rw [Lib.byteCells_length]; exact h2, h3, by rw [h4, Nat.mul_one], ?_⟩
        rw [Lib.byteCells_length, Nat.mul_one]
        exact h5
    · rcases hv with ⟨rfl, rfl, rfl⟩ | ⟨g, cap, cur, fz, rfl, rfl, h1, h2, h3, h4, h5⟩
      · intro x; cases x
      · intro x
        have hgb : g = b := by simpa [Value.ownBlock] using x
        simp [hgb] at hnd
  rcases hp with rfl | rfl
  · exact .inl hat
  · exact .inr hat
theorem BdO.back {T e : TypeId} {b : Nat} {s s' : List UInt8} {L Lr : List Blk} {w w1 w' : World} (h : BdO T e b s L) (hz : Z w w [] (L ++ Lr) w1) (hn : ∀ x ∈ Lr, ∀ c fz, x.2 ≠ .cells c e fz)
    (hb : Lib.IsBuilderF T e w.heap.size b (Lib.byteCells s') w') (hbel : Below w.heap.size w1 w') (hk : Lib.OthersKept e (some b) w1 w') : ∃ L', BdO T e b s' L' ∧ Z w w [] (L' ++ Lr) w' := by
  have hndL : ((L ++ Lr).map (·.1)).Nodup := hz.h.nd
  have hbL : ∃ o, (b, o) ∈ L := by
    obtain ⟨p, v, Lb, rfl, _⟩ := h
    exact ⟨_, List.mem_cons_self⟩
  obtain ⟨o, hbo⟩ := hbL
  have hbR : ∀ x ∈ Lr, x.1 ≠ b := fun x hx e => by
    rw [List.map_append, List.nodup_append] at hndL
    exact hndL.2.2 b (List.mem_map.2 ⟨_, hbo, rfl⟩) x.1 (List.mem_map_of_mem hx) e.symm
  have hR : ∀ x ∈ Lr, w'.heap[x.1]? = some x.2 := fun x hx => hk x.1 x.2 (hz.h.has x (List.mem_append_right _ hx)) (fun e => hbR x hx (Option.some.inj e)) (hn x hx)
  have key : ∀ p, (p = .pointer none ∨ p = .pointer (some ⟨b, 0, none⟩)) → Lib.BuilderAtF T e w.heap.size b p (Lib.byteCells s') w' → ∃ L', BdO T e b s' L' ∧ Z w w [] (L' ++ Lr) w' := by
    intro p hp hat
    obtain ⟨hB, v, hbb, hown, hne⟩ := hat
    have mk : ∀ Lb : List Blk, (∀ x ∈ Lb, w'.heap[x.1]? = some x.2 ∧ w.heap.size ≤ x.1 ∧ x.1 ≠ b ∧ ∃ c fz, x.2 = .cells c e fz) → (Lb.map (·.1)).Nodup → Z w w [] (((b, .cells #[p, v] T (0, 0)) :: Lb) ++ Lr) w' := by
      intro Lb hLb hnd
      have hnr : (Lr.map (·.1)).Nodup := by rw [List.map_append, List.nodup_append] at hndL; exact hndL.2.1
      refine ⟨⟨hz.h.below.trans hbel, fun x hx => ?_, fun x hx => ?_, ?_⟩, hbel.os.trans hz.u.os, hbel.tape.trans hz.u.tape, hbel.output.trans hz.u.output, Nat.le_trans hz.u.size hbel.size, fun k hk2 _ => (hbel.block k hk2).trans (hz.u.frame k hk2 (List.not_mem_nil)), fun x hx => ?_⟩
      · rcases List.mem_append.1 hx with hx | hx
        · rcases List.mem_cons.1 hx with rfl | hx
          · exact hbb
          · exact (hLb x hx).1
        · exact hR x hx
      · rcases List.mem_append.1 hx with hx | hx
        · rcases List.mem_cons.1 hx with rfl | hx
          · exact hB
          · exact (hLb x hx).2.1
        · exact hz.h.own x (List.mem_append_right _ hx)
      · rw [List.map_append, List.nodup_append]
        refine ⟨?_, hnr, ?_⟩
        · rw [List.map_cons, List.nodup_cons]
          refine ⟨fun hm => ?_, hnd⟩
          obtain ⟨x, hx, ex⟩ := List.mem_map.1 hm
          exact (hLb x hx).2.2.1 ex
        · intro x hx y hy exy
          subst exy
          obtain ⟨z, hz2, ez⟩ := List.mem_map.1 hy
          rw [List.map_cons] at hx
          rcases List.mem_cons.1 hx with ex | hx
          · exact hbR z hz2 (ez.trans ex)
          · obtain ⟨q, hq, eq⟩ := List.mem_map.1 hx
            obtain ⟨g1, g2, g3, c, fz, g4⟩ := hLb q hq
            have := hR z hz2
            rw [ez, ← eq, g1, g4] at this
            exact hn z hz2 c fz (Option.some.inj this).symm
      · right
        rw [List.map_append] at hx
        rcases List.mem_append.1 hx with hx | hx
        · rw [List.map_cons] at hx
          rcases List.mem_cons.1 hx with rfl | hx
          · exact hB
          · obtain ⟨q, hq, rfl⟩ := List.mem_map.1 hx
            exact (hLb q hq).2.1
        · obtain ⟨q, hq, rfl⟩ := List.mem_map.1 hx
          exact hz.h.own q (List.mem_append_right _ hq)
    rcases hown.2 with ⟨rfl, h0⟩ | ⟨g, cap, cur, fz, rfl, hg, hgw, h1, h2, h3, h4, h5⟩
    · refine ⟨_, ⟨p, _, [], rfl, hp, .inl ⟨rfl, ?_, rfl⟩⟩, mk [] (fun x hx => absurd hx (List.not_mem_nil)) List.nodup_nil⟩
      rw [Lib.byteCells_length] at h0
      exact List.length_eq_zero_iff.1 h0
    · rw [Lib.byteCells_length] at h1 h2 h5
      refine ⟨_, ⟨p, _, [(g, .cells cur e fz)], rfl, hp, .inr ⟨g, cap, cur, fz, by rw [Lib.byteCells_length], rfl, by omega, h2, h3, by rw [h4, Nat.mul_one], by rw [Nat.mul_one] at h5; exact h5⟩⟩, mk _ (fun x hx => ?_) (by simp)⟩
      simp only [List.mem_singleton] at hx
      subst hx
      exact ⟨hgw, hg, fun eg => hne (by show some g = some b; exact congrArg some eg), _, _, rfl⟩
  rcases hb with hb | hb
  · exact key _ (.inl rfl) hb
  · exact key _ (.inr rfl) hb
section
variable {P : Program} {n : Nat} {ops : Array Oper} {Q : Exit → Act → World → Prop} {S : SS} {rest : List Oper} {d : Nat} {ty : TypeId} {pos : String} {af : Array Edge} {g : Option (Nat × Bool)} {w : World} {L : List Blk}
/-- A method of a builder of the call's own. -/
theorem W.callB {T e : TypeId} {b : Nat} {s s' : List UInt8} {f : FuncId} {args : List Operand} {ts : Array TypeId} {vs : List Value} {Lb Lr : List Blk} {Pv : Value → Prop} (hF : Fnc P f) (ha : evs S args = some vs) (hB : BdO T e b s Lb) (hp : L.Perm (Lb ++ Lr)) (hn : ∀ x ∈ Lr, ∀ c fz, x.2 ≠ .cells c e fz)
    (hc : ∀ w1, Lib.IsBuilderF T e w.heap.size b (Lib.byteCells s) w1 → w.heap.size ≤ w1.heap.size → Calls P f vs.toArray w1 fun r w' => ∃ v, r = .returned v ∧ Pv v ∧ Lib.IsBuilderF T e w.heap.size b (Lib.byteCells s') w' ∧ Below w.heap.size w1 w' ∧ Lib.OthersKept e (some b) w1 w')
    (h : ∀ v Lb', BdO T e b s' Lb' → Pv v → W P n ops Q (Z w w [] (Lb' ++ Lr)) rest ((d, v) :: S)) (hg : gd ops S g = some true := by rfl) (hd : Nat.blt d n = true := by rfl) : W P n ops Q (Z w w [] L) (⟨some d, .call { callee := .value (.func f), args := args.toArray, argTypes := ts }, ty, pos, af, g⟩ :: rest) S :=
  W.callX (fst := []) (cap := []) (C' := fun v w' => ∃ L', (BdO T e b s' L' ∧ Pv v) ∧ Z w w [] (L' ++ Lr) w') hF rfl ha (fun w1 hC => by
    simp only [List.nil_append, List.append_nil]
    have hC' := hC.perm hp
    exact (hc w1 (hB.is hC'.h) hC'.h.below.size).mono fun r w' ⟨v, he, hv, hb, hbel, hk⟩ => by
      obtain ⟨L', h1, h2⟩ := hB.back hC' hn hb hbel hk
      exact ⟨v, he, L', ⟨h1, hv⟩, h2⟩) (fun v a w hs ⟨L', hq, hz⟩ => h v L' hq.1 hq.2 a w hs hz) hg hd
end
end Go.Proofs.YtjccenbacjhglaaGreatDoor.K
