/- The library of this seat's walks, second part: operations on strings. No program in sight. -/
import Derived.Test.YtjccenbacjhglaaGreatDoorK
import Derived.Lib.Split
set_option linter.unusedVariables false
set_option linter.unusedSimpArgs false
namespace Go.Proofs.YtjccenbacjhglaaGreatDoor.K
open Go Go.RowKit

abbrev sv (l : List UInt8) : Value := .string ⟨l.toArray⟩
section
variable {P : Program} {n : Nat} {C : World → Prop} {S : SS} {d : Option Nat} {ty : TypeId} {pos : String} {af : Array Edge} {g : Option (Nat × Bool)}
theorem sv_app (a b : List UInt8) : (⟨a.toArray⟩ : ByteArray) ++ ⟨b.toArray⟩ = ⟨(a ++ b).toArray⟩ := by
  apply ByteArray.ext
  rw [ByteArray.data_append]
  simp
theorem sv_size (a : List UInt8) : (⟨a.toArray⟩ : ByteArray).size = a.length := by
  show a.toArray.size = a.length
  simp
theorem toList_loop (bs : ByteArray) : ∀ (k i : Nat) (r : List UInt8), bs.size - i = k → ByteArray.toList.loop bs i r = r.reverse ++ bs.data.toList.drop i := by
  intro k
  induction k with
  | zero =>
    intro i r h
    unfold ByteArray.toList.loop
    have h1 : ¬ i < bs.size := by omega
    have h2 : bs.data.toList.length ≤ i := by rw [Array.length_toList, ByteArray.size_data]; omega
    rw [if_neg h1, List.drop_of_length_le h2, List.append_nil]
  | succ k ih =>
    intro i r h
    unfold ByteArray.toList.loop
    have hi : i < bs.size := by omega
    have hi' : i < bs.data.toList.length := by rw [Array.length_toList, ByteArray.size_data]; exact hi
    have e : bs.get! i = bs.data.toList[i] := by
      show bs.data[i]! = _
      rw [getElem!_pos bs.data i (by rw [ByteArray.size_data]; exact hi), Array.getElem_toList]
    rw [if_pos hi, ih (i + 1) _ (by omega), List.reverse_cons, List.append_assoc, List.drop_eq_getElem_cons hi', e]
    rfl
theorem sv_list (a : List UInt8) : (⟨a.toArray⟩ : ByteArray).toList = a := by
  unfold ByteArray.toList
  rw [toList_loop _ _ 0 [] rfl]
  rfl
theorem QOp.addS {x y : Operand} {a b r : List UInt8} {t u : TypeId} (hx : ev S x = some (sv a)) (hy : ev S y = some (sv b)) (hl : a.length + b.length ≤ 9223372036854775807) (hr : a ++ b = r) : QOp P n C S ⟨d, .binOp .add t x y u, ty, pos, af, g⟩ (sv r) :=
  .of fun ac w hs hC => by
    subst hr
    have h1 : ¬ ((((⟨a.toArray⟩ : ByteArray).size + (⟨b.toArray⟩ : ByteArray).size : Nat) : Int) > IntKind.i64.max) := by
      have e3 : IntKind.i64.max = 9223372036854775807 := by decide
      rw [sv_size, sv_size, e3]; omega
    simp only [execOp, hs.eval hx, hs.eval hy, eqGuard, binOp, Op.stringOp, if_neg h1, sv_app]
    simp
theorem QOp.eqS' {x y : Operand} {a b : List UInt8} {t u : TypeId} (hx : ev S x = some (sv a)) (hy : ev S y = some (sv b)) : QOp P n C S ⟨d, .binOp .eql t x y u, ty, pos, af, g⟩ (.bool (decide (a = b))) :=
  .of fun ac w hs hC => by
    have e : (a == b) = decide (a = b) := by rw [Bool.eq_iff_iff]; simp
    simp only [execOp, hs.eval hx, hs.eval hy, eqGuard, binOp, Op.stringOp, sv_list]
    simp [e]
theorem QOp.neS' {x y : Operand} {a b : List UInt8} {t u : TypeId} (hx : ev S x = some (sv a)) (hy : ev S y = some (sv b)) : QOp P n C S ⟨d, .binOp .neq t x y u, ty, pos, af, g⟩ (.bool (decide (a ≠ b))) :=
  .of fun ac w hs hC => by
    have e : (!(a == b)) = decide (a ≠ b) := by rw [Bool.eq_iff_iff]; simp
    simp only [execOp, hs.eval hx, hs.eval hy, eqGuard, binOp, Op.stringOp, sv_list, e]
    simp
theorem QOp.lenT {x : Operand} {a : List UInt8} {t : TypeId} (ht : P.underlying t = some .string) (hx : ev S x = some (sv a)) : QOp P n C S ⟨d, .call { callee := .builtin .len, args := #[x], argTypes := #[t] }, ty, pos, af, g⟩ (.int .i64 (a.length : Int)) :=
  .of fun ac w hs hC => by simp [execOp, resolve, invoke, builtin, hs.eval hx, Builtin.len_, run_underlying ht, goInt, sv_size]
theorem QOp.idxT {x i : Operand} {t : TypeId} {a : List UInt8} {k : IntKind} {j : Nat} (ht : P.underlying t = some .string) (hx : ev S x = some (sv a)) (hi : ev S i = some (.int k (j : Int))) (hj : j < a.length) : QOp P n C S ⟨d, .index t x i, ty, pos, af, g⟩ (.int .u8 ((a[j]'hj).toNat : Int)) :=
  .idxS ht hx hi (by
    have h : j < (⟨a.toArray⟩ : ByteArray).size := by rw [sv_size]; exact hj
    rw [getElem?_pos _ j h]
    rfl)
theorem sv_ext (a : List UInt8) (i j : Nat) : (⟨a.toArray⟩ : ByteArray).extract i j = ⟨((a.take j).drop i).toArray⟩ := by
  apply ByteArray.ext
  rw [ByteArray.data_extract]
  apply Array.ext'
  simp [Array.toList_extract, List.extract_eq_take_drop, List.drop_take]
theorem QOp.subHi {x i : Operand} {a r : List UInt8} {t : TypeId} {j : Nat} (ht : P.underlying t = some .string) (hx : ev S x = some (sv a)) (hi : ev S i = some (.int .i64 (j : Int))) (hj : j ≤ a.length) (hr : a.take j = r) : QOp P n C S ⟨d, .slice t x none (some i) none, ty, pos, af, g⟩ (sv r) :=
  .of fun ac w hs hC => by
    subst hr
    have e2 : (0 : Int) ≤ (j : Int) ∧ (j : Int) ≤ ((⟨a.toArray⟩ : ByteArray).size : Int) := by
      rw [sv_size]; omega
    simp [execOp, hs.eval hx, hs.eval hi, Instr.sliceAt, Instr.slice, Instr.sliceBounds, Instr.sliceBound, asIntOf, run_underlying ht, e2, sv_ext, sv_size, hj]
theorem QOp.subLoHi {x lo hi : Operand} {a r : List UInt8} {t : TypeId} {i j : Nat} (ht : P.underlying t = some .string) (hx : ev S x = some (sv a)) (hl : ev S lo = some (.int .i64 (i : Int))) (hh : ev S hi = some (.int .i64 (j : Int))) (hij : i ≤ j) (hj : j ≤ a.length) (hr : (a.take j).drop i = r) : QOp P n C S ⟨d, .slice t x (some lo) (some hi) none, ty, pos, af, g⟩ (sv r) :=
  .of fun ac w hs hC => by
    subst hr
    have e1 : (⟨a.toArray⟩ : ByteArray).size = a.length := sv_size a
    have e2 : (0 : Int) ≤ (j : Int) ∧ (j : Int) ≤ ((⟨a.toArray⟩ : ByteArray).size : Int) := by rw [e1]; omega
    have e3 : (0 : Int) ≤ (i : Int) ∧ (i : Int) ≤ (j : Int) := by omega
    simp [execOp, hs.eval hx, hs.eval hl, hs.eval hh, Instr.sliceAt, Instr.slice, Instr.sliceBounds, Instr.sliceBound, asIntOf, run_underlying ht, e2, e3, sv_ext, e1, hj, hij]
theorem QOp.ixP {x i : Operand} {b off j t e k len : Nat} {q : IntKind} (ht : P.underlying t = some (.array len e)) (hk : (P.info? e).map (·.size) = some k) (hx : ev S x = some (.pointer (some ⟨b, off, none⟩))) (hi : ev S i = some (.int q (j : Int))) (hj : j < len) : QOp P n C S ⟨d, .indexAddr t x i, ty, pos, af, g⟩ (.pointer (some ⟨b, off + j * k, none⟩)) :=
  .of fun a w hs hC => by
    obtain ⟨inf, h1, h2⟩ : ∃ inf, P.info? e = some inf ∧ inf.size = k := by
      cases h : P.info? e with
      | none => rw [h] at hk; cases hk
      | some inf => rw [h] at hk; exact ⟨inf, rfl, Option.some.inj hk⟩
    have e1 : ((⟨b, off, none⟩ : Addr).add (j * k)) = ⟨b, off + j * k, none⟩ := by unfold Addr.add; split <;> simp_all
    have e2 : (0 : Int) ≤ (j : Int) ∧ (j : Int) < (len : Int) := by omega
    simp [execOp, hs.eval hx, hs.eval hi, Instr.indexAt, Instr.sureAddr, asIntOf, asAddr, run_underlying ht, sizeOf, typeInfo, h1, h2, e1, e2, hj]
/-- x[i], i of whatever kind of numbers. -/
theorem QOp.ixU {x i : Operand} {b off m c j : Nat} {t e k by_ : Nat} {z : List Value} {q : IntKind} (ht : Slc P t e k by_ z) (hx : ev S x = some (.slice (some ⟨b, off, none⟩) m c)) (hi : ev S i = some (.int q (j : Int))) (hj : j < m) : QOp P n C S ⟨d, .indexAddr t x i, ty, pos, af, g⟩ (.pointer (some ⟨b, off + j * k, none⟩)) :=
  .of fun a w hs hC => by
    obtain ⟨inf, zv, h1, h2, _⟩ := ht.e
    have e1 : ((⟨b, off, none⟩ : Addr).add (j * k)) = ⟨b, off + j * k, none⟩ := by unfold Addr.add; split <;> simp_all
    have e2 : (0 : Int) ≤ (j : Int) ∧ (j : Int) < (m : Int) := by omega
    simp [execOp, hs.eval hx, hs.eval hi, Instr.indexAt, asIntOf, run_underlying ht.t, sizeOf, typeInfo, h1, h2, e1, e2, hj]
theorem run_eql_ii {w : World} {t : TypeId} {ms : Array (String × TypeId)} (ht : P.underlying t = some (.interface ms)) : (binOp .eql t .nilIface .nilIface).run P w = .ok (.bool true) w := by
  simp only [binOp, Op.equal, Op.maxDepth]
  unfold Op.equalIn
  simp [run_underlying ht]
theorem run_eql_in {w : World} {t te : TypeId} {pe : Value} {ms : Array (String × TypeId)} (ht : P.underlying t = some (.interface ms)) : (binOp .eql t (.iface te pe) .nilIface).run P w = .ok (.bool false) w := by
  simp only [binOp, Op.equal, Op.maxDepth]
  unfold Op.equalIn
  simp [run_underlying ht]
theorem QOp.eqI {x : Operand} {t u : TypeId} {ms : Array (String × TypeId)} {v : Value} {b : Bool} (ht : P.underlying t = some (.interface ms)) (hx : ev S x = some v) (hv : (v = .nilIface ∧ b = true) ∨ ((∃ te pe, v = .iface te pe) ∧ b = false)) : QOp P n C S ⟨d, .binOp .eql t x (.const .nilIface) u, ty, pos, af, g⟩ (.bool b) :=
  .of fun ac w hs hC => by
    have h2 : ac.eval (.const .nilIface) = .nilIface := rfl
    rcases hv with ⟨rfl, rfl⟩ | ⟨⟨te, pe, rfl⟩, rfl⟩
    · have h1 : (eqGuard .eql t x (.const .nilIface) .nilIface .nilIface).run P w = .ok () w := by simp [eqGuard]
      simp [execOp, hs.eval hx, h2, h1, run_eql_ii ht]
    · have h1 : (eqGuard .eql t x (.const .nilIface) (.iface te pe) .nilIface).run P w = .ok () w := by simp [eqGuard]
      simp [execOp, hs.eval hx, h2, h1, run_eql_in ht]
theorem QOp.maxI {x y : Operand} {ts : Array TypeId} {k : IntKind} {i j r : Int} (hx : ev S x = some (.int k i)) (hy : ev S y = some (.int k j)) (hr : max i j = r) : QOp P n C S ⟨d, .call { callee := .builtin .max, args := #[x, y], argTypes := ts }, ty, pos, af, g⟩ (.int k r) :=
  .of fun a w hs hC => by
    have hr' : (if j > i then j else i) = r := by rw [← hr, Int.max_def]; split <;> split <;> omega
    simp [execOp, resolve, invoke, builtin, hs.eval hx, hs.eval hy, Builtin.max_, Builtin.max2, hr']
theorem QOp.neg {x : Operand} {t : TypeId} {k : IntKind} {i r : Int} (hx : ev S x = some (.int k i)) (hr : k.wrap (-i) = r) : QOp P n C S ⟨d, .unOp .neg t x, ty, pos, af, g⟩ (.int k r) :=
  .of fun a w hs hC => by
    have hr' : k.wrap (0 - i) = r := by rw [← hr]; congr 1; omega
    simp [execOp, hs.eval hx, Op.unary, Op.intArith, hr]
end
end Go.Proofs.YtjccenbacjhglaaGreatDoor.K
