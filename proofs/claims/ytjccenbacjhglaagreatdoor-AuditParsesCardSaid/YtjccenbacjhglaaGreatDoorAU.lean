import Derived.Test.YtjccenbacjhglaaGreatDoorProg
import Derived.Test.YtjccenbacjhglaaGreatDoorK
import Derived.Test.YtjccenbacjhglaaGreatDoorM
import Derived.Test.YtjccenbacjhglaaGreatDoorIS
import Derived.Test.YtjccenbacjhglaaGreatDoorM2
import Derived.Test.YtjccenbacjhglaaGreatDoorPF
import Derived.Test.YtjccenbacjhglaaGreatDoorSO
set_option linter.unusedVariables false
set_option linter.unusedSimpArgs false
set_option maxRecDepth 100000
set_option maxHeartbeats 1000000
namespace Go.Proofs.YtjccenbacjhglaaGreatDoor.AU
open Go Go.Proofs Go.RowKit Go.Proofs.YtjccenbacjhglaaGreatDoor.K Go.Proofs.YtjccenbacjhglaaGreatDoor.M Go.Proofs.YtjccenbacjhglaaGreatDoor.PF Go.Proofs.YtjccenbacjhglaaGreatDoor.SO
theorem a35 : Ag Tryz.prog 35 3 := ⟨_, Tryz.underlying35, rfl, by kernel_rfl⟩
theorem a172 : Ag Tryz.prog 172 6 := ⟨_, Tryz.underlying172, rfl, by kernel_rfl⟩
theorem a174 : Ag Tryz.prog 174 3 := ⟨_, Tryz.underlying174, rfl, by kernel_rfl⟩
theorem f26_1 : Fld Tryz.prog 26 1 1 := ⟨_, _, Tryz.underlying26, rfl, rfl, 0, by kernel_rfl⟩
theorem f35_1 : Fld Tryz.prog 35 1 1 := ⟨_, _, Tryz.underlying35, rfl, rfl, 0, by kernel_rfl⟩
theorem f35_2 : Fld Tryz.prog 35 2 2 := ⟨_, _, Tryz.underlying35, rfl, rfl, 0, by kernel_rfl⟩
theorem f89_0 : Fld Tryz.prog 89 0 0 := ⟨_, _, Tryz.underlying89, rfl, rfl, 0, by kernel_rfl⟩
theorem f89_1 : Fld Tryz.prog 89 1 1 := ⟨_, _, Tryz.underlying89, rfl, rfl, 0, by kernel_rfl⟩
theorem f89_2 : Fld Tryz.prog 89 2 2 := ⟨_, _, Tryz.underlying89, rfl, rfl, 0, by kernel_rfl⟩
theorem f89_5 : Fld Tryz.prog 89 5 5 := ⟨_, _, Tryz.underlying89, rfl, rfl, 0, by kernel_rfl⟩
theorem f174_1 : Fld Tryz.prog 174 1 1 := ⟨_, _, Tryz.underlying174, rfl, rfl, 0, by kernel_rfl⟩
theorem f228_0 : Fld Tryz.prog 228 0 0 := ⟨_, _, Tryz.underlying228, rfl, rfl, 0, by kernel_rfl⟩
theorem f228_1 : Fld Tryz.prog 228 1 1 := ⟨_, _, Tryz.underlying228, rfl, rfl, 0, by kernel_rfl⟩
theorem f228_2 : Fld Tryz.prog 228 2 2 := ⟨_, _, Tryz.underlying228, rfl, rfl, 0, by kernel_rfl⟩
theorem f228_3 : Fld Tryz.prog 228 3 3 := ⟨_, _, Tryz.underlying228, rfl, rfl, 0, by kernel_rfl⟩
theorem f228_4 : Fld Tryz.prog 228 4 4 := ⟨_, _, Tryz.underlying228, rfl, rfl, 0, by kernel_rfl⟩
theorem fn74 : Fnc Tryz.prog 74 := ⟨by kernel_rfl⟩
theorem fn75 : Fnc Tryz.prog 75 := ⟨by kernel_rfl⟩
theorem fn77 : Fnc Tryz.prog 77 := ⟨by kernel_rfl⟩
theorem fn130 : Fnc Tryz.prog 130 := ⟨by kernel_rfl⟩
theorem fn131 : Fnc Tryz.prog 131 := ⟨by kernel_rfl⟩
theorem fn175 : Fnc Tryz.prog 175 := ⟨by kernel_rfl⟩
theorem mix : Tryz.prog.follows .mixedOrders = true := by kernel_rfl
theorem o3 : One Tryz.prog 3 := ⟨_, Tryz.underlying3, rfl, by kernel_rfl⟩
theorem o36 : One Tryz.prog 36 := ⟨_, Tryz.underlying36, rfl, by kernel_rfl⟩
theorem o87 : One Tryz.prog 87 := ⟨_, Tryz.underlying87, rfl, by kernel_rfl⟩
theorem o226 : One Tryz.prog 226 := ⟨_, Tryz.underlying226, rfl, by kernel_rfl⟩
theorem pt226 : Pnt Tryz.prog 226 := ⟨Tryz.underlying226⟩
theorem s22 : Slc Tryz.prog 22 26 8 64 [.int .i64 0, .int .i64 0, .int .i64 0, .int .i64 0, .int .u8 0, .int .i64 0, .int .i64 0, .int .i64 0] := ⟨Tryz.underlying22, by kernel_rfl, rfl⟩
theorem s36 : Slc Tryz.prog 36 35 3 32 [.string ⟨#[]⟩, .int .i64 0, .int .i64 0] := ⟨Tryz.underlying36, by kernel_rfl, rfl⟩
theorem s41 : Slc Tryz.prog 41 3 1 8 [.int .i64 0] := ⟨Tryz.underlying41, by kernel_rfl, rfl⟩
theorem s87 : Slc Tryz.prog 87 226 1 8 [.pointer none] := ⟨Tryz.underlying87, by kernel_rfl, rfl⟩
theorem s123 : Slc Tryz.prog 123 172 6 56 [.int .i64 0, .string ⟨#[]⟩, .int .i64 0, .int .i64 0, .int .i64 0, .int .i64 0] := ⟨Tryz.underlying123, by kernel_rfl, rfl⟩
theorem st26 : Str Tryz.prog 26 [.int .i64 0, .int .i64 0, .int .i64 0, .int .i64 0, .int .u8 0, .int .i64 0, .int .i64 0, .int .i64 0] #[(0, 1), (1, 1), (2, 1), (3, 1), (4, 1), (5, 1), (6, 1), (7, 1)] := ⟨⟨by kernel_rfl⟩, _, Tryz.underlying26, fun w => by kernel_rfl⟩
theorem st172 : Str Tryz.prog 172 [.int .i64 0, .string ⟨#[]⟩, .int .i64 0, .int .i64 0, .int .i64 0, .int .i64 0] #[(0, 1), (1, 3), (4, 1), (5, 1)] := ⟨⟨by kernel_rfl⟩, _, Tryz.underlying172, fun w => by kernel_rfl⟩
theorem z174 : Zr Tryz.prog 174 [.int .i64 0, .int .i64 0, .int .i64 0] := ⟨by kernel_rfl⟩

theorem cellOf {w : World} {b k : Nat} {c : List Value} {T : TypeId} {fr : Nat × Nat} {v : Value} (h : w.heap[b]? = some (.cells c.toArray T fr)) (hk : c[k]? = some v) : w.cell? ⟨b, k, none⟩ = some v := by
  simp [World.cell?, h, hk]
/-- The pointer to a job. -/
def ptrV : Option (Nat × Jb) → Value
  | none => .pointer none
  | some (b, _) => .pointer (some ⟨b, 0, none⟩)
theorem ptr_none {w : World} {J i : Nat} {ps : List (Option (Nat × Jb))} {T : TypeId} {fr : Nat × Nat} (h : w.heap[J]? = some (.cells (ps.map ptrV).toArray T fr)) (hi : i < ps.length) (hp : ps[i] = none) : w.cell? ⟨J, 0 + i * 1, none⟩ = some (.pointer none) :=
  cellOf h (by rw [Nat.zero_add, Nat.mul_one, List.getElem?_map, List.getElem?_eq_getElem hi, hp]; rfl)
theorem ptr_some {w : World} {J i : Nat} {ps : List (Option (Nat × Jb))} {T : TypeId} {fr : Nat × Nat} (h : w.heap[J]? = some (.cells (ps.map ptrV).toArray T fr)) (hi : i < ps.length) {b : Nat} {j : Jb} (hp : ps[i] = some (b, j)) : w.cell? ⟨J, 0 + i * 1, none⟩ = some (.pointer (some ⟨b, 0, none⟩)) :=
  cellOf h (by rw [Nat.zero_add, Nat.mul_one, List.getElem?_map, List.getElem?_eq_getElem hi, hp]; rfl)
def intV (i : Int) : Value := .int .i64 i
theorem int_at {w : World} {J i : Nat} {xs : List Int} {T : TypeId} {fr : Nat × Nat} (h : w.heap[J]? = some (.cells (xs.map intV).toArray T fr)) (hi : i < xs.length) : w.cell? ⟨J, 0 + i * 1, none⟩ = some (.int .i64 xs[i]) :=
  cellOf h (by rw [Nat.zero_add, Nat.mul_one, List.getElem?_map, List.getElem?_eq_getElem hi]; rfl)
/-- The auditor's own cells. -/
def auC (lv : Value) (J N T : Nat) (n : Nat) (a : Au) (dv : Value) : List Value := [lv, .int .i64 a.cores, .slice (some ⟨J, 0, none⟩) n n, .slice (some ⟨N, 0, none⟩) n n, .slice (some ⟨T, 0, none⟩) n n, .int .i64 a.slot, .int .i64 a.phase, dv, .int .i64 a.newest]
/-- The auditor in memory, all but what is due. -/
structure AuW (w : World) (A J N T : Nat) (lv dv : Value) (ps : List (Option (Nat × Jb))) (a : Au) : Prop where
  hA : w.heap[A]? = some (.cells (auC lv J N T ps.length a dv).toArray 89 (0, 0))
  hJ : w.heap[J]? = some (.cells (ps.map ptrV).toArray 226 (0, 0))
  hN : w.heap[N]? = some (.cells (a.cnt.map intV).toArray 3 (0, 0))
  hT : w.heap[T]? = some (.cells (a.last.map intV).toArray 3 (0, 0))
  hP : ∀ (i b : Nat) (j : Jb), ps[i]? = some (some (b, j)) → w.heap[b]? = some (.cells (encJ j).toArray 228 (0, 0))
  hl : Rd encT 3 w lv a.l
  js : a.js = ps.map (Option.map (·.2))
/-- Bounds of the auditor's numbers. -/
structure AuI (a : Au) (K : Int) : Prop where
  val : validT a.l = true
  n12 : a.l.length ≤ 12
  nj : a.js.length = a.l.length
  nc : a.cnt.length = a.l.length
  nt : a.last.length = a.l.length
  s0 : 0 ≤ a.slot
  s1 : a.slot ≤ 100001
  p0 : 0 ≤ a.phase
  p1 : a.phase ≤ 5
  c0 : 1 ≤ a.cores
  c1 : a.cores ≤ 4
  job : ∀ (i : Nat) (j : Jb), a.js[i]? = some (some j) → 0 ≤ j.rel ∧ j.rel ≤ a.slot ∧ 0 ≤ j.done ∧ j.done ≤ K ∧ -1 ≤ j.ran ∧ j.ran ≤ a.slot ∧ 0 ≤ j.core ∧ j.core < a.cores
  cnt : ∀ (i : Nat) (x : Int), a.cnt[i]? = some x → 0 ≤ x ∧ x ≤ K
  last : ∀ (i : Nat) (x : Int), a.last[i]? = some x → 0 ≤ x ∧ x ≤ a.slot
  due3 : a.phase = 3 → ∀ d ∈ a.due, d.k = 2 ∧ 0 ≤ d.t ∧ d.t < a.l.length ∧ (M.job a d.t.toNat).isSome = true ∧ 0 ≤ d.c ∧ d.c < a.cores
  dueN : a.phase ≠ 3 → ∀ d ∈ a.due, d.k ≠ 2
  k0 : 0 ≤ K
  k1 : K ≤ 1000000000000000
theorem AuI.tk {a : Au} {K : Int} (h : AuI a K) {i : Nat} (hi : i < a.l.length) : 1 ≤ a.l[i].c ∧ a.l[i].c ≤ a.l[i].p ∧ a.l[i].p ≤ 1000 := by
  have h1 := h.val
  simp only [validT, Bool.and_eq_true, List.all_eq_true] at h1
  exact okT_bd (h1.1 _ (List.getElem_mem hi))
theorem AuI.n40 {a : Au} {K : Int} (h : AuI a K) : a.l.length ≤ 40 := by
  have h1 := h.val
  simp only [validT, Bool.and_eq_true, decide_eq_true_eq] at h1
  exact h1.2
theorem AuW.job {w : World} {A J N T : Nat} {lv dv : Value} {ps : List (Option (Nat × Jb))} {a : Au} (h : AuW w A J N T lv dv ps a) {i : Nat} (hi : i < ps.length) {b : Nat} {j : Jb} (hp : ps[i] = some (b, j)) : M.job a i = some j ∧ a.js[i]? = some (some j) ∧ w.heap[b]? = some (.cells (encJ j).toArray 228 (0, 0)) := by
  have h1 : a.js[i]? = some (some j) := by rw [h.js, List.getElem?_map, List.getElem?_eq_getElem hi, hp]; rfl
  exact ⟨by rw [M.job, h1]; rfl, h1, h.hP i b j (by rw [List.getElem?_eq_getElem hi, hp])⟩
theorem AuW.nojob {w : World} {A J N T : Nat} {lv dv : Value} {ps : List (Option (Nat × Jb))} {a : Au} (h : AuW w A J N T lv dv ps a) {i : Nat} (hi : i < ps.length) (hp : ps[i] = none) : M.job a i = none := by
  rw [M.job, h.js, List.getElem?_map, List.getElem?_eq_getElem hi, hp]; rfl
theorem AuW.len {w : World} {A J N T : Nat} {lv dv : Value} {ps : List (Option (Nat × Jb))} {a : Au} (h : AuW w A J N T lv dv ps a) : ps.length = a.js.length := by rw [h.js, List.length_map]
theorem encE_one (e : Ev) : ∀ u ∈ encE e, u.oneCell' = true := by simp [encE, Value.oneCell']
theorem encE_len (e : Ev) : (encE e).length = 8 := rfl
theorem OS.snoc {α : Type} {enc : α → List Value} {e k : Nat} {v : Value} {xs : List α} {x : α} {L : List Blk} (h : OS e k v (xs.flatMap enc ++ enc x) (xs.length + 1) L) : OS e k v ((xs ++ [x]).flatMap enc) (xs ++ [x]).length L := by
  simpa using h
theorem Rd.at {α : Type} {enc : α → List Value} {k : Nat} {w : World} {v : Value} {xs : List α} (h : Rd enc k w v xs) {i : Nat} (hi : i < xs.length) : ∃ b off c, v = .slice (some ⟨b, off, none⟩) xs.length c ∧ ∀ j, j < k → w.cell? ⟨b, off + i * k + j, none⟩ = (enc xs[i])[j]? := by
  obtain ⟨A, c, rfl, _, _, h3⟩ := h
  rcases h3 with rfl | ⟨b, off, rfl, h3⟩
  · simp at hi
  · exact ⟨b, off, c, rfl, fun j hj => h3 i hi j hj⟩

theorem late_calls (w : World) (A J N T : Nat) (lv dv : Value) (ps : List (Option (Nat × Jb))) (a : Au) (K : Int) (hW : AuW w A J N T lv dv ps a) (hI : AuI a K) : Calls Tryz.prog 83 #[.pointer (some ⟨A, 0, none⟩)] w fun e w' => ∃ v L', e = .returned v ∧ Z w w [] L' w' ∧ OS 26 8 v ((late a).flatMap encE) (late a).length L' := by
  have hlen : ps.length = a.l.length := hW.len.trans hI.nj
  have h40 := hI.n12
  obtain ⟨q1, q2, q3, q4, q5, q6⟩ := And.intro hI.s0 (And.intro hI.s1 (And.intro hI.c0 (And.intro hI.c1 (And.intro hI.k0 hI.k1))))
  refine enter (args := [_]) Tryz.func83 rfl rfl rfl (C := Z w w [] []) (Z.start (H.nil w)) ?_
  refine .seq (.reg (.q (.assign rfl) (.nil (.code ?_))))
  refine .seq (.reg (.q (.assign rfl) (.nil (.code ?_))))
  refine .seq (.seq (.reg (.q (.move rfl) (.q (.nilP rfl) (.q (.fld f89_2 rfl) (.q (.ldW o87 rfl (cellOf hW.hA rfl)) (.q (.lenS s87.t rfl) (.q (.move rfl) (.nil (.code ?_))))))))))
  refine .block (.lp (fun s : Nat × Value × List Blk => [(0, .pointer (some ⟨A, 0, none⟩)), (3, s.2.1), (9, .slice (some ⟨J, 0, none⟩) ps.length ps.length), (10, .int .i64 (ps.length : Int)), (11, .int .i64 (s.1 : Int))]) (fun s => s.2.2) (fun s => s.1 ≤ ps.length ∧ OS 26 8 s.2.1 ((upTo (lateF a) s.1).flatMap encE) (upTo (lateF a) s.1).length s.2.2) (fun s => ps.length - s.1) (0, .slice none 0 0, []) ⟨rfl, rfl, rfl, rfl, rfl, trivial⟩ (fun _ h => h) ⟨Nat.zero_le _, OS.nil _ _⟩ fun ⟨i, v, Lx⟩ hk => ?_)
  obtain ⟨hk1, hk2⟩ := hk
  simp only at hk1 hk2
  have hul := upTo_len (lateF a) i
  refine .seq (.reg (.ltS rfl rfl (fun h12 => ?_) (fun h12 => ?_)))
  · have hi : i < ps.length := by omega
    refine .nil (.code ?_)
    refine .seq (.tt (.skip (.code ?_)))
    refine .seq (.block (.seq (.reg (.q (.move rfl) (.q (.ix s87 rfl rfl (by omega)) (?_))))))
    rcases hp : ps[i] with _ | ⟨b, j⟩
    · have hx : lateF a i = none := by simp only [lateF, hW.nojob hi hp]
      refine .q (.ldW o226 rfl (ptr_none hW.hJ hi hp)) (.q (.assign rfl) (.q (.assign rfl) (.nil (.code ?_))))
      refine .seq (.draw mix (by kernel_rfl) (fun _ h => h.drew) (.q (.move rfl) (.q (.neP pt226 rfl rfl) (.q (.move rfl) (.skip (.skip (.skip (.skip (.skip (.skip (.skip (.skip (.skip (.skip (.skip (.skip (.skip (.skip (.skip (.skip (.skip (.skip (.q (.pickF rfl rfl) (.nil (.code ?_)))))))))))))))))))))))))
      refine .ff (.skip (.inbN (.code ?_)))
      refine .reg (.q (.add rfl rfl (IntWalk.i64_in _ (by omega))) (.q (.move rfl) (.nil (.rd (i + 1, v, Lx) ⟨rfl, rfl, rfl, rfl, rfl, trivial⟩ (fun _ h => h) ⟨by simp only; omega, by rw [show upTo (lateF a) (i + 1) = upTo (lateF a) i from upTo_no hx]; exact hk2⟩ (by simp only; omega)))))
    · obtain ⟨hj, hj2, hb⟩ := hW.job hi hp
      obtain ⟨b1, b2, b3, b4, b5, b6, b7, b8⟩ := hI.job i j hj2
      have hil : i < a.l.length := by omega
      obtain ⟨b9, b10, b11⟩ := hI.tk hil
      obtain ⟨lb, loff, lc, rfl, hlc⟩ := Rd.at hW.hl hil
      refine .q (.ldW o226 rfl (ptr_some hW.hJ hi hp)) (.q (.assign rfl) (.q (.assign rfl) (.nil (.code ?_))))
      refine .seq (.draw mix (by kernel_rfl) (fun _ h => h.drew) (.q (.move rfl) (.q (.neP pt226 rfl rfl) (.q (.move rfl) (.q (.move rfl) (.q (.nilP rfl) (.q (.fld f228_1 rfl) (.q (.ldW o3 rfl (cellOf hb rfl)) (.q (.move rfl) (.q (.nilP rfl) (.q (.fld f89_0 rfl) (.q (.ldW o36 rfl (cellOf hW.hA rfl)) (.q (.move rfl) (.q (.ix s36 rfl rfl (by omega)) (.q (.fld f35_2 rfl) (.q (.ldW o3 rfl (hlc 2 (by omega))) (.q (.add rfl rfl (IntWalk.i64_in _ (by omega))) (.q (.move rfl) (.q (.nilP rfl) (.q (.fld f89_5 rfl) (.q (.ldW o3 rfl (cellOf hW.hA rfl)) (.leS rfl rfl (fun h36 => ?_) (fun h36 => ?_)))))))))))))))))))))))
      · have hx : lateF a i = some ⟨a.slot, -1, (i : Int), j.no, 6, j.done, 0, 0⟩ := by simp only [lateF, hj, List.getElem?_eq_getElem hil]; rw [if_pos (by omega)]
        refine .q (.pickT rfl rfl) (.nil (.code ?_))
        refine .tt (.drawS (F := Z w w [] []) mix [] [] [0, 1, 2, 3, 4, 5, 6, 7, 8, 9, 10, 11, 12, 13, 14] (.one 15 (.one 16 (.one 17 .nil))) (by kernel_rfl) (fun _ h => h.drew) (fun _ h => h.sublist (List.nil_sublist _)) (.toS (.q (.move rfl) (.q (.move rfl) (.q (.nilP rfl) (.q (.fld f89_5 rfl) (.q (.ldW o3 rfl (cellOf hW.hA rfl)) (.q (.move rfl) (.q (.move rfl) (.q (.nilP rfl) (.q (.fld f228_0 rfl) (.q (.ldW o3 rfl (cellOf hb rfl)) (.q (.move rfl) (.q (.nilP rfl) (.q (.fld f228_2 rfl) (.q (.ldW o3 rfl (cellOf hb rfl)) (.q (.build st26 rfl rfl) (.toT (.step rfl (.bslice s22 rfl rfl rfl fun b53 => .nil (.tk (fun _ h => h.sublist (List.nil_sublist _)) (.step rfl (.app1 s22 (by omega) (by omega) rfl rfl hk2 (pkN _) (by rfl) (encE_one ⟨a.slot, -1, (i : Int), j.no, 6, j.done, 0, 0⟩) (by omega) fun v54 L54 o54 => (.nil (.tk (fun _ h => h.sublist (List.nil_sublist _)) (.step rfl (.q (.assign rfl) (.nil (.tk (fun _ h => h.sublist (List.nil_sublist _)) (.nil (.inbN (.code ?_))))))))))))))))))))))))))))))))
        refine .reg (.q (.add rfl rfl (IntWalk.i64_in _ (by omega))) (.q (.move rfl) (.nil (.rd (i + 1, v54, L54) ⟨rfl, rfl, rfl, rfl, rfl, trivial⟩ (fun _ h => h.sublist (List.sublist_append_left _ _)) ⟨by simp only; omega, by rw [show upTo (lateF a) (i + 1) = upTo (lateF a) i ++ [_] from upTo_yes hx]; exact OS.snoc o54⟩ (by simp only; omega)))))
      · have hx : lateF a i = none := by simp only [lateF, hj, List.getElem?_eq_getElem hil]; rw [if_neg (by omega)]
        refine .q (.pickT rfl rfl) (.nil (.code ?_))
        refine .ff (.skip (.inbN (.code ?_)))
        refine .reg (.q (.add rfl rfl (IntWalk.i64_in _ (by omega))) (.q (.move rfl) (.nil (.rd (i + 1, v, Lx) ⟨rfl, rfl, rfl, rfl, rfl, trivial⟩ (fun _ h => h) ⟨by simp only; omega, by rw [show upTo (lateF a) (i + 1) = upTo (lateF a) i from upTo_no hx]; exact hk2⟩ (by simp only; omega)))))
  · refine .nil (.code ?_)
    refine .seq (.ff (.exit (.thE (.thE (.inbX (.code ?_))))))
    refine .seq (.reg (.q (.move rfl) (.q (.assign rfl) (.nil (.code ?_)))))
    refine .ret (.ret1 Tryz.results83 rfl fun w1 hz => ⟨_, _, rfl, hz, by rw [late, ← hW.len, show ps.length = i by omega]; exact hk2⟩)

theorem candLess_calls (x y : Cd) (hx : 0 ≤ x.r ∧ x.r ≤ 100001) (hy : 0 ≤ y.r ∧ y.r ≤ 100001) (w : World) : Calls Tryz.prog 175 (([] : List Value) ++ [Value.agg (encC x).toArray, Value.agg (encC y).toArray] ++ []).toArray w fun e w' => e = .returned (.int .i64 (cmpC x y)) ∧ Z w w [] [] w' := by
  refine enter (args := [_, _]) Tryz.func175 rfl rfl rfl (C := Z w w [] []) (Z.start (H.nil w)) ?_
  refine .seq (.reg (.box rfl fun b2 => .box rfl fun b3 => .q (.assign rfl) (.nil (.code ?_))))
  refine .seq (.seq (.reg (.q (.ldOA a172 1 rfl rfl rfl rfl) (.q (.ldOA a172 0 rfl rfl rfl rfl) (.q (.call fn77 rfl (fun w hz => before_calls w x y (by omega) (by omega))) (.nil (.code ?_)))))))
  refine .cond (fun h7 => ?_) (fun h7 => ?_)
  · refine .seq (.reg (.q (.assign rfl) (.nil (.code ?_))))
    refine .ret (.thR (.ret1 Tryz.results175 rfl fun w1 hz => ⟨by rw [cmpC, if_pos h7], hz.sublist (List.nil_sublist _)⟩))
  · refine .skip (.code ?_)
    refine .seq (.reg (.q (.assign rfl) (.nil (.code ?_))))
    refine .ret (.ret1 Tryz.results175 rfl fun w1 hz => ⟨by rw [cmpC, if_neg (by simp [h7])], hz.sublist (List.nil_sublist _)⟩)


theorem candF_ok {a : Au} {K : Int} (hI : AuI a K) {i : Nat} {x : Cd} (h : candF a i = some x) : 0 ≤ x.r ∧ x.r ≤ 100001 ∧ x.n = (i : Int) ∧ (M.job a i).isSome = true := by
  unfold candF at h
  split at h
  · rename_i j t hj ht
    split at h
    · obtain rfl := Option.some.inj h
      have hj' : a.js[i]? = some (some j) := by
        unfold M.job at hj
        cases h2 : a.js[i]? with
        | none => rw [h2] at hj; cases hj
        | some o => rw [h2] at hj; rw [show o = some j from hj]
      obtain ⟨b1, b2, _⟩ := hI.job i j hj'
      have := hI.s1
      exact ⟨b1, by simp only; omega, rfl, by rw [hj]; rfl⟩
    · cases h
  · cases h
theorem upTo_cand_ok {a : Au} {K : Int} (hI : AuI a K) {n : Nat} {x : Cd} (h : x ∈ upTo (candF a) n) : 0 ≤ x.r ∧ x.r ≤ 100001 := by
  obtain ⟨i, _, hi⟩ := mem_upTo.1 h
  have := candF_ok hI hi
  exact ⟨this.1, this.2.1⟩
theorem encC_one (x : Cd) : ∀ u ∈ encC x, u.oneCell' = true := by simp [encC, Value.oneCell']
theorem encC_len (x : Cd) : (encC x).length = 6 := rfl
theorem OS.cut {α : Type} {enc : α → List Value} {e k m : Nat} {v : Value} {xs : List α} {L : List Blk} (hk : ∀ x, (enc x).length = k) (h : OS e k v (xs.flatMap enc) xs.length L) (hm : m ≤ xs.length) : ∃ A c, v = .slice A xs.length c ∧ m ≤ c ∧ OS e k (.slice A m c) ((xs.take m).flatMap enc) (xs.take m).length L := by
  obtain ⟨h0, h | h⟩ := h
  · obtain ⟨rfl, hx, rfl⟩ := h
    obtain rfl := List.eq_nil_of_length_eq_zero hx
    obtain rfl : m = 0 := by simpa using hm
    exact ⟨none, 0, rfl, Nat.le_refl _, OS.nil _ _⟩
  · obtain ⟨b, cap, cur, rfl, rfl, h1, h2, h3, h4⟩ := h
    refine ⟨_, cap, rfl, by omega, by rw [flat_len hk], .inr ⟨b, cap, cur, by rw [List.length_take, Nat.min_eq_left hm], rfl, by rw [List.length_take]; omega, h2, h3, ?_⟩⟩
    have : ((xs.flatMap enc).take (m * k)) = (xs.take m).flatMap enc := by
      conv => lhs; rw [← List.take_append_drop m xs]
      rw [List.flatMap_append, List.take_append_of_le_length (by rw [flat_len hk, List.length_take, Nat.min_eq_left hm]; exact Nat.le_refl _)]
      rw [List.take_of_length_le]
      rw [flat_len hk, List.length_take, Nat.min_eq_left hm]; exact Nat.le_refl _
    rw [← this, ← h4, List.take_take, List.length_take, Nat.min_eq_left hm, Nat.min_eq_left (Nat.mul_le_mul_right _ hm)]

theorem candidates_calls (w : World) (A J N T : Nat) (lv dv : Value) (ps : List (Option (Nat × Jb))) (a : Au) (K : Int) (hW : AuW w A J N T lv dv ps a) (hI : AuI a K) : Calls Tryz.prog 128 #[.pointer (some ⟨A, 0, none⟩)] w fun e w' => ∃ v L', e = .returned v ∧ Z w w [] L' w' ∧ OS 172 6 v ((cands a).flatMap encC) (cands a).length L' := by
  have hlen : ps.length = a.l.length := hW.len.trans hI.nj
  have h40 := hI.n12
  obtain ⟨q1, q2, q3, q4, q5, q6⟩ := And.intro hI.s0 (And.intro hI.s1 (And.intro hI.c0 (And.intro hI.c1 (And.intro hI.k0 hI.k1))))
  refine enter (args := [_]) Tryz.func128 rfl rfl rfl (C := Z w w [] []) (Z.start (H.nil w)) ?_
  refine .seq (.reg (.q (.assign rfl) (.nil (.code ?_))))
  refine .seq (.reg (.q (.assign rfl) (.nil (.code ?_))))
  refine .seq (.seq (.reg (.q (.move rfl) (.q (.nilP rfl) (.q (.fld f89_2 rfl) (.q (.ldW o87 rfl (cellOf hW.hA rfl)) (.q (.lenS s87.t rfl) (.q (.move rfl) (.nil (.code ?_))))))))))
  refine .block (.lp (fun s : Nat × Value × List Blk => [(0, .pointer (some ⟨A, 0, none⟩)), (3, s.2.1), (11, .slice (some ⟨J, 0, none⟩) ps.length ps.length), (12, .int .i64 (ps.length : Int)), (13, .int .i64 (s.1 : Int))]) (fun s => s.2.2) (fun s => s.1 ≤ ps.length ∧ OS 172 6 s.2.1 ((upTo (candF a) s.1).flatMap encC) (upTo (candF a) s.1).length s.2.2) (fun s => ps.length - s.1) (0, .slice none 0 0, []) ⟨rfl, rfl, rfl, rfl, rfl, trivial⟩ (fun _ h => h) ⟨Nat.zero_le _, OS.nil _ _⟩ fun ⟨i, v, Lx⟩ hk => ?_)
  obtain ⟨hk1, hk2⟩ := hk
  simp only at hk1 hk2
  have hul := upTo_len (candF a) i
  refine .seq (.reg (.ltS rfl rfl (fun h14 => ?_) (fun h14 => ?_)))
  · have hi : i < ps.length := by omega
    refine .nil (.code ?_)
    refine .seq (.tt (.skip (.code ?_)))
    refine .seq (.block (.seq (.reg (.q (.move rfl) (.q (.ix s87 rfl rfl (by omega)) (?_))))))
    rcases hp : ps[i] with _ | ⟨b, j⟩
    · have hx : candF a i = none := by simp only [candF, hW.nojob hi hp]
      refine .q (.ldW o226 rfl (ptr_none hW.hJ hi hp)) (.q (.assign rfl) (.q (.assign rfl) (.nil (.code ?_))))
      refine .seq (.seq (.reg (.q (.move rfl) (.q (.eqP pt226 rfl rfl) (.nil (.code ?_))))))
      refine .tt (.exit (.thE (.inbX (.code ?_))))
      refine .reg (.q (.add rfl rfl (IntWalk.i64_in _ (by omega))) (.q (.move rfl) (.nil (.rd (i + 1, v, Lx) ⟨rfl, rfl, rfl, rfl, rfl, trivial⟩ (fun _ h => h) ⟨by simp only; omega, by rw [show upTo (candF a) (i + 1) = upTo (candF a) i from upTo_no hx]; exact hk2⟩ (by simp only; omega)))))
    · obtain ⟨hj, hj2, hb⟩ := hW.job hi hp
      obtain ⟨b1, b2, b3, b4, b5, b6, b7, b8⟩ := hI.job i j hj2
      have hil : i < a.l.length := by omega
      obtain ⟨b9, b10, b11⟩ := hI.tk hil
      obtain ⟨lb, loff, lc, rfl, hlc⟩ := Rd.at hW.hl hil
      have hwd := window_bd a.l[i] (j.done + 1)
      refine .q (.ldW o226 rfl (ptr_some hW.hJ hi hp)) (.q (.assign rfl) (.q (.assign rfl) (.nil (.code ?_))))
      refine .seq (.seq (.reg (.q (.move rfl) (.q (.eqP pt226 rfl rfl) (.nil (.code ?_))))))
      refine .ff (.skip (.code ?_))
      refine .ct (fun x : Nat => [(0, .pointer (some ⟨A, 0, none⟩)), (3, v), (4, .int .i64 (i : Int)), (5, .pointer (some ⟨b, 0, none⟩)), (6, .pointer (some ⟨x, 0, none⟩)), (7, .int .i64 (winE a.l[i] (j.done + 1))), (11, .slice (some ⟨J, 0, none⟩) ps.length ps.length), (12, .int .i64 (ps.length : Int)), (13, .int .i64 (i : Int))]) (fun x => (x, .cells (encW (window a.l[i] (j.done + 1))).toArray 174 (0, 0)) :: Lx) (fun _ => True) ?_ ?_
      · refine .drawS (F := Z w w [] []) mix [] [] [0, 1, 2, 3, 4, 5, 6, 7, 8, 9, 10, 11] (.two 12 (.fl 13 (.fl 14 (.fl 15 (.one 16 (.one 17 (.one 18 .nil)))))) 16 (.one 12 (.fl 13 (.fl 14 (.fl 15 (.one 17 (.one 18 .nil))))))) (by kernel_rfl) (fun _ h => h.drew) (fun _ h => h.sublist (List.nil_sublist _)) (.toS (.q (.move rfl) (.q (.nilP rfl) (.q (.fld f89_0 rfl) (.q (.ldW o36 rfl (cellOf hW.hA rfl)) (.q (.move rfl) (.q (.ix s36 rfl rfl (by omega)) (.q (.ldWA a35 (cs := encT a.l[i]) rfl rfl fun j hj => hlc j hj) (.q (.move rfl) (.q (.nilP rfl) (.q (.fld f228_2 rfl) (.q (.ldW o3 rfl (cellOf hb rfl)) (.q (.add rfl rfl (IntWalk.i64_in _ (by omega))) (.toT (.both ?_ ?_)))))))))))))))
        · refine .step rfl (.q (.call fn74 rfl (fun w hz => window_calls w _ _)) (.nil (.tk (fun _ h => h.sublist (List.nil_sublist _)) (.flt (fun _ h => h.sublist (List.nil_sublist _)) (.q (.move rfl) (.toT (.flt (fun _ h => h.sublist (List.nil_sublist _)) (.q (.ext rfl rfl) (.toT (.flt (fun _ h => h.sublist (List.nil_sublist _)) (.q (.ext rfl rfl) (.toT (.step rfl (.alloc z174 fun b6 => .nil (.tk (fun _ h => h.sublist (List.nil_sublist _)) (.step rfl (.stA a174 0 rfl rfl rfl rfl rfl rfl (.nil (.tk (fun _ h => h.sublist (List.nil_sublist _)) (.step rfl (.q (.assign rfl) (.nil (.tk (fun _ h => h.sublist (List.nil_sublist _)) (.nil (.ot b6 ⟨rfl, rfl, rfl, rfl, rfl, rfl, rfl, rfl, rfl, trivial⟩ (fun _ h => h) trivial)))))))))))))))))))))))))
        · refine .step rfl (.alloc z174 fun b6 => .nil (.tk (fun _ h => h.sublist (List.nil_sublist _)) (.step rfl (.q (.call fn74 rfl (fun w hz => window_calls w _ _)) (.nil (.tk (fun _ h => h.sublist (List.nil_sublist _)) (.flt (fun _ h => h.sublist (List.nil_sublist _)) (.q (.move rfl) (.toT (.flt (fun _ h => h.sublist (List.nil_sublist _)) (.q (.ext rfl rfl) (.toT (.flt (fun _ h => h.sublist (List.nil_sublist _)) (.q (.ext rfl rfl) (.toT (.step rfl (.stA a174 0 rfl rfl rfl rfl rfl rfl (.nil (.tk (fun _ h => h.sublist (List.nil_sublist _)) (.step rfl (.q (.assign rfl) (.nil (.tk (fun _ h => h.sublist (List.nil_sublist _)) (.nil (.ot b6 ⟨rfl, rfl, rfl, rfl, rfl, rfl, rfl, rfl, rfl, trivial⟩ (fun _ h => h) trivial)))))))))))))))))))))))))
      intro x6 _
      refine .seq (.draw mix (by kernel_rfl) (fun _ h => h.drew) (.q (.move rfl) (.eqS rfl rfl (fun h37 => ?_) (fun h37 => ?_))))
      · refine .q (.move rfl) (.q (.move rfl) (.q (.nilP rfl) (.q (.fld f228_1 rfl) (.q (.ldW o3 rfl (cellOf hb rfl)) (.q (.fld f174_1 rfl) (.q (.ldO o3 0 rfl rfl rfl) (.q (.add rfl rfl (IntWalk.i64_in _ (by omega))) (.q (.move rfl) (.q (.nilP rfl) (.q (.fld f89_5 rfl) (.q (.ldW o3 rfl (cellOf hW.hA rfl)) (.leS rfl rfl (fun h50 => ?_) (fun h50 => ?_)))))))))))))
        · have hx : candF a i = some ⟨(i : Int), a.l[i], j.rel, j.done + 1⟩ := by simp only [candF, hj, List.getElem?_eq_getElem hil]; rw [if_pos ⟨by omega, by omega⟩]
          refine .q (.pickT rfl rfl) (.nil (.code ?_))
          refine .tt (.drawS (F := Z w w [] []) mix [] [] [0, 1, 2, 3, 4, 5, 6, 7, 8, 9, 10, 11, 12, 13, 14, 15, 16, 17, 18] (.one 19 (.one 20 (.one 21 .nil))) (by kernel_rfl) (fun _ h => h.drew) (fun _ h => h.sublist (List.nil_sublist _)) (.toS (.q (.move rfl) (.q (.move rfl) (.q (.move rfl) (.q (.nilP rfl) (.q (.fld f89_0 rfl) (.q (.ldW o36 rfl (cellOf hW.hA rfl)) (.q (.move rfl) (.q (.ix s36 rfl rfl (by omega)) (.q (.ldWA a35 (cs := encT a.l[i]) rfl rfl fun j hj => hlc j hj) (.q (.move rfl) (.q (.nilP rfl) (.q (.fld f228_1 rfl) (.q (.ldW o3 rfl (cellOf hb rfl)) (.q (.move rfl) (.q (.nilP rfl) (.q (.fld f228_2 rfl) (.q (.ldW o3 rfl (cellOf hb rfl)) (.q (.add rfl rfl (IntWalk.i64_in _ (by omega))) (.q (.build st172 rfl rfl) (.toT (.step rfl (.bslice s123 rfl rfl rfl fun b71 => .nil (.tk (fun _ h => h.sublist (List.nil_sublist _)) (.step rfl (.app1 s123 (by omega) (by omega) rfl rfl hk2 (pkC (pkN _)) (by rfl) (encC_one ⟨(i : Int), a.l[i], j.rel, j.done + 1⟩) (by omega) fun v54 L54 o54 => (.nil (.tk (fun _ h => h.sublist (List.nil_sublist _)) (.step rfl (.q (.assign rfl) (.nil (.tk (fun _ h => h.sublist (List.nil_sublist _)) (.nil (.inbN (.code ?_))))))))))))))))))))))))))))))))))))
          refine .reg (.q (.add rfl rfl (IntWalk.i64_in _ (by omega))) (.q (.move rfl) (.nil (.rd (i + 1, v54, L54) ⟨rfl, rfl, rfl, rfl, rfl, trivial⟩ (fun _ h => h.sublist (List.sublist_append_left _ _)) ⟨by simp only; omega, by rw [show upTo (candF a) (i + 1) = upTo (candF a) i ++ [_] from upTo_yes hx]; exact OS.snoc o54⟩ (by simp only; omega)))))
        · have hx : candF a i = none := by simp only [candF, hj, List.getElem?_eq_getElem hil]; rw [if_neg (by omega)]
          refine .q (.pickT rfl rfl) (.nil (.code ?_))
          refine .ff (.skip (.inbN (.code ?_)))
          refine .reg (.q (.add rfl rfl (IntWalk.i64_in _ (by omega))) (.q (.move rfl) (.nil (.rd (i + 1, v, Lx) ⟨rfl, rfl, rfl, rfl, rfl, trivial⟩ (fun _ h => drp h) ⟨by simp only; omega, by rw [show upTo (candF a) (i + 1) = upTo (candF a) i from upTo_no hx]; exact hk2⟩ (by simp only; omega)))))
      · have hx : candF a i = none := by simp only [candF, hj, List.getElem?_eq_getElem hil]; rw [if_neg (by omega)]
        refine .q (.move rfl) (.skip (.skip (.skip (.skip (.skip (.skip (.skip (.skip (.skip (.skip (.skip (.skip (.q (.pickF rfl rfl) (.nil (.code ?_)))))))))))))))
        refine .ff (.skip (.inbN (.code ?_)))
        refine .reg (.q (.add rfl rfl (IntWalk.i64_in _ (by omega))) (.q (.move rfl) (.nil (.rd (i + 1, v, Lx) ⟨rfl, rfl, rfl, rfl, rfl, trivial⟩ (fun _ h => drp h) ⟨by simp only; omega, by rw [show upTo (candF a) (i + 1) = upTo (candF a) i from upTo_no hx]; exact hk2⟩ (by simp only; omega)))))
  · refine .nil (.code ?_)
    refine .seq (.ff (.exit (.thE (.thE (.inbX (.code ?_))))))
    refine .seq (.reg (?_))
    have hiX : ps.length = i := by omega
    have hok : ∀ x ∈ upTo (candF a) i, 0 ≤ x.r ∧ x.r ≤ 100001 := fun x hx => upTo_cand_ok hI hx
    have hlt := upTo_len (candF a) i
    refine .q (.move rfl) (.callM (Lm := Lx) (Lr := []) (Post := fun _ L' => OS 172 6 v ((isort (fun x y => decide (cmpC x y < 0)) (upTo (candF a) i)).flatMap encC) (upTo (candF a) i).length L') fn75 rfl (pkN _) (fun w hH => sortCd_calls _ w 175 [] fn175 cmpC (fun x => 0 ≤ x.r ∧ x.r ≤ 100001) (fun x y hx hy w => candLess_calls x y hx hy w) encC_len _ hok (by omega) v Lx hk2 hH) fun v75 L75 p75 => (.nil (.code ?_)))
    refine .seq (.reg (?_))
    have hil := isort_len (fun x y => decide (cmpC x y < 0)) (upTo (candF a) i)
    rw [← hil] at p75
    obtain ⟨A1, c1, rfl, hm1, hO⟩ := OS.cut (m := min (upTo (candF a) i).length a.cores.toNat) encC_len p75 (by rw [hil]; omega)
    rw [hil]
    refine .q (.move rfl) (.q (.move rfl) (.q (.lenS s123.t rfl) (.q (.move rfl) (.q (.nilP rfl) (.q (.fld f89_1 rfl) (.q (.ldW o3 rfl (cellOf hW.hA rfl)) (.q (.minI (r := ((min (upTo (candF a) i).length a.cores.toNat : Nat) : Int)) rfl rfl (by omega)) (.q (.slHi s123 rfl rfl hm1) (.q (.assign rfl) (.nil (.code ?_)))))))))))
    refine .ret (.ret1 Tryz.results128 rfl fun w1 hz => ⟨_, L75, rfl, hz.perm (by simp), by
    have e : cands a = (isort (fun x y => decide (cmpC x y < 0)) (upTo (candF a) i)).take (min (upTo (candF a) i).length a.cores.toNat) := by
      rw [cands, ← hW.len, hiX, List.take_eq_take_min, hil, Nat.min_comm]
    rw [e]
    have e2 : ((isort (fun x y => decide (cmpC x y < 0)) (upTo (candF a) i)).take (min (upTo (candF a) i).length a.cores.toNat)).length = min (upTo (candF a) i).length a.cores.toNat := by rw [List.length_take, hil]; omega
    exact hO⟩)

theorem cutLess_calls (x y : Ev) (hx : 0 ≤ x.c ∧ x.c ≤ 4) (hy : 0 ≤ y.c ∧ y.c ≤ 4) (w : World) : Calls Tryz.prog 131 (([] : List Value) ++ [Value.agg (encE x).toArray, Value.agg (encE y).toArray] ++ []).toArray w fun e w' => e = .returned (.int .i64 (x.c - y.c)) ∧ Z w w [] [] w' := by
  refine enter (args := [_, _]) Tryz.func131 rfl rfl rfl (C := Z w w [] []) (Z.start (H.nil w)) ?_
  refine .seq (.reg (.box rfl fun b2 => .box rfl fun b3 => .q (.assign rfl) (.nil (.code ?_))))
  refine .seq (.reg (.q (.fld f26_1 rfl) (.q (.ldO o3 1 rfl rfl rfl) (.q (.fld f26_1 rfl) (.q (.ldO o3 0 rfl rfl rfl) (.q (.sub rfl rfl (IntWalk.i64_in _ (by omega))) (.q (.assign rfl) (.nil (.code ?_)))))))))
  refine .ret (.ret1 Tryz.results131 rfl fun w1 hz => ⟨rfl, hz.sublist (List.nil_sublist _)⟩)


theorem job_some {a : Au} {i : Nat} {j : Jb} (h : M.job a i = some j) : a.js[i]? = some (some j) := by
  unfold M.job at h
  cases h2 : a.js[i]? with
  | none => rw [h2] at h; cases h
  | some o => rw [h2] at h; rw [show o = some j from h]
theorem upTo_cut_ok {a : Au} {K : Int} (hI : AuI a K) {n : Nat} {x : Ev} (h : x ∈ upTo (cutF a) n) : 0 ≤ x.c ∧ x.c ≤ 4 := by
  obtain ⟨i, _, hi⟩ := mem_upTo.1 h
  unfold cutF at hi
  split at hi
  · rename_i j t hj ht
    split at hi
    · obtain rfl := Option.some.inj hi
      obtain ⟨_, _, _, _, _, _, b7, b8⟩ := hI.job i j (job_some hj)
      have := hI.c1
      exact ⟨b7, by simp only; omega⟩
    · cases hi
  · cases hi

theorem cutoff_calls (w : World) (A J N T : Nat) (lv dv : Value) (ps : List (Option (Nat × Jb))) (a : Au) (K : Int) (hW : AuW w A J N T lv dv ps a) (hI : AuI a K) : Calls Tryz.prog 88 #[.pointer (some ⟨A, 0, none⟩)] w fun e w' => ∃ v L', e = .returned v ∧ Z w w [] L' w' ∧ OS 26 8 v ((cutoff a).flatMap encE) (cutoff a).length L' := by
  have hlen : ps.length = a.l.length := hW.len.trans hI.nj
  have h40 := hI.n12
  obtain ⟨q1, q2, q3, q4, q5, q6⟩ := And.intro hI.s0 (And.intro hI.s1 (And.intro hI.c0 (And.intro hI.c1 (And.intro hI.k0 hI.k1))))
  refine enter (args := [_]) Tryz.func88 rfl rfl rfl (C := Z w w [] []) (Z.start (H.nil w)) ?_
  refine .seq (.reg (.q (.assign rfl) (.nil (.code ?_))))
  refine .seq (.reg (.q (.assign rfl) (.nil (.code ?_))))
  refine .seq (.seq (.reg (.q (.move rfl) (.q (.nilP rfl) (.q (.fld f89_2 rfl) (.q (.ldW o87 rfl (cellOf hW.hA rfl)) (.q (.lenS s87.t rfl) (.q (.move rfl) (.nil (.code ?_))))))))))
  refine .block (.lp (fun s : Nat × Value × List Blk => [(0, .pointer (some ⟨A, 0, none⟩)), (3, s.2.1), (9, .slice (some ⟨J, 0, none⟩) ps.length ps.length), (10, .int .i64 (ps.length : Int)), (11, .int .i64 (s.1 : Int))]) (fun s => s.2.2) (fun s => s.1 ≤ ps.length ∧ OS 26 8 s.2.1 ((upTo (cutF a) s.1).flatMap encE) (upTo (cutF a) s.1).length s.2.2) (fun s => ps.length - s.1) (0, .slice none 0 0, []) ⟨rfl, rfl, rfl, rfl, rfl, trivial⟩ (fun _ h => h) ⟨Nat.zero_le _, OS.nil _ _⟩ fun ⟨i, v, Lx⟩ hk => ?_)
  obtain ⟨hk1, hk2⟩ := hk
  simp only at hk1 hk2
  have hul := upTo_len (cutF a) i
  refine .seq (.reg (.ltS rfl rfl (fun h12 => ?_) (fun h12 => ?_)))
  · have hi : i < ps.length := by omega
    refine .nil (.code ?_)
    refine .seq (.tt (.skip (.code ?_)))
    refine .seq (.block (.seq (.reg (.q (.move rfl) (.q (.ix s87 rfl rfl (by omega)) (?_))))))
    rcases hp : ps[i] with _ | ⟨b, j⟩
    · have hx : cutF a i = none := by simp only [cutF, hW.nojob hi hp]
      refine .q (.ldW o226 rfl (ptr_none hW.hJ hi hp)) (.q (.assign rfl) (.q (.assign rfl) (.nil (.code ?_))))
      refine .seq (.draw mix (by kernel_rfl) (fun _ h => h.drew) (.q (.move rfl) (.q (.neP pt226 rfl rfl) (.q (.move rfl) (.skip (.skip (.skip (.skip (.skip (.skip (.skip (.skip (.skip (.q (.pickF rfl rfl) (.q (.move rfl) (.skip (.skip (.skip (.skip (.skip (.skip (.skip (.skip (.skip (.skip (.skip (.skip (.skip (.q (.pickF rfl rfl) (.nil (.code ?_)))))))))))))))))))))))))))))))
      refine .ff (.skip (.inbN (.code ?_)))
      refine .reg (.q (.add rfl rfl (IntWalk.i64_in _ (by omega))) (.q (.move rfl) (.nil (.rd (i + 1, v, Lx) ⟨rfl, rfl, rfl, rfl, rfl, trivial⟩ (fun _ h => h) ⟨by simp only; omega, by rw [show upTo (cutF a) (i + 1) = upTo (cutF a) i from upTo_no hx]; exact hk2⟩ (by simp only; omega)))))
    · obtain ⟨hj, hj2, hb⟩ := hW.job hi hp
      obtain ⟨b1, b2, b3, b4, b5, b6, b7, b8⟩ := hI.job i j hj2
      have hil : i < a.l.length := by omega
      obtain ⟨b9, b10, b11⟩ := hI.tk hil
      obtain ⟨lb, loff, lc, rfl, hlc⟩ := Rd.at hW.hl hil
      refine .q (.ldW o226 rfl (ptr_some hW.hJ hi hp)) (.q (.assign rfl) (.q (.assign rfl) (.nil (.code ?_))))
      refine .seq (.draw mix (by kernel_rfl) (fun _ h => h.drew) (.q (.move rfl) (.q (.neP pt226 rfl rfl) (.q (.move rfl) (.q (.move rfl) (.q (.nilP rfl) (.q (.fld f228_3 rfl) (.q (.ldW o3 rfl (cellOf hb rfl)) (.q (.move rfl) (.q (.nilP rfl) (.q (.fld f89_5 rfl) (.q (.ldW o3 rfl (cellOf hW.hA rfl)) (.eqS rfl rfl (fun h27 => ?_) (fun h27 => ?_))))))))))))))
      · refine .q (.pickT rfl rfl) (.q (.move rfl) (.q (.move rfl) (.q (.nilP rfl) (.q (.fld f228_2 rfl) (.q (.ldW o3 rfl (cellOf hb rfl)) (.q (.move rfl) (.q (.nilP rfl) (.q (.fld f89_0 rfl) (.q (.ldW o36 rfl (cellOf hW.hA rfl)) (.q (.move rfl) (.q (.ix s36 rfl rfl (by omega)) (.q (.fld f35_1 rfl) (.q (.ldW o3 rfl (hlc 1 (by omega))) (.eqS rfl rfl (fun h42 => ?_) (fun h42 => ?_)))))))))))))))
        · have hx : cutF a i = some ⟨a.slot, j.core, (i : Int), j.no, 5, j.done, 0, 0⟩ := by simp only [cutF, hj, List.getElem?_eq_getElem hil]; rw [if_pos (by omega)]
          refine .q (.pickT rfl rfl) (.nil (.code ?_))
          refine .tt (.drawS (F := Z w w [] []) mix [] [] [0, 1, 2, 3, 4, 5, 6, 7, 8, 9, 10, 11, 12, 13, 14, 15, 16, 17, 18] (.one 19 (.one 20 (.one 21 .nil))) (by kernel_rfl) (fun _ h => h.drew) (fun _ h => h.sublist (List.nil_sublist _)) (.toS (.q (.move rfl) (.q (.move rfl) (.q (.nilP rfl) (.q (.fld f89_5 rfl) (.q (.ldW o3 rfl (cellOf hW.hA rfl)) (.q (.move rfl) (.q (.nilP rfl) (.q (.fld f228_4 rfl) (.q (.ldW o3 rfl (cellOf hb rfl)) (.q (.move rfl) (.q (.move rfl) (.q (.nilP rfl) (.q (.fld f228_0 rfl) (.q (.ldW o3 rfl (cellOf hb rfl)) (.q (.move rfl) (.q (.nilP rfl) (.q (.fld f228_2 rfl) (.q (.ldW o3 rfl (cellOf hb rfl)) (.q (.build st26 rfl rfl) (.toT (.step rfl (.bslice s22 rfl rfl rfl fun b63 => .nil (.tk (fun _ h => h.sublist (List.nil_sublist _)) (.step rfl (.app1 s22 (by omega) (by omega) rfl rfl hk2 (pkN _) (by rfl) (encE_one ⟨a.slot, j.core, (i : Int), j.no, 5, j.done, 0, 0⟩) (by omega) fun v54 L54 o54 => (.nil (.tk (fun _ h => h.sublist (List.nil_sublist _)) (.step rfl (.q (.assign rfl) (.nil (.tk (fun _ h => h.sublist (List.nil_sublist _)) (.nil (.inbN (.code ?_))))))))))))))))))))))))))))))))))))
          refine .reg (.q (.add rfl rfl (IntWalk.i64_in _ (by omega))) (.q (.move rfl) (.nil (.rd (i + 1, v54, L54) ⟨rfl, rfl, rfl, rfl, rfl, trivial⟩ (fun _ h => h.sublist (List.sublist_append_left _ _)) ⟨by simp only; omega, by rw [show upTo (cutF a) (i + 1) = upTo (cutF a) i ++ [_] from upTo_yes hx]; exact OS.snoc o54⟩ (by simp only; omega)))))
        · have hx : cutF a i = none := by simp only [cutF, hj, List.getElem?_eq_getElem hil]; rw [if_neg (by omega)]
          refine .q (.pickT rfl rfl) (.nil (.code ?_))
          refine .ff (.skip (.inbN (.code ?_)))
          refine .reg (.q (.add rfl rfl (IntWalk.i64_in _ (by omega))) (.q (.move rfl) (.nil (.rd (i + 1, v, Lx) ⟨rfl, rfl, rfl, rfl, rfl, trivial⟩ (fun _ h => h) ⟨by simp only; omega, by rw [show upTo (cutF a) (i + 1) = upTo (cutF a) i from upTo_no hx]; exact hk2⟩ (by simp only; omega)))))
      · have hx : cutF a i = none := by simp only [cutF, hj, List.getElem?_eq_getElem hil]; rw [if_neg (by omega)]
        refine .q (.pickT rfl rfl) (.q (.move rfl) (.skip (.skip (.skip (.skip (.skip (.skip (.skip (.skip (.skip (.skip (.skip (.skip (.skip (.q (.pickF rfl rfl) (.nil (.code ?_)))))))))))))))))
        refine .ff (.skip (.inbN (.code ?_)))
        refine .reg (.q (.add rfl rfl (IntWalk.i64_in _ (by omega))) (.q (.move rfl) (.nil (.rd (i + 1, v, Lx) ⟨rfl, rfl, rfl, rfl, rfl, trivial⟩ (fun _ h => h) ⟨by simp only; omega, by rw [show upTo (cutF a) (i + 1) = upTo (cutF a) i from upTo_no hx]; exact hk2⟩ (by simp only; omega)))))
  · refine .nil (.code ?_)
    refine .seq (.ff (.exit (.thE (.thE (.inbX (.code ?_))))))
    refine .seq (.reg (?_))
    have hiX : ps.length = i := by omega
    have hok : ∀ x ∈ upTo (cutF a) i, 0 ≤ x.c ∧ x.c ≤ 4 := fun x hx => upTo_cut_ok hI hx
    have hlt := upTo_len (cutF a) i
    refine .q (.move rfl) (.callM (Lm := Lx) (Lr := []) (Post := fun _ L' => OS 26 8 v ((isort (fun x y : Ev => decide (x.c - y.c < 0)) (upTo (cutF a) i)).flatMap encE) (upTo (cutF a) i).length L') fn130 rfl (pkN _) (fun w hH => sortEv_calls _ w 131 [] fn131 (fun x y => x.c - y.c) (fun x => 0 ≤ x.c ∧ x.c ≤ 4) (fun x y hx hy w => cutLess_calls x y hx hy w) encE_len _ hok (by omega) v Lx hk2 hH) fun v67 L67 p67 => (.nil (.code ?_)))
    refine .seq (.reg (.q (.move rfl) (.q (.assign rfl) (.nil (.code ?_)))))
    refine .ret (.ret1 Tryz.results88 rfl fun w1 hz => ⟨_, L67, rfl, hz.perm (by simp), by
    have e : cutoff a = isort (fun x y : Ev => decide (x.c - y.c < 0)) (upTo (cutF a) i) := by rw [cutoff, ← hW.len, hiX]
    rw [e, isort_len]
    exact p67⟩)


theorem heap_up {w w1 we : World} {Le L : List Blk} (hz : Z w we Le L w1) {b : Nat} {o : Obj} (h : w.heap[b]? = some o) : w1.heap[b]? = some o :=
  (hz.h.below.block b (Array.getElem?_eq_some_iff.1 h).1).trans h
theorem AuW.up {w : World} {A J N T : Nat} {lv dv : Value} {ps : List (Option (Nat × Jb))} {a : Au} (h : AuW w A J N T lv dv ps a) {w1 we : World} {Le L : List Blk} (hz : Z w we Le L w1) : AuW w1 A J N T lv dv ps a :=
  ⟨heap_up hz h.hA, heap_up hz h.hJ, heap_up hz h.hN, heap_up hz h.hT, fun i b j e => heap_up hz (h.hP i b j e), h.hl.below hz.h.below, h.js⟩
theorem OS.read {α : Type} {enc : α → List Value} {e k : Nat} {v : Value} {xs : List α} {Lx : List Blk} (hk : ∀ x, (enc x).length = k) (h : OS e k v (xs.flatMap enc) xs.length Lx) {i : Nat} (hi : i < xs.length) : ∃ b c, v = .slice (some ⟨b, 0, none⟩) xs.length c ∧ ∀ (w0 we w : World) (Le L : List Blk), Z w0 we Le L w → (∀ x ∈ Lx, x ∈ L) → ∀ j, j < k → w.cell? ⟨b, 0 + i * k + j, none⟩ = (enc xs[i])[j]? := by
  obtain ⟨h0, h | h⟩ := h
  · obtain ⟨rfl, hx, rfl⟩ := h
    omega
  · obtain ⟨b, cap, cur, rfl, rfl, h1, h2, h3, h4⟩ := h
    refine ⟨b, cap, rfl, fun w0 we w Le L hz hL j hj => ?_⟩
    have hb := hz.h.has _ (hL _ (List.mem_singleton.2 rfl))
    have hc : w.cell? ⟨b, 0 + i * k + j, none⟩ = cur[0 + i * k + j]? := by simp [World.cell?, hb]
    rw [hc, ← Array.getElem?_toList]
    have h5 := flat_at hk xs [] i hi
    rw [List.append_nil, ← h4] at h5
    have h6 : (((cur.toList.take (xs.length * k)).drop (i * k)).take k)[j]? = (enc xs[i])[j]? := by rw [h5]
    have hle : i * k + k ≤ xs.length * k := by rw [← Nat.succ_mul]; exact Nat.mul_le_mul_right _ hi
    rw [List.getElem?_take_of_lt hj, List.getElem?_drop, List.getElem?_take_of_lt (by omega)] at h6
    rw [Nat.zero_add]
    exact h6
/-- Where x first stands among xs, or -1. -/
def idxI (xs : List Int) (x : Int) : Int := if x ∈ xs then (xs.idxOf x : Int) else -1
theorem idxOf_eq {x : Int} : ∀ (xs : List Int) (i : Nat) (hi : i < xs.length), xs[i] = x → (∀ j (hj : j < xs.length), j < i → xs[j] ≠ x) → xs.idxOf x = i
  | [], i, hi, _, _ => by simp at hi
  | y :: ys, 0, hi, h, _ => by
    rw [List.idxOf_cons]
    simp at h
    simp [h]
  | y :: ys, i + 1, hi, h, hn => by
    have h0 : y ≠ x := hn 0 (by simp) (by omega)
    rw [List.idxOf_cons]
    have hb : (y == x) = false := by simpa using h0
    have := idxOf_eq ys i (by simpa using hi) (by simpa using h) (fun j hj hji => by
      have := hn (j + 1) (by simpa using hj) (by omega)
      simpa using this)
    rw [hb, cond_false, this]
theorem idxI_at {xs : List Int} {x : Int} {i : Nat} (hi : i < xs.length) (h : x = xs[i]) (hn : ∀ j (hj : j < xs.length), j < i → xs[j] ≠ x) : idxI xs x = (i : Int) := by
  have hm : x ∈ xs := h ▸ List.getElem_mem hi
  rw [idxI, if_pos hm]
  have : xs.idxOf x = i := idxOf_eq xs i hi h.symm hn
  rw [this]
theorem idxI_no {xs : List Int} {x : Int} (hn : ∀ j (hj : j < xs.length), xs[j] ≠ x) : idxI xs x = -1 := by
  rw [idxI, if_neg]
  intro hm
  obtain ⟨j, hj, e⟩ := List.getElem_of_mem hm
  exact hn j hj e

theorem index_calls (w : World) (b c : Nat) (xs : List Int) (x : Int) (hn : xs.length ≤ 1000) (hb : w.heap[b]? = some (.cells (xs.map intV).toArray 3 (0, 0))) : Calls Tryz.prog 129 #[.slice (some ⟨b, 0, none⟩) xs.length c, .int .i64 x] w fun e w' => e = .returned (.int .i64 (idxI xs x)) ∧ Z w w [] [] w' := by
  refine enter (args := [_, _]) Tryz.func129 rfl rfl rfl (C := Z w w [] []) (Z.start (H.nil w)) ?_
  refine .seq (.reg (.q (.assign rfl) (.nil (.code ?_))))
  refine .seq (.seq (.reg (.q (.move rfl) (.q (.lenS s41.t rfl) (.q (.move rfl) (.nil (.code ?_)))))))
  refine .block (.lp (fun i : Nat => [(0, .slice (some ⟨b, 0, none⟩) xs.length c), (1, .int .i64 x), (7, .int .i64 (xs.length : Int)), (8, .int .i64 (i : Int))]) (fun _ => []) (fun i => i ≤ xs.length ∧ ∀ j (hj : j < xs.length), j < i → xs[j] ≠ x) (fun i => xs.length - i) 0 ⟨rfl, rfl, rfl, rfl, trivial⟩ (fun _ h => h) ⟨Nat.zero_le _, fun _ _ h => absurd h (by omega)⟩ fun i hk => ?_)
  obtain ⟨hk1, hk2⟩ := hk
  refine .seq (.reg (.ltS rfl rfl (fun h9 => ?_) (fun h9 => ?_)))
  · have hi : i < xs.length := by omega
    refine .nil (.code ?_)
    refine .seq (.tt (.skip (.code ?_)))
    refine .seq (.block (.seq (.reg (.q (.move rfl) (.q (.assign rfl) (.nil (.code ?_)))))))
    refine .seq (.reg (.q (.move rfl) (.q (.move rfl) (.q (.move rfl) (.q (.ix s41 rfl rfl (by omega)) (.q (.ldW o3 rfl (int_at hb hi)) (.eqS rfl rfl (fun h16 => ?_) (fun h16 => ?_))))))))
    · refine .nil (.code ?_)
      refine .tt (.seq (.reg (.q (.move rfl) (.q (.assign rfl) (.nil (.code ?_))))))
      refine .ret (.inbR (.thR (.thR (.inbR (.thR (.ret1 Tryz.results129 rfl fun w1 hz => ⟨by rw [idxI_at hi h16 hk2], hz⟩))))))
    · refine .nil (.code ?_)
      refine .ff (.skip (.inbN (.code ?_)))
      refine .reg (.q (.add rfl rfl (IntWalk.i64_in _ (by omega))) (.q (.move rfl) (.nil (.rd (i + 1) ⟨rfl, rfl, rfl, rfl, trivial⟩ (fun _ h => h) ⟨by omega, fun j hj h => by
      rcases Nat.lt_or_ge j i with h2 | h2
      · exact hk2 j hj h2
      · obtain rfl : j = i := by omega
        exact fun e => h16 e.symm⟩ (by omega)))))
  · refine .nil (.code ?_)
    refine .seq (.ff (.exit (.thE (.thE (.inbX (.code ?_))))))
    refine .seq (.reg (.q (.assign rfl) (.nil (.code ?_))))
    refine .ret (.ret1 Tryz.results129 rfl fun w1 hz => ⟨by rw [idxI_no fun j hj => hk2 j hj (by omega)], hz⟩)

end Go.Proofs.YtjccenbacjhglaaGreatDoor.AU
