import Derived.Test.YtjccenbacjhglaaProg
import Derived.Test.YtjccenbacjhglaaK
import Derived.Test.YtjccenbacjhglaaM
import Derived.Test.YtjccenbacjhglaaM4
import Derived.Test.YtjccenbacjhglaaIS
import Derived.Test.YtjccenbacjhglaaM2
import Derived.Test.YtjccenbacjhglaaM5
import Derived.Test.YtjccenbacjhglaaPF
import Derived.Test.YtjccenbacjhglaaSO
import Derived.Test.YtjccenbacjhglaaAU
import Derived.Test.YtjccenbacjhglaaR1
import Derived.Test.YtjccenbacjhglaaR2
set_option linter.unusedVariables false
set_option linter.unusedSimpArgs false
set_option maxRecDepth 100000
set_option maxHeartbeats 4000000
namespace Go.Proofs.Ytjccenbacjhglaa.R3
open Go Go.Proofs Go.RowKit Go.Proofs.Ytjccenbacjhglaa.K Go.Proofs.Ytjccenbacjhglaa.M Go.Proofs.Ytjccenbacjhglaa.PF Go.Proofs.Ytjccenbacjhglaa.SO Go.Proofs.Ytjccenbacjhglaa.AU Go.Proofs.Ytjccenbacjhglaa.R1 Go.Proofs.Ytjccenbacjhglaa.R2
theorem a119 : Ag Try.prog 119 6 := ⟨_, Try.underlying119, rfl, by kernel_rfl⟩
theorem f85_0 : Fld Try.prog 85 0 0 := ⟨_, _, Try.underlying85, rfl, rfl, 0, by kernel_rfl⟩
theorem f85_1 : Fld Try.prog 85 1 1 := ⟨_, _, Try.underlying85, rfl, rfl, 0, by kernel_rfl⟩
theorem f85_2 : Fld Try.prog 85 2 2 := ⟨_, _, Try.underlying85, rfl, rfl, 0, by kernel_rfl⟩
theorem f85_3 : Fld Try.prog 85 3 3 := ⟨_, _, Try.underlying85, rfl, rfl, 0, by kernel_rfl⟩
theorem f85_4 : Fld Try.prog 85 4 4 := ⟨_, _, Try.underlying85, rfl, rfl, 0, by kernel_rfl⟩
theorem f87_1 : Fld Try.prog 87 1 1 := ⟨_, _, Try.underlying87, rfl, rfl, 0, by kernel_rfl⟩
theorem f87_2 : Fld Try.prog 87 2 2 := ⟨_, _, Try.underlying87, rfl, rfl, 0, by kernel_rfl⟩
theorem f119_0 : Fld Try.prog 119 0 0 := ⟨_, _, Try.underlying119, rfl, rfl, 0, by kernel_rfl⟩
theorem f119_1 : Fld Try.prog 119 1 1 := ⟨_, _, Try.underlying119, rfl, rfl, 0, by kernel_rfl⟩
theorem f119_2 : Fld Try.prog 119 2 2 := ⟨_, _, Try.underlying119, rfl, rfl, 0, by kernel_rfl⟩
theorem f119_3 : Fld Try.prog 119 3 3 := ⟨_, _, Try.underlying119, rfl, rfl, 0, by kernel_rfl⟩
theorem f119_4 : Fld Try.prog 119 4 4 := ⟨_, _, Try.underlying119, rfl, rfl, 0, by kernel_rfl⟩
theorem f119_5 : Fld Try.prog 119 5 5 := ⟨_, _, Try.underlying119, rfl, rfl, 0, by kernel_rfl⟩
theorem f139_0 : Fld Try.prog 139 0 0 := ⟨_, _, Try.underlying139, rfl, rfl, 0, by kernel_rfl⟩
theorem fn73 : Fnc Try.prog 73 := ⟨by kernel_rfl⟩
theorem fn74 : Fnc Try.prog 74 := ⟨by kernel_rfl⟩
theorem fn75 : Fnc Try.prog 75 := ⟨by kernel_rfl⟩
theorem mix : Try.prog.follows .mixedOrders = true := by kernel_rfl
theorem o3 : One Try.prog 3 := ⟨_, Try.underlying3, rfl, by kernel_rfl⟩
theorem o4 : One Try.prog 4 := ⟨_, Try.underlying4, rfl, by kernel_rfl⟩
theorem o30 : One Try.prog 30 := ⟨_, Try.underlying30, rfl, by kernel_rfl⟩
theorem o83 : One Try.prog 83 := ⟨_, Try.underlying83, rfl, by kernel_rfl⟩
theorem s30 : Slc Try.prog 30 87 3 32 [.string ⟨#[]⟩, .int .i64 0, .int .i64 0] := ⟨Try.underlying30, by kernel_rfl, rfl⟩
theorem s32 : Slc Try.prog 32 82 6 48 [.int .i64 0, .int .i64 0, .int .i64 0, .int .i64 0, .int .u8 0, .int .i64 0] := ⟨Try.underlying32, by kernel_rfl, rfl⟩
theorem s37 : Slc Try.prog 37 3 1 8 [.int .i64 0] := ⟨Try.underlying37, by kernel_rfl, rfl⟩
theorem s83 : Slc Try.prog 83 119 6 48 [.int .i64 0, .int .i64 0, .int .i64 0, .int .i64 0, .int .i64 0, .bool false] := ⟨Try.underlying83, by kernel_rfl, rfl⟩
theorem s136 : Slc Try.prog 136 139 5 40 [.int .i64 0, .int .i64 0, .int .i64 0, .int .i64 0, .int .i64 0] := ⟨Try.underlying136, by kernel_rfl, rfl⟩
theorem st82 : Str Try.prog 82 [.int .i64 0, .int .i64 0, .int .i64 0, .int .i64 0, .int .u8 0, .int .i64 0] #[(0, 1), (1, 1), (2, 1), (3, 1), (4, 1), (5, 1)] := ⟨⟨by kernel_rfl⟩, _, Try.underlying82, fun w => by kernel_rfl⟩
theorem st139 : Str Try.prog 139 [.int .i64 0, .int .i64 0, .int .i64 0, .int .i64 0, .int .i64 0] #[(0, 1), (1, 1), (2, 1), (3, 1), (4, 1)] := ⟨⟨by kernel_rfl⟩, _, Try.underlying139, fun w => by kernel_rfl⟩
theorem z119 : Zr Try.prog 119 [.int .i64 0, .int .i64 0, .int .i64 0, .int .i64 0, .int .i64 0, .bool false] := ⟨by kernel_rfl⟩

def rmC (lv : Value) (J : Nat) (nv : Value) (m : Rm) : List Value := [lv, .int .i64 m.cores, .slice (some ⟨J, 0, none⟩) m.js.length m.js.length, .int .i64 m.slot, .int .i64 m.phase, nv, .int .i64 m.last]
/-- The model in memory, all but what is needed. -/
structure RmW (w : World) (M J : Nat) (lv nv : Value) (m : Rm) : Prop where
  hM : w.heap[M]? = some (.cells (rmC lv J nv m).toArray 85 (0, 0))
  hJ : w.heap[J]? = some (.cells (m.js.flatMap encRJ).toArray 119 (0, 0))
  hl : Rd encT 3 w lv m.l
/-- Bounds of the model's numbers. -/
structure RmI (m : Rm) (K : Int) : Prop where
  val : validT m.l = true
  n12 : m.l.length ≤ 12
  nj : m.js.length = m.l.length
  s0 : 0 ≤ m.slot
  s1 : m.slot ≤ 100001
  p0 : 1 ≤ m.phase
  p1 : m.phase ≤ 5
  c0 : 1 ≤ m.cores
  c1 : m.cores ≤ 4
  job : ∀ (i : Nat) (r : Rj), m.js[i]? = some r → 0 ≤ r.rel ∧ r.rel ≤ m.slot ∧ 0 ≤ r.runs ∧ r.runs ≤ K ∧ 0 ≤ r.cnt ∧ r.cnt ≤ K ∧ 0 ≤ r.slot ∧ r.slot ≤ m.slot ∧ 0 ≤ r.core ∧ r.core < m.cores
  need3 : m.phase = 3 → ∀ d ∈ m.need, 0 ≤ d.c ∧ d.c < m.cores
  k0 : 0 ≤ K
  k1 : K ≤ 1000000000000000
theorem RmI.tk {m : Rm} {K : Int} (h : RmI m K) {i : Nat} (hi : i < m.l.length) : okT m.l[i] = true := by
  have h1 := h.val
  simp only [validT, Bool.and_eq_true, List.all_eq_true] at h1
  exact h1.1 _ (List.getElem_mem hi)
theorem encRJ_len (j : Rj) : (encRJ j).length = 6 := rfl
theorem encRE_len (e : Re) : (encRE e).length = 6 := rfl
theorem encRE_one (e : Re) : ∀ u ∈ encRE e, u.oneCell' = true := by simp [encRE, Value.oneCell']
theorem flat_getG {α : Type} {enc : α → List Value} {k : Nat} (hk : ∀ x, (enc x).length = k) {l : List α} {i q : Nat} (hi : i < l.length) (hq : q < k) : (l.flatMap enc)[i * k + q]? = (enc l[i])[q]? := by
  have h := flat_at (enc := enc) hk l [] i hi
  rw [List.append_nil] at h
  rw [← h, List.getElem?_take]
  rw [if_pos hq, List.getElem?_drop]
theorem RmW.job {w : World} {M J : Nat} {lv nv : Value} {m : Rm} (h : RmW w M J lv nv m) {i : Nat} (hi : i < m.js.length) (q : Nat) (hq : q < 6) : w.cell? ⟨J, 0 + i * 6 + q, none⟩ = (encRJ m.js[i])[q]? := by
  have e := flat_getG encRJ_len hi hq
  rw [← e]
  simp [World.cell?, h.hJ]
theorem OS.rd {α : Type} {enc : α → List Value} {e k : Nat} {v : Value} {xs : List α} {Lx : List Blk} (hk : ∀ x, (enc x).length = k) (h : OS e k v (xs.flatMap enc) xs.length Lx) (hn : xs.length ≤ 140737488355328) {w0 we w : World} {Le L : List Blk} (hz : Z w0 we Le L w) (hs : ∀ x ∈ Lx, x ∈ L) : Rd enc k w v xs := by
  obtain ⟨A, c, rfl⟩ := OS.form h
  refine ⟨A, c, rfl, hn, hk, ?_⟩
  by_cases h0 : xs = []
  · exact .inl h0
  · have hpos : 0 < xs.length := List.length_pos_iff.2 h0
    obtain ⟨b, c', e1, _⟩ := OS.read hk h hpos
    injection e1 with e1
    refine .inr ⟨b, 0, e1, fun i hi j hj => ?_⟩
    obtain ⟨b', c', e2, h2⟩ := OS.read hk h hi
    injection e2 with e2
    rw [e1] at e2
    injection e2 with e2
    injection e2 with e2
    subst e2
    exact h2 _ _ w _ _ hz hs j hj
theorem OS.cap {e k m : Nat} {v : Value} {cs : List Value} {Lx : List Blk} (h : OS e k v cs m Lx) : ∀ A n c, v = .slice A n c → n ≤ c := fun A n c e => by
  obtain ⟨_, ⟨rfl, rfl, _⟩ | ⟨b, c', cur, rfl, _, h1, _⟩⟩ := h
  · cases e; exact Nat.le_refl _
  · cases e; exact h1
theorem rCandF_ok {m : Rm} {K : Int} (hI : RmI m K) {i : Nat} {x : Cd} (h : rCandF m i = some x) : okR x ∧ x.n = (i : Int) ∧ i < m.js.length := by
  unfold rCandF at h
  split at h
  · rename_i r t h1 h2
    split at h
    · rename_i hc
      obtain rfl := Option.some.inj h
      obtain ⟨hl, ht⟩ := List.getElem?_eq_some_iff.1 h2
      obtain ⟨b1, b2, b3, b4, _⟩ := hI.job i r h1
      have := hI.s1
      have hok := hI.tk hl
      rw [ht] at hok
      exact ⟨⟨hok, by show 1 ≤ r.runs + 1; omega, by show r.runs + 1 ≤ t.c; omega, by show _ ≤ r.rel; omega, by show r.rel ≤ _; omega⟩, rfl, (List.getElem?_eq_some_iff.1 h1).1⟩
    · cases h
  · cases h
theorem rCands_all {m : Rm} {K : Int} (hI : RmI m K) {n : Nat} : ∀ x ∈ upTo (rCandF m) n, okR x ∧ 0 ≤ x.n ∧ x.n.toNat < m.js.length := fun x hx => by
  obtain ⟨i, _, hi⟩ := mem_upTo.1 hx
  obtain ⟨h1, h2, h3⟩ := rCandF_ok hI hi
  exact ⟨h1, by omega, by omega⟩
theorem selR_mem : ∀ (n : Nat) (l : List Cd) {x : Cd}, x ∈ selR n l → x ∈ l
  | 0, l, x, h => absurd h (by simp [selR])
  | n + 1, l, x, h => by
    unfold selR at h
    split at h
    · rename_i y hy
      rcases List.mem_cons.1 h with rfl | h
      · exact List.mem_of_getElem? hy
      · exact (List.eraseIdx_sublist _ _).subset (selR_mem n _ h)
    · exact absurd h (List.not_mem_nil)
theorem selR_len : ∀ (n : Nat) (l : List Cd), (selR n l).length ≤ n
  | 0, l => by simp [selR]
  | n + 1, l => by
    unfold selR
    split
    · have := selR_len n (l.eraseIdx (best l (l.length - 1)))
      simp only [List.length_cons]; omega
    · simp
theorem chosen_ok {m : Rm} {K : Int} (hI : RmI m K) : ∀ x ∈ rChosen m, okR x ∧ 0 ≤ x.n ∧ x.n.toNat < m.js.length := fun x hx => rCands_all hI x (selR_mem _ _ hx)
theorem grid_len {α : Type} (f : Nat → Nat → Option α) (k : Nat) : ∀ n, (grid f n k).length ≤ n * k
  | 0 => by simp [grid]
  | n + 1 => by
    have := grid_len f k n
    have h2 := upTo_len (f n) k
    rw [grid_succ, List.length_append, Nat.add_mul, Nat.one_mul]; omega
theorem os_row {α : Type} {enc : α → List Value} {t k : Nat} {v : Value} {f : Nat → Nat → Option α} {c n i : Nat} {L : List Blk} (h : OS t k v ((grid f c n ++ upTo (f c) i).flatMap enc) (grid f c n ++ upTo (f c) i).length L) (e : i = n) : OS t k v ((grid f (c + 1) n).flatMap enc) (grid f (c + 1) n).length L := by
  subst e; rw [grid_succ]; exact h
theorem grid_bd {α : Type} (f : Nat → Nat → Option α) {n k : Nat} (hn : n ≤ 4) (hk : k ≤ 12) : (grid f n k).length ≤ 48 := Nat.le_trans (grid_len f k n) (Nat.le_trans (Nat.mul_le_mul hn hk) (by decide))
theorem was_lt {m : Rm} {K : Int} (hI : RmI m K) : ∀ b ∈ (rChosen m).map (wasF m), b < (m.cores.toNat : Int) := fun b hb => by
  obtain ⟨x, _, rfl⟩ := List.mem_map.1 hb
  have := hI.c0
  unfold wasF
  split
  · rename_i j hj
    obtain ⟨_, _, _, _, _, _, _, _, b9, b10⟩ := hI.job _ j hj
    split
    · omega
    · omega
  · omega

theorem required_calls (w : World) (M J : Nat) (lv nv : Value) (m : Rm) (K : Int) (hW : RmW w M J lv nv m) (hI : RmI m K) : Calls Try.prog 53 #[.pointer (some ⟨M, 0, none⟩)] w fun e w' => ∃ v L', e = .returned v ∧ Z w w [] L' w' ∧ OS 82 6 v ((rReq m).flatMap encRE) (rReq m).length L' := by
  have hnj := hI.nj
  have h12 := hI.n12
  obtain ⟨q1, q2, q3, q4, q5, q6⟩ := And.intro hI.s0 (And.intro hI.s1 (And.intro hI.c0 (And.intro hI.c1 (And.intro hI.k0 hI.k1))))
  obtain ⟨lA, lc, rfl⟩ : ∃ A c, lv = .slice A m.l.length c := by obtain ⟨A, c, h, _⟩ := hW.hl; exact ⟨A, c, h⟩
  refine enter (args := [_]) Try.func53 rfl rfl rfl (C := Z w w [] []) (Z.start (H.nil w)) ?_
  refine .seq (.reg (.q (.assign rfl) (.nil (.code ?_))))
  refine .seq (.reg (.q (.assign rfl) (.nil (.code ?_))))
  refine .seq (.seq (.reg (.q (.move rfl) (.q (.nilP rfl) (.q (.fld f85_4 rfl) (.q (.ldW o3 rfl (cellOf hW.hM rfl)) (.nil (.code ?_))))))))
  refine .block (.seq (.reg (.eqS rfl rfl (fun h28 => ?_) (fun h28 => ?_))))
  · refine .q (.assign rfl) (.nil (.code ?_))
    refine .tt (.seq (.reg (.q (.assign rfl) (.nil (.code ?_)))))
    refine .block (.lp (fun s : Nat × Value × List Blk => [(0, .pointer (some ⟨M, 0, none⟩)), (3, s.2.1), (4, .int .i64 (s.1 : Int))]) (fun s => s.2.2) (fun s => s.1 ≤ m.l.length ∧ OS 82 6 s.2.1 ((upTo (rLateF m) s.1).flatMap encRE) (upTo (rLateF m) s.1).length s.2.2) (fun s => m.l.length - s.1) (0, .slice none 0 0, []) ⟨rfl, rfl, rfl, trivial⟩ (fun _ h => h) ⟨Nat.zero_le _, OS.nil _ _⟩ fun ⟨i, v, Lx⟩ hk => ?_)
    obtain ⟨hk1, hk2⟩ := hk
    simp only at hk1 hk2
    have hul := upTo_len (rLateF m) i
    show WC _ _ _ _ (Z w w _ Lx) _
    refine .seq (.seq (.reg (.q (.move rfl) (.q (.move rfl) (.q (.nilP rfl) (.q (.fld f85_0 rfl) (.q (.ldW o30 rfl (cellOf hW.hM rfl)) (.q (.lenS s30.t rfl) (.ltS rfl rfl (fun h35 => ?_) (fun h35 => ?_))))))))))
    · have hij : i < m.js.length := by omega
      have hil : i < m.l.length := by omega
      obtain ⟨b1, b2, b3, b4, b5', b6, b7, b8', b9, b10⟩ := hI.job i _ (List.getElem?_eq_getElem hij)
      have hok := hI.tk hil
      obtain ⟨k1, k2, k3⟩ := okT_bd hok
      obtain ⟨lb, loff, lc2, he, hlc⟩ := Rd.at hW.hl hil
      cases he
      refine .nil (.code ?_)
      refine .tt (.skip (.code ?_))
      refine .seq (.block (.seq (.reg (.q (.move rfl) (.q (.nilP rfl) (.q (.fld f85_2 rfl) (.q (.ldW o83 rfl (cellOf hW.hM rfl)) (.q (.move rfl) (.q (.ix s83 rfl rfl (by omega)) (.q (.ldWA a119 (cs := encRJ m.js[i]) rfl rfl fun j hj => hW.job hij j hj) (.alloc z119 fun b5 => .stA a119 0 rfl rfl rfl rfl rfl rfl (.nil (.code ?_)))))))))))))
      refine .seq (.draw mix (by kernel_rfl) (fun _ h => h.drew) (.q (.fld f119_5 rfl) (?_)))
      rcases hact : m.js[i].act with _ | _
      · have hx : rLateF m i = none := by unfold rLateF; rw [List.getElem?_eq_getElem hij, List.getElem?_eq_getElem hil]; simp only; exact if_neg (by rw [hact]; exact fun e => absurd e.1 (by decide))
        refine .q (.ldO (v := .bool false) o4 0 rfl rfl (show some (Value.bool m.js[i].act) = some (.bool false) by rw [hact])) (.q (.move rfl) (.skip (.skip (.skip (.skip (.skip (.skip (.skip (.skip (.skip (.skip (.skip (.skip (.skip (.skip (.skip (.skip (.q (.pickF rfl rfl) (.nil (.code ?_))))))))))))))))))))
        refine .ff (.skip (.inbN (.code ?_)))
        refine .reg (.q (.move rfl) (.q (.add rfl rfl (IntWalk.i64_in _ (by omega))) (.q (.assign rfl) (.nil (.rd (i + 1, v, Lx) ⟨rfl, rfl, rfl, trivial⟩ (fun _ h => drp h) ⟨by simp only; omega, by rw [show upTo (rLateF m) (i + 1) = upTo (rLateF m) i from upTo_no hx]; exact hk2⟩ (by simp only; omega))))))
      · refine .q (.ldO (v := .bool true) o4 0 rfl rfl (show some (Value.bool m.js[i].act) = some (.bool true) by rw [hact])) (.q (.move rfl) (.q (.fld f119_1 rfl) (.q (.ldO o3 0 rfl rfl rfl) (.q (.move rfl) (.q (.nilP rfl) (.q (.fld f85_0 rfl) (.q (.ldW o30 rfl (cellOf hW.hM rfl)) (.q (.move rfl) (.q (.ix s30 rfl rfl (by omega)) (.q (.fld f87_2 rfl) (.q (.ldW o3 rfl (hlc 2 (by omega))) (.q (.add rfl rfl (IntWalk.i64_in _ (by omega))) (.q (.move rfl) (.q (.nilP rfl) (.q (.fld f85_3 rfl) (.q (.ldW o3 rfl (cellOf hW.hM rfl)) (.leS rfl rfl (fun h63 => ?_) (fun h63 => ?_))))))))))))))))))
        · have hx : rLateF m i = some ⟨m.slot, -1, (i : Int), m.js[i].cnt - 1, 6, m.js[i].runs⟩ := by unfold rLateF; rw [List.getElem?_eq_getElem hij, List.getElem?_eq_getElem hil]; simp only; exact if_pos (⟨hact, by omega⟩)
          refine .q (.pickT rfl rfl) (.nil (.code ?_))
          refine .tt (.drawS (F := Z w w [] [(b5, .cells (encRJ m.js[i]).toArray 119 (0, 0))]) mix [] [] [0, 1, 2, 3, 4, 5, 6, 7, 8, 9, 10, 11] (.one 12 (.one 13 (.one 14 .nil))) (by kernel_rfl) (fun _ h => h.drew) (fun _ h => h.sublist (.cons_cons _ (List.nil_sublist _))) (.toS (.q (.move rfl) (.q (.move rfl) (.q (.nilP rfl) (.q (.fld f85_3 rfl) (.q (.ldW o3 rfl (cellOf hW.hM rfl)) (.q (.move rfl) (.q (.fld f119_0 rfl) (.q (.ldO o3 0 rfl rfl rfl) (.q (.sub rfl rfl (IntWalk.i64_in _ (by omega))) (.q (.fld f119_2 rfl) (.q (.ldO o3 0 rfl rfl rfl) (.q (.build st82 rfl rfl) (.toT (.step rfl (.bslice s32 rfl rfl rfl fun b77 => .nil (.tk (fun _ h => h.sublist (.cons _ (.cons_cons _ (List.nil_sublist _)))) (.step rfl (.app1 s32 (by omega) (by omega) rfl rfl hk2 (pkC (pkN _)) (by rfl) (encRE_one ⟨m.slot, -1, (i : Int), m.js[i].cnt - 1, 6, m.js[i].runs⟩) (by omega) fun v78 L78 o78 => (.nil (.tk (fun _ h => h.sublist ((List.Sublist.cons_cons _ (List.nil_sublist _)).trans (List.sublist_append_right _ _))) (.step rfl (.q (.assign rfl) (.nil (.tk (fun _ h => h.sublist ((List.Sublist.cons_cons _ (List.nil_sublist _)).trans (List.sublist_append_right _ _))) (.nil (.inbN (.code ?_)))))))))))))))))))))))))))))
          refine .reg (.q (.move rfl) (.q (.add rfl rfl (IntWalk.i64_in _ (by omega))) (.q (.assign rfl) (.nil (.rd (i + 1, v78, L78) ⟨rfl, rfl, rfl, trivial⟩ (fun _ h => h.sublist (List.sublist_append_left _ _)) ⟨by simp only; omega, by rw [show upTo (rLateF m) (i + 1) = upTo (rLateF m) i ++ [_] from upTo_yes hx]; exact OS.snoc o78⟩ (by simp only; omega))))))
        · have hx : rLateF m i = none := by unfold rLateF; rw [List.getElem?_eq_getElem hij, List.getElem?_eq_getElem hil]; simp only; exact if_neg (by omega)
          refine .q (.pickT rfl rfl) (.nil (.code ?_))
          refine .ff (.skip (.inbN (.code ?_)))
          refine .reg (.q (.move rfl) (.q (.add rfl rfl (IntWalk.i64_in _ (by omega))) (.q (.assign rfl) (.nil (.rd (i + 1, v, Lx) ⟨rfl, rfl, rfl, trivial⟩ (fun _ h => drp h) ⟨by simp only; omega, by rw [show upTo (rLateF m) (i + 1) = upTo (rLateF m) i from upTo_no hx]; exact hk2⟩ (by simp only; omega))))))
    · refine .nil (.code ?_)
      refine .ff (.exit (.thE (.thE (.inbX (.inbN (.code ?_))))))
      refine .seq (.reg (.q (.move rfl) (.q (.assign rfl) (.nil (.code ?_)))))
      refine .ret (.ret1 Try.results53 rfl fun w1 hz => ⟨_, _, rfl, hz, by rw [rReq, if_pos h28, rLate, show m.l.length = i by omega]; exact hk2⟩)
  · refine .q (.assign rfl) (.nil (.code ?_))
    refine .ff (.seq (.reg (.eqS rfl rfl (fun h80 => ?_) (fun h80 => ?_))))
    · refine .q (.assign rfl) (.nil (.code ?_))
      refine .tt (.seq (.reg (.q (.assign rfl) (.nil (.code ?_)))))
      refine .seq (.seq (.reg (.q (.assign rfl) (.nil (.code ?_)))))
      refine .block (.lp (fun s : Nat × Value × List Blk => [(0, .pointer (some ⟨M, 0, none⟩)), (3, .slice none 0 0), (6, s.2.1), (7, .int .i64 (s.1 : Int))]) (fun s => s.2.2) (fun s => s.1 ≤ m.l.length ∧ OS 139 5 s.2.1 ((upTo (rCandF m) s.1).flatMap encRC) (upTo (rCandF m) s.1).length s.2.2) (fun s => m.l.length - s.1) (0, .slice none 0 0, []) ⟨rfl, rfl, rfl, rfl, trivial⟩ (fun _ h => h) ⟨Nat.zero_le _, OS.nil _ _⟩ fun ⟨i, v, Lx⟩ hk => ?_)
      obtain ⟨hk1, hk2⟩ := hk
      simp only at hk1 hk2
      have hul := upTo_len (rCandF m) i
      show WC _ _ _ _ (Z w w _ Lx) _
      refine .seq (.seq (.reg (.q (.move rfl) (.q (.move rfl) (.q (.nilP rfl) (.q (.fld f85_0 rfl) (.q (.ldW o30 rfl (cellOf hW.hM rfl)) (.q (.lenS s30.t rfl) (.ltS rfl rfl (fun h87 => ?_) (fun h87 => ?_))))))))))
      · have hij : i < m.js.length := by omega
        have hil : i < m.l.length := by omega
        obtain ⟨b1, b2, b3, b4, b5', b6, b7, b8', b9, b10⟩ := hI.job i _ (List.getElem?_eq_getElem hij)
        have hok := hI.tk hil
        obtain ⟨k1, k2, k3⟩ := okT_bd hok
        obtain ⟨lb, loff, lc2, he, hlc⟩ := Rd.at hW.hl hil
        cases he
        refine .nil (.code ?_)
        refine .tt (.skip (.code ?_))
        refine .seq (.block (.seq (.reg (.q (.move rfl) (.q (.nilP rfl) (.q (.fld f85_2 rfl) (.q (.ldW o83 rfl (cellOf hW.hM rfl)) (.q (.move rfl) (.q (.ix s83 rfl rfl (by omega)) (.q (.ldWA a119 (cs := encRJ m.js[i]) rfl rfl fun j hj => hW.job hij j hj) (.alloc z119 fun b8 => .stA a119 0 rfl rfl rfl rfl rfl rfl (.nil (.code ?_)))))))))))))
        refine .seq (.seq (.draw mix (by kernel_rfl) (fun _ h => h.drew) (.q (.fld f119_5 rfl) (?_))))
        rcases hact : m.js[i].act with _ | _
        · have hx : rCandF m i = none := by unfold rCandF; rw [List.getElem?_eq_getElem hij, List.getElem?_eq_getElem hil]; simp only; exact if_neg (by rw [hact]; exact fun e => absurd e.1 (by decide))
          refine .q (.ldO (v := .bool false) o4 0 rfl rfl (show some (Value.bool m.js[i].act) = some (.bool false) by rw [hact])) (.q (.notB rfl) (.q (.move rfl) (.skip (.skip (.skip (.skip (.skip (.skip (.skip (.skip (.skip (.skip (.skip (.q (.pickT rfl rfl) (.nil (.code ?_))))))))))))))))
          refine .tt (.exit (.thE (.inbX (.code ?_))))
          refine .reg (.q (.move rfl) (.q (.add rfl rfl (IntWalk.i64_in _ (by omega))) (.q (.assign rfl) (.nil (.rd (i + 1, v, Lx) ⟨rfl, rfl, rfl, rfl, trivial⟩ (fun _ h => drp h) ⟨by simp only; omega, by rw [show upTo (rCandF m) (i + 1) = upTo (rCandF m) i from upTo_no hx]; exact hk2⟩ (by simp only; omega))))))
        · refine .q (.ldO (v := .bool true) o4 0 rfl rfl (show some (Value.bool m.js[i].act) = some (.bool true) by rw [hact])) (.q (.notB rfl) (.q (.move rfl) (.q (.fld f119_2 rfl) (.q (.ldO o3 0 rfl rfl rfl) (.q (.move rfl) (.q (.nilP rfl) (.q (.fld f85_0 rfl) (.q (.ldW o30 rfl (cellOf hW.hM rfl)) (.q (.move rfl) (.q (.ix s30 rfl rfl (by omega)) (.q (.fld f87_1 rfl) (.q (.ldW o3 rfl (hlc 1 (by omega))) (.geS rfl rfl (fun h111 => ?_) (fun h111 => ?_))))))))))))))
          · have hx : rCandF m i = none := by unfold rCandF; rw [List.getElem?_eq_getElem hij, List.getElem?_eq_getElem hil]; simp only; exact if_neg (fun e => by have := e.2.1; omega)
            refine .q (.pickF rfl rfl) (.nil (.code ?_))
            refine .tt (.exit (.thE (.inbX (.code ?_))))
            refine .reg (.q (.move rfl) (.q (.add rfl rfl (IntWalk.i64_in _ (by omega))) (.q (.assign rfl) (.nil (.rd (i + 1, v, Lx) ⟨rfl, rfl, rfl, rfl, trivial⟩ (fun _ h => drp h) ⟨by simp only; omega, by rw [show upTo (rCandF m) (i + 1) = upTo (rCandF m) i from upTo_no hx]; exact hk2⟩ (by simp only; omega))))))
          · have hw0 := window_bd m.l[i] (m.js[i].runs + 1)
            rw [window_in (winE0.2 ⟨hok, (by omega), (by omega)⟩)] at hw0
            obtain ⟨w1, w2, w3, w4⟩ := hw0
            simp only at w1 w2 w3 w4
            refine .q (.pickF rfl rfl) (.nil (.code ?_))
            refine .ff (.skip (.code ?_))
            refine .seq (.draw mix (by kernel_rfl) (fun _ h => h.drew) (.q (.move rfl) (.q (.nilP rfl) (.q (.fld f85_0 rfl) (.q (.ldW o30 rfl (cellOf hW.hM rfl)) (.q (.move rfl) (.q (.ix s30 rfl rfl (by omega)) (.q (.fld f87_1 rfl) (.q (.ldW o3 rfl (hlc 1 (by omega))) (.q (.move rfl) (.q (.nilP rfl) (.q (.fld f85_0 rfl) (.q (.ldW o30 rfl (cellOf hW.hM rfl)) (.q (.move rfl) (.q (.ix s30 rfl rfl (by omega)) (.q (.fld f87_2 rfl) (.q (.ldW o3 rfl (hlc 2 (by omega))) (.q (.fld f119_2 rfl) (.q (.ldO o3 0 rfl rfl rfl) (.q (.add rfl rfl (IntWalk.i64_in _ (by omega))) (.q (.call fn73 rfl (fun w hz => rwin_calls w m.l[i] (m.js[i].runs + 1) hok (by omega) (by omega))) (.q (.move rfl) (.q (.ext rfl rfl) (.q (.ext rfl rfl) (.q (.assign rfl) (.q (.assign rfl) (.nil (.code ?_))))))))))))))))))))))))))))
            refine .seq (.draw mix (by kernel_rfl) (fun _ h => h.drew) (.q (.move rfl) (.q (.nilP rfl) (.q (.fld f85_3 rfl) (.q (.ldW o3 rfl (cellOf hW.hM rfl)) (.q (.fld f119_1 rfl) (.q (.ldO o3 0 rfl rfl rfl) (.q (.move rfl) (.q (.add rfl rfl (IntWalk.i64_in _ (by omega))) (.geS rfl rfl (fun h144 => ?_) (fun h144 => ?_)))))))))))
            · have hx : rCandF m i = some ⟨(i : Int), m.l[i], m.js[i].rel, m.js[i].runs + 1⟩ := by unfold rCandF; rw [List.getElem?_eq_getElem hij, List.getElem?_eq_getElem hil]; simp only; exact if_pos (⟨hact, by omega, by omega⟩)
              refine .nil (.code ?_)
              refine .tt (.drawS (F := Z w w [] [(b8, .cells (encRJ m.js[i]).toArray 119 (0, 0))]) mix [] [] [0, 1, 2, 3, 4, 5, 6, 7, 8, 9, 10, 11, 12, 13, 14, 15, 16, 17, 18, 19, 20, 21, 22, 23] (.one 24 (.one 25 (.one 26 .nil))) (by kernel_rfl) (fun _ h => h.drew) (fun _ h => h.sublist (.cons_cons _ (List.nil_sublist _))) (.toS (.q (.move rfl) (.q (.move rfl) (.q (.move rfl) (.q (.nilP rfl) (.q (.fld f85_0 rfl) (.q (.ldW o30 rfl (cellOf hW.hM rfl)) (.q (.move rfl) (.q (.ix s30 rfl rfl (by omega)) (.q (.fld f87_1 rfl) (.q (.ldW o3 rfl (hlc 1 (by omega))) (.q (.move rfl) (.q (.nilP rfl) (.q (.fld f85_0 rfl) (.q (.ldW o30 rfl (cellOf hW.hM rfl)) (.q (.move rfl) (.q (.ix s30 rfl rfl (by omega)) (.q (.fld f87_2 rfl) (.q (.ldW o3 rfl (hlc 2 (by omega))) (.q (.fld f119_1 rfl) (.q (.ldO o3 0 rfl rfl rfl) (.q (.fld f119_2 rfl) (.q (.ldO o3 0 rfl rfl rfl) (.q (.add rfl rfl (IntWalk.i64_in _ (by omega))) (.q (.build st139 rfl rfl) (.toT (.step rfl (.bslice s136 rfl rfl rfl fun b169 => .nil (.tk (fun _ h => h.sublist (.cons _ (.cons_cons _ (List.nil_sublist _)))) (.step rfl (.app1 s136 (by omega) (by omega) rfl rfl hk2 (pkC (pkN _)) (by rfl) (encRC_one ⟨(i : Int), m.l[i], m.js[i].rel, m.js[i].runs + 1⟩) (by omega) fun v170 L170 o170 => (.nil (.tk (fun _ h => h.sublist ((List.Sublist.cons_cons _ (List.nil_sublist _)).trans (List.sublist_append_right _ _))) (.step rfl (.q (.assign rfl) (.nil (.tk (fun _ h => h.sublist ((List.Sublist.cons_cons _ (List.nil_sublist _)).trans (List.sublist_append_right _ _))) (.nil (.inbN (.code ?_)))))))))))))))))))))))))))))))))))))))))
              refine .reg (.q (.move rfl) (.q (.add rfl rfl (IntWalk.i64_in _ (by omega))) (.q (.assign rfl) (.nil (.rd (i + 1, v170, L170) ⟨rfl, rfl, rfl, rfl, trivial⟩ (fun _ h => h.sublist (List.sublist_append_left _ _)) ⟨by simp only; omega, by rw [show upTo (rCandF m) (i + 1) = upTo (rCandF m) i ++ [_] from upTo_yes hx]; exact OS.snoc o170⟩ (by simp only; omega))))))
            · have hx : rCandF m i = none := by unfold rCandF; rw [List.getElem?_eq_getElem hij, List.getElem?_eq_getElem hil]; simp only; exact if_neg (fun e => by have := e.2.2; omega)
              refine .nil (.code ?_)
              refine .ff (.skip (.inbN (.code ?_)))
              refine .reg (.q (.move rfl) (.q (.add rfl rfl (IntWalk.i64_in _ (by omega))) (.q (.assign rfl) (.nil (.rd (i + 1, v, Lx) ⟨rfl, rfl, rfl, rfl, trivial⟩ (fun _ h => drp h) ⟨by simp only; omega, by rw [show upTo (rCandF m) (i + 1) = upTo (rCandF m) i from upTo_no hx]; exact hk2⟩ (by simp only; omega))))))
      · have hc : upTo (rCandF m) i = rCands m := by rw [rCands, show m.l.length = i by omega]
        rw [hc] at hk2
        have hul2 : (rCands m).length ≤ m.l.length := upTo_len _ _
        refine .nil (.code ?_)
        refine .ff (.exit (.thE (.thE (.inbX (.code ?_)))))
        refine .seq (.reg (.q (.move rfl) (.q (.move rfl) (.q (.nilP rfl) (.q (.fld f85_1 rfl) (.q (.ldW (v := .int .i64 ((m.cores.toNat : Nat) : Int)) o3 rfl (by rw [Int.toNat_of_nonneg (by omega)]; exact cellOf hW.hM rfl)) (.callA fn74 rfl (fun w hz => select_calls w v (rCands m) m.cores.toNat (RL.of (OS.rd encRC_len hk2 (by omega) hz (fun x hx => hx)) (OS.cap hk2)) (by omega) (by omega) (fun x hx => (rCands_all hI x hx).1)) fun v176 L176 p176 => ?_)))))))
        change OS 139 5 v176 ((rChosen m).flatMap encRC) (rChosen m).length L176 at p176
        obtain ⟨cA, cc, rfl⟩ := OS.form p176
        have hcl : (rChosen m).length ≤ m.cores.toNat := selR_len _ _
        refine .q (.assign rfl) (.nil (.code ?_))
        refine .seq (.reg (.q (.assign rfl) (.nil (.code ?_))))
        refine .seq (.seq (.reg (.q (.assign rfl) (.nil (.code ?_)))))
        refine .block (.lp (fun s : Nat × Value × List Blk => [(0, .pointer (some ⟨M, 0, none⟩)), (3, .slice none 0 0), (11, .slice cA (rChosen m).length cc), (12, s.2.1), (13, .int .i64 (s.1 : Int))]) (fun s => s.2.2 ++ L176) (fun s => s.1 ≤ (rChosen m).length ∧ OS 3 1 s.2.1 ((((rChosen m).take s.1).map (wasF m)).flatMap enI) (((rChosen m).take s.1).map (wasF m)).length s.2.2) (fun s => (rChosen m).length - s.1) (0, .slice none 0 0, []) ⟨rfl, rfl, rfl, rfl, rfl, trivial⟩ (fun _ h => h.sublist (List.sublist_append_left _ _)) ⟨Nat.zero_le _, OS.nil _ _⟩ fun ⟨i3, v3, Ly⟩ hy => ?_)
        obtain ⟨hy1, hy2⟩ := hy
        simp only at hy1 hy2
        show WC _ _ _ _ (Z w w _ (Ly ++ L176)) _
        refine .seq (.seq (.reg (.q (.move rfl) (.q (.move rfl) (.q (.lenS s136.t rfl) (.ltS rfl rfl (fun h180 => ?_) (fun h180 => ?_)))))))
        · have hi3 : i3 < (rChosen m).length := by omega
          obtain ⟨cb, cc2, hce, hcr⟩ := OS.read encRC_len p176 hi3
          cases hce
          obtain ⟨-, hn0, hn1⟩ := chosen_ok hI _ (List.getElem_mem hi3)
          have hjn := List.getElem?_eq_getElem hn1
          obtain ⟨d1, d2, d3, d4, d5, d6, d7, d8, d9, d10⟩ := hI.job _ _ hjn
          refine .nil (.code ?_)
          refine .tt (.skip (.code ?_))
          refine .seq (.block (.seq (.drawS (F := Z w w [] L176) mix [] [] [0, 1, 2, 3, 4, 5, 6, 7, 8, 9, 10] (.one 11 (.one 12 .nil)) (by kernel_rfl) (fun _ h => h.drew) (fun _ h => h.sublist (List.sublist_append_right _ _)) (.toS (.q (.move rfl) (.q (.nilP rfl) (.q (.fld f85_2 rfl) (.q (.ldW o83 rfl (cellOf hW.hM rfl)) (.q (.move rfl) (.q (.move rfl) (.q (.ix s136 rfl rfl (by omega)) (.q (.fld f139_0 rfl) (.q (.ld (v := .int .i64 (((rChosen m)[i3].n.toNat : Nat) : Int)) o3 rfl (fun w1 hz => by rw [Int.toNat_of_nonneg hn0]; exact hcr _ _ w1 _ _ hz (fun x hx => hx) 0 (by omega))) (.q (.ix s83 rfl rfl (by omega)) (.q (.ldWA (cs := encRJ m.js[(rChosen m)[i3].n.toNat]) a119 rfl rfl fun j hj => hW.job hn1 j hj) (.toT (.step rfl (.alloc z119 fun b14 => .nil (.tk (fun _ h => h.sublist (List.Sublist.cons _ (List.sublist_append_right _ _))) (.step rfl (.stA a119 0 rfl rfl rfl rfl rfl rfl (.nil (.tk (fun _ h => h.sublist (List.Sublist.cons _ (List.sublist_append_right _ _))) (.nil (.code ?_)))))))))))))))))))))))))
          refine .seq (.reg (.q (.assign rfl) (.nil (.code ?_))))
          refine .seq (.seq (.draw mix (by kernel_rfl) (fun _ h => h.drew) (.q (.fld f119_2 rfl) (.q (.ldO o3 0 rfl rfl rfl) (.gtS rfl rfl (fun h196 => ?_) (fun h196 => ?_))))))
          · refine .q (.move rfl) (.q (.fld f119_3 rfl) (.q (.ldO o3 0 rfl rfl rfl) (.q (.move rfl) (.q (.nilP rfl) (.q (.fld f85_3 rfl) (.q (.ldW o3 rfl (cellOf hW.hM rfl)) (.q (.sub rfl rfl (IntWalk.i64_in _ (by omega))) (.eqS rfl rfl (fun h205 => ?_) (fun h205 => ?_)))))))))
            · have hwas : wasF m (rChosen m)[i3] = m.js[(rChosen m)[i3].n.toNat].core := by unfold wasF; rw [hjn]; exact if_pos ⟨by omega, by omega⟩
              refine .q (.pickT rfl rfl) (.nil (.code ?_))
              refine .tt (.reg (.q (.fld f119_4 rfl) (.q (.ldO o3 0 rfl rfl rfl) (.q (.assign rfl) (.nil (.code ?_))))))
              refine .reg (.q (.move rfl) (.q (.move rfl) (.bslice s37 rfl rfl rfl fun b211 => .app1 s37 (by omega) (by omega) rfl rfl hy2 (pkC (.refl _)) (by rfl) (show ∀ u ∈ [Value.int .i64 (m.js[(rChosen m)[i3].n.toNat].core)], u.oneCell' = true by simp [Value.oneCell']) (by simp; omega) fun v212 L212 o212 => (.q (.assign rfl) (.nil (.inbN (.code ?_)))))))
              refine .reg (.q (.move rfl) (.q (.add rfl rfl (IntWalk.i64_in _ (by omega))) (.q (.assign rfl) (.nil (.rd (i3 + 1, v212, L212) ⟨rfl, rfl, rfl, rfl, rfl, trivial⟩ (fun _ h => h.sublist (List.Sublist.append (List.Sublist.refl _) (List.sublist_cons_self _ _))) ⟨by simp only; omega, by simp only; rw [List.take_succ_eq_append_getElem hi3, List.map_append, List.map_singleton, hwas]; exact OS.snoc o212⟩ (by simp only; omega))))))
            · have hwas : wasF m (rChosen m)[i3] = -1 := by unfold wasF; rw [hjn]; exact if_neg (by omega)
              refine .q (.pickT rfl rfl) (.nil (.code ?_))
              refine .ff (.skip (.code ?_))
              refine .reg (.q (.move rfl) (.q (.move rfl) (.bslice s37 rfl rfl rfl fun b211 => .app1 s37 (by omega) (by omega) rfl rfl hy2 (pkC (.refl _)) (by rfl) (show ∀ u ∈ [Value.int .i64 (-1)], u.oneCell' = true by simp [Value.oneCell']) (by simp; omega) fun v212 L212 o212 => (.q (.assign rfl) (.nil (.inbN (.code ?_)))))))
              refine .reg (.q (.move rfl) (.q (.add rfl rfl (IntWalk.i64_in _ (by omega))) (.q (.assign rfl) (.nil (.rd (i3 + 1, v212, L212) ⟨rfl, rfl, rfl, rfl, rfl, trivial⟩ (fun _ h => h.sublist (List.Sublist.append (List.Sublist.refl _) (List.sublist_cons_self _ _))) ⟨by simp only; omega, by simp only; rw [List.take_succ_eq_append_getElem hi3, List.map_append, List.map_singleton, hwas]; exact OS.snoc o212⟩ (by simp only; omega))))))
          · have hwas : wasF m (rChosen m)[i3] = -1 := by unfold wasF; rw [hjn]; exact if_neg (by omega)
            refine .q (.move rfl) (.skip (.skip (.skip (.skip (.skip (.skip (.skip (.skip (.q (.pickF rfl rfl) (.nil (.code ?_)))))))))))
            refine .ff (.skip (.code ?_))
            refine .reg (.q (.move rfl) (.q (.move rfl) (.bslice s37 rfl rfl rfl fun b211 => .app1 s37 (by omega) (by omega) rfl rfl hy2 (pkC (.refl _)) (by rfl) (show ∀ u ∈ [Value.int .i64 (-1)], u.oneCell' = true by simp [Value.oneCell']) (by simp; omega) fun v212 L212 o212 => (.q (.assign rfl) (.nil (.inbN (.code ?_)))))))
            refine .reg (.q (.move rfl) (.q (.add rfl rfl (IntWalk.i64_in _ (by omega))) (.q (.assign rfl) (.nil (.rd (i3 + 1, v212, L212) ⟨rfl, rfl, rfl, rfl, rfl, trivial⟩ (fun _ h => h.sublist (List.Sublist.append (List.Sublist.refl _) (List.sublist_cons_self _ _))) ⟨by simp only; omega, by simp only; rw [List.take_succ_eq_append_getElem hi3, List.map_append, List.map_singleton, hwas]; exact OS.snoc o212⟩ (by simp only; omega))))))
        · have hb3 : ((rChosen m).take i3).map (wasF m) = (rChosen m).map (wasF m) := by rw [List.take_of_length_le (by omega)]
          rw [hb3] at hy2
          refine .nil (.code ?_)
          refine .ff (.exit (.thE (.thE (.inbX (.code ?_)))))
          refine .seq (.reg (.q (.move rfl) (.q (.move rfl) (.q (.nilP rfl) (.q (.fld f85_1 rfl) (.q (.ldW (v := .int .i64 ((m.cores.toNat : Nat) : Int)) o3 rfl (by rw [Int.toNat_of_nonneg (by omega)]; exact cellOf hW.hM rfl)) (.callA fn75 rfl (fun w hz => rcores_calls w v3 ((rChosen m).map (wasF m)) m.cores.toNat (OS.rd (enc := enI) (xs := (rChosen m).map (wasF m)) (fun _ => rfl) hy2 (by rw [List.length_map]; omega) hz (fun x hx => List.mem_append_left _ hx)) (by omega) (by rw [List.length_map]; omega) (was_lt hI)) fun v218 L218 p218 => ?_)))))))
          obtain ⟨qb, rfl, rfl, hql⟩ := p218
          change (rCores m).length = ((rChosen m).map (wasF m)).length at hql
          rw [List.length_map] at hql
          refine .q (.assign rfl) (.nil (.code ?_))
          refine .seq (.reg (.q (.assign rfl) (.nil (.code ?_))))
          refine .block (.lp (fun s : Nat × Value × List Blk => [(0, .pointer (some ⟨M, 0, none⟩)), (3, s.2.1), (11, .slice cA (rChosen m).length cc), (16, .slice (some ⟨qb, 0, none⟩) ((rChosen m).map (wasF m)).length ((rChosen m).map (wasF m)).length), (17, .int .i64 (s.1 : Int))]) (fun s => s.2.2 ++ ((qb, .cells ((rCores m).map intV).toArray 3 (0, 0)) :: L176)) (fun s => s.1 ≤ m.cores.toNat ∧ OS 82 6 s.2.1 ((grid (rDispF m (rChosen m) (rCores m)) s.1 (rChosen m).length).flatMap encRE) (grid (rDispF m (rChosen m) (rCores m)) s.1 (rChosen m).length).length s.2.2) (fun s => m.cores.toNat - s.1) (0, .slice none 0 0, []) ⟨rfl, rfl, rfl, rfl, rfl, trivial⟩ (fun _ h => h.sublist (List.Sublist.cons_cons _ (List.sublist_append_right _ _))) ⟨Nat.zero_le _, OS.nil _ _⟩ fun ⟨c, v4, Lz⟩ hg => ?_)
          obtain ⟨hg1, hg2⟩ := hg
          simp only at hg1 hg2
          show WC _ _ _ _ (Z w w _ (Lz ++ ((qb, .cells ((rCores m).map intV).toArray 3 (0, 0)) :: L176))) _
          refine .seq (.seq (.reg (.q (.move rfl) (.q (.move rfl) (.q (.nilP rfl) (.q (.fld f85_1 rfl) (.q (.ldW o3 rfl (cellOf hW.hM rfl)) (.ltS rfl rfl (fun h224 => ?_) (fun h224 => ?_)))))))))
          · have hc4 : c < 4 := by omega
            have hcc : c < m.cores.toNat := by omega
            refine .nil (.code ?_)
            refine .tt (.skip (.code ?_))
            refine .seq (.block (.seq (.reg (.q (.assign rfl) (.nil (.code ?_))))))
            refine .block (.lp (fun s : Nat × Value × List Blk => [(0, .pointer (some ⟨M, 0, none⟩)), (3, s.2.1), (11, .slice cA (rChosen m).length cc), (16, .slice (some ⟨qb, 0, none⟩) ((rChosen m).map (wasF m)).length ((rChosen m).map (wasF m)).length), (17, .int .i64 (c : Int)), (18, .int .i64 (s.1 : Int))]) (fun s => s.2.2 ++ ((qb, .cells ((rCores m).map intV).toArray 3 (0, 0)) :: L176)) (fun s => s.1 ≤ (rChosen m).length ∧ OS 82 6 s.2.1 ((grid (rDispF m (rChosen m) (rCores m)) c (rChosen m).length ++ upTo ((rDispF m (rChosen m) (rCores m)) c) s.1).flatMap encRE) (grid (rDispF m (rChosen m) (rCores m)) c (rChosen m).length ++ upTo ((rDispF m (rChosen m) (rCores m)) c) s.1).length s.2.2) (fun s => (rChosen m).length - s.1) (0, v4, Lz) ⟨rfl, rfl, rfl, rfl, rfl, rfl, trivial⟩ (fun _ h => h) ⟨Nat.zero_le _, by simpa [upTo] using hg2⟩ fun ⟨i5, v5, L5⟩ hj => ?_)
            obtain ⟨hj1, hj2⟩ := hj
            simp only at hj1 hj2
            have hgb := grid_bd (rDispF m (rChosen m) (rCores m)) (n := c) (k := (rChosen m).length) (by omega) (by omega)
            have hub := upTo_len ((rDispF m (rChosen m) (rCores m)) c) i5
            show WC _ _ _ _ (Z w w _ (L5 ++ ((qb, .cells ((rCores m).map intV).toArray 3 (0, 0)) :: L176))) _
            refine .seq (.seq (.reg (.q (.move rfl) (.q (.move rfl) (.q (.lenS s136.t rfl) (.ltS rfl rfl (fun h230 => ?_) (fun h230 => ?_)))))))
            · have hi5 : i5 < (rChosen m).length := by omega
              have hq5 : i5 < (rCores m).length := by omega
              obtain ⟨cb, cc2, hce, hcr⟩ := OS.read encRC_len p176 hi5
              cases hce
              obtain ⟨-, hn0, hn1⟩ := chosen_ok hI _ (List.getElem_mem hi5)
              have hjn := List.getElem?_eq_getElem hn1
              obtain ⟨d1, d2, d3, d4, d5, d6, d7, d8, d9, d10⟩ := hI.job _ _ hjn
              refine .nil (.code ?_)
              refine .tt (.skip (.code ?_))
              refine .seq (.block (.seq (.reg (.q (.move rfl) (.q (.move rfl) (.q (.ix s37 rfl rfl (by simp; omega)) (.q (.ld (v := .int .i64 (rCores m)[i5]) o3 rfl (fun w1 hz => int_at (hz.h.has (qb, .cells ((rCores m).map intV).toArray 3 (0, 0)) (List.mem_append_right _ (List.mem_cons_self ..))) hq5)) (.q (.move rfl) (.eqS rfl rfl (fun h238 => ?_) (fun h238 => ?_))))))))))
              · have hx : rDispF m (rChosen m) (rCores m) c i5 = some ⟨m.slot, (c : Int), (((rChosen m)[i5].n.toNat : Nat) : Int), m.js[(rChosen m)[i5].n.toNat].cnt - 1, 2, m.js[(rChosen m)[i5].n.toNat].runs + 1⟩ := by rw [Int.toNat_of_nonneg hn0]; unfold rDispF; rw [List.getElem?_eq_getElem hq5, List.getElem?_eq_getElem hi5]; simp only; rw [if_pos h238, hjn]
                refine .nil (.code ?_)
                refine .tt (.seq (.reg (.q (.move rfl) (.q (.move rfl) (.q (.ix s136 rfl rfl (by omega)) (.q (.fld f139_0 rfl) (.q (.ld (v := .int .i64 (((rChosen m)[i5].n.toNat : Nat) : Int)) o3 rfl (fun w1 hz => by rw [Int.toNat_of_nonneg hn0]; exact hcr _ _ w1 _ _ hz (fun x hx => List.mem_append_right _ (List.mem_cons_of_mem _ hx)) 0 (by omega))) (.q (.assign rfl) (.nil (.code ?_))))))))))
                refine .drawS (F := Z w w [] []) mix [] [] [0, 1, 2, 3, 4, 5, 6, 7, 8, 9, 10, 11, 12, 13, 14, 15, 16, 17, 18, 19, 20, 21, 22, 23, 24, 25] (.one 26 (.one 27 (.one 28 .nil))) (by kernel_rfl) (fun _ h => h.drew) (fun _ h => h.sublist (List.nil_sublist _)) (.toS (.q (.move rfl) (.q (.move rfl) (.q (.nilP rfl) (.q (.fld f85_3 rfl) (.q (.ldW o3 rfl (cellOf hW.hM rfl)) (.q (.move rfl) (.q (.move rfl) (.q (.move rfl) (.q (.nilP rfl) (.q (.fld f85_2 rfl) (.q (.ldW o83 rfl (cellOf hW.hM rfl)) (.q (.move rfl) (.q (.ix s83 rfl rfl (by omega)) (.q (.fld f119_0 rfl) (.q (.ldW o3 rfl (hW.job hn1 0 (by omega))) (.q (.sub rfl rfl (IntWalk.i64_in _ (by omega))) (.q (.move rfl) (.q (.nilP rfl) (.q (.fld f85_2 rfl) (.q (.ldW o83 rfl (cellOf hW.hM rfl)) (.q (.move rfl) (.q (.ix s83 rfl rfl (by omega)) (.q (.fld f119_2 rfl) (.q (.ldW o3 rfl (hW.job hn1 2 (by omega))) (.q (.add rfl rfl (IntWalk.i64_in _ (by omega))) (.q (.build st82 rfl rfl) (.toT (.step rfl (.bslice s32 rfl rfl rfl fun b270 => .nil (.tk (fun _ h => h.sublist (List.nil_sublist _)) (.step rfl (.app1 s32 (by omega) (by omega) rfl rfl hj2 (.refl _) (by rfl) (encRE_one ⟨m.slot, (c : Int), (((rChosen m)[i5].n.toNat : Nat) : Int), m.js[(rChosen m)[i5].n.toNat].cnt - 1, 2, m.js[(rChosen m)[i5].n.toNat].runs + 1⟩) (by simp; omega) fun v271 L271 o271 => (.nil (.tk (fun _ h => h.sublist (List.nil_sublist _)) (.step rfl (.q (.assign rfl) (.nil (.tk (fun _ h => h.sublist (List.nil_sublist _)) (.nil (.inbN (.code ?_))))))))))))))))))))))))))))))))))))))))))
                refine .reg (.q (.move rfl) (.q (.add rfl rfl (IntWalk.i64_in _ (by omega))) (.q (.assign rfl) (.nil (.rd (i5 + 1, v271, L271) ⟨rfl, rfl, rfl, rfl, rfl, rfl, trivial⟩ (fun _ h => h) ⟨by simp only; omega, by simp only; rw [show upTo ((rDispF m (rChosen m) (rCores m)) c) (i5 + 1) = upTo ((rDispF m (rChosen m) (rCores m)) c) i5 ++ [_] from upTo_yes hx, ← List.append_assoc]; exact OS.snoc o271⟩ (by simp only; omega))))))
              · have hx : rDispF m (rChosen m) (rCores m) c i5 = none := by unfold rDispF; rw [List.getElem?_eq_getElem hq5, List.getElem?_eq_getElem hi5]; simp only; exact if_neg h238
                refine .nil (.code ?_)
                refine .ff (.skip (.inbN (.code ?_)))
                refine .reg (.q (.move rfl) (.q (.add rfl rfl (IntWalk.i64_in _ (by omega))) (.q (.assign rfl) (.nil (.rd (i5 + 1, v5, L5) ⟨rfl, rfl, rfl, rfl, rfl, rfl, trivial⟩ (fun _ h => h) ⟨by simp only; omega, by simp only; rw [show upTo ((rDispF m (rChosen m) (rCores m)) c) (i5 + 1) = upTo ((rDispF m (rChosen m) (rCores m)) c) i5 from upTo_no hx]; exact hj2⟩ (by simp only; omega))))))
            · refine .nil (.code ?_)
              refine .ff (.exit (.thE (.thE (.inbX (.inbN (.code ?_))))))
              refine .reg (.q (.move rfl) (.q (.add rfl rfl (IntWalk.i64_in _ (by omega))) (.q (.assign rfl) (.nil (.rd (c + 1, v5, L5) ⟨rfl, rfl, rfl, rfl, rfl, trivial⟩ (fun _ h => h) ⟨by simp only; omega, os_row hj2 (by omega)⟩ (by simp only; omega))))))
          · refine .nil (.code ?_)
            refine .ff (.exit (.thE (.thE (.inbX (.inbN (.code ?_))))))
            refine .seq (.reg (.q (.move rfl) (.q (.assign rfl) (.nil (.code ?_)))))
            refine .ret (.ret1 Try.results53 rfl fun w1 hz => ⟨_, _, rfl, hz.sublist (List.sublist_append_left _ _), by rw [rReq, if_neg (by omega), if_pos h80, rSel, show m.cores.toNat = c by omega]; exact hg2⟩)
    · refine .q (.assign rfl) (.nil (.code ?_))
      refine .ff (.seq (.reg (.eqS rfl rfl (fun h273 => ?_) (fun h273 => ?_))))
      · refine .q (.assign rfl) (.nil (.code ?_))
        refine .tt (.seq (.reg (.q (.assign rfl) (.nil (.code ?_)))))
        refine .block (.lp (fun s : Nat × Value × List Blk => [(0, .pointer (some ⟨M, 0, none⟩)), (3, s.2.1), (20, .int .i64 (s.1 : Int))]) (fun s => s.2.2) (fun s => s.1 ≤ m.cores.toNat ∧ OS 82 6 s.2.1 ((grid (rCutF m) s.1 m.l.length).flatMap encRE) (grid (rCutF m) s.1 m.l.length).length s.2.2) (fun s => m.cores.toNat - s.1) (0, .slice none 0 0, []) ⟨rfl, rfl, rfl, trivial⟩ (fun _ h => h) ⟨Nat.zero_le _, OS.nil _ _⟩ fun ⟨c, v4, Lz⟩ hg => ?_)
        obtain ⟨hg1, hg2⟩ := hg
        simp only at hg1 hg2
        show WC _ _ _ _ (Z w w _ Lz) _
        refine .seq (.seq (.reg (.q (.move rfl) (.q (.move rfl) (.q (.nilP rfl) (.q (.fld f85_1 rfl) (.q (.ldW o3 rfl (cellOf hW.hM rfl)) (.ltS rfl rfl (fun h279 => ?_) (fun h279 => ?_)))))))))
        · have hc4 : c < 4 := by omega
          have hcc : c < m.cores.toNat := by omega
          refine .nil (.code ?_)
          refine .tt (.skip (.code ?_))
          refine .seq (.block (.seq (.reg (.q (.assign rfl) (.nil (.code ?_))))))
          refine .block (.lp (fun s : Nat × Value × List Blk => [(0, .pointer (some ⟨M, 0, none⟩)), (3, s.2.1), (20, .int .i64 (c : Int)), (21, .int .i64 (s.1 : Int))]) (fun s => s.2.2) (fun s => s.1 ≤ m.l.length ∧ OS 82 6 s.2.1 ((grid (rCutF m) c m.l.length ++ upTo (rCutF m c) s.1).flatMap encRE) (grid (rCutF m) c m.l.length ++ upTo (rCutF m c) s.1).length s.2.2) (fun s => m.l.length - s.1) (0, v4, Lz) ⟨rfl, rfl, rfl, rfl, trivial⟩ (fun _ h => h) ⟨Nat.zero_le _, by simpa [upTo] using hg2⟩ fun ⟨i, v, Lx⟩ hj => ?_)
          obtain ⟨hj1, hj2⟩ := hj
          simp only at hj1 hj2
          have hgb := grid_bd (rCutF m) (n := c) (k := m.l.length) (by omega) (by omega)
          have hub := upTo_len (rCutF m c) i
          show WC _ _ _ _ (Z w w _ Lx) _
          refine .seq (.seq (.reg (.q (.move rfl) (.q (.move rfl) (.q (.nilP rfl) (.q (.fld f85_0 rfl) (.q (.ldW o30 rfl (cellOf hW.hM rfl)) (.q (.lenS s30.t rfl) (.ltS rfl rfl (fun h288 => ?_) (fun h288 => ?_))))))))))
          · have hij : i < m.js.length := by omega
            have hil : i < m.l.length := by omega
            obtain ⟨b1, b2, b3, b4, b5', b6, b7, b8', b9, b10⟩ := hI.job i _ (List.getElem?_eq_getElem hij)
            have hok := hI.tk hil
            obtain ⟨k1, k2, k3⟩ := okT_bd hok
            obtain ⟨lb, loff, lc2, he, hlc⟩ := Rd.at hW.hl hil
            cases he
            refine .nil (.code ?_)
            refine .tt (.skip (.code ?_))
            refine .seq (.block (.seq (.reg (.q (.move rfl) (.q (.nilP rfl) (.q (.fld f85_2 rfl) (.q (.ldW o83 rfl (cellOf hW.hM rfl)) (.q (.move rfl) (.q (.ix s83 rfl rfl (by omega)) (.q (.ldWA a119 (cs := encRJ m.js[i]) rfl rfl fun j hj => hW.job hij j hj) (.alloc z119 fun b22 => .stA a119 0 rfl rfl rfl rfl rfl rfl (.nil (.code ?_)))))))))))))
            refine .seq (.draw mix (by kernel_rfl) (fun _ h => h.drew) (.q (.fld f119_5 rfl) (?_)))
            rcases hact : m.js[i].act with _ | _
            · have hx : rCutF m c i = none := by unfold rCutF; rw [List.getElem?_eq_getElem hij, List.getElem?_eq_getElem hil]; simp only; exact if_neg (by rw [hact]; exact fun e => absurd e.1 (by decide))
              refine .q (.ldO (v := .bool false) o4 0 rfl rfl (show some (Value.bool m.js[i].act) = some (.bool false) by rw [hact])) (.q (.move rfl) (.skip (.skip (.skip (.skip (.skip (.skip (.skip (.skip (.skip (.skip (.skip (.q (.pickF rfl rfl) (.q (.move rfl) (.skip (.skip (.skip (.skip (.skip (.skip (.skip (.q (.pickF rfl rfl) (.q (.move rfl) (.skip (.skip (.skip (.skip (.q (.pickF rfl rfl) (.nil (.code ?_))))))))))))))))))))))))))))))
              refine .ff (.skip (.inbN (.code ?_)))
              refine .reg (.q (.move rfl) (.q (.add rfl rfl (IntWalk.i64_in _ (by omega))) (.q (.assign rfl) (.nil (.rd (i + 1, v, Lx) ⟨rfl, rfl, rfl, rfl, trivial⟩ (fun _ h => drp h) ⟨by simp only; omega, by simp only; rw [show upTo (rCutF m c) (i + 1) = upTo (rCutF m c) i from upTo_no hx]; exact hj2⟩ (by simp only; omega))))))
            · refine .q (.ldO (v := .bool true) o4 0 rfl rfl (show some (Value.bool m.js[i].act) = some (.bool true) by rw [hact])) (.q (.move rfl) (.q (.fld f119_2 rfl) (.q (.ldO o3 0 rfl rfl rfl) (.q (.move rfl) (.q (.nilP rfl) (.q (.fld f85_0 rfl) (.q (.ldW o30 rfl (cellOf hW.hM rfl)) (.q (.move rfl) (.q (.ix s30 rfl rfl (by omega)) (.q (.fld f87_1 rfl) (.q (.ldW o3 rfl (hlc 1 (by omega))) (.eqS rfl rfl (fun h311 => ?_) (fun h311 => ?_)))))))))))))
              · refine .q (.pickT rfl rfl) (.q (.move rfl) (.q (.fld f119_3 rfl) (.q (.ldO o3 0 rfl rfl rfl) (.q (.move rfl) (.q (.nilP rfl) (.q (.fld f85_3 rfl) (.q (.ldW o3 rfl (cellOf hW.hM rfl)) (.eqS rfl rfl (fun h320 => ?_) (fun h320 => ?_)))))))))
                · refine .q (.pickT rfl rfl) (.q (.move rfl) (.q (.fld f119_4 rfl) (.q (.ldO o3 0 rfl rfl rfl) (.q (.move rfl) (.eqS rfl rfl (fun h326 => ?_) (fun h326 => ?_))))))
                  · have hx : rCutF m c i = some ⟨m.slot, (c : Int), (i : Int), m.js[i].cnt - 1, 5, m.js[i].runs⟩ := by unfold rCutF; rw [List.getElem?_eq_getElem hij, List.getElem?_eq_getElem hil]; simp only; exact if_pos (⟨hact, h311, h320, h326⟩)
                    refine .q (.pickT rfl rfl) (.nil (.code ?_))
                    refine .tt (.drawS (F := Z w w [] [(b22, .cells (encRJ m.js[i]).toArray 119 (0, 0))]) mix [] [] [0, 1, 2, 3, 4, 5, 6, 7, 8, 9, 10, 11, 12] (.one 13 (.one 14 (.one 15 .nil))) (by kernel_rfl) (fun _ h => h.drew) (fun _ h => h.sublist (.cons_cons _ (List.nil_sublist _))) (.toS (.q (.move rfl) (.q (.move rfl) (.q (.nilP rfl) (.q (.fld f85_3 rfl) (.q (.ldW o3 rfl (cellOf hW.hM rfl)) (.q (.move rfl) (.q (.move rfl) (.q (.fld f119_0 rfl) (.q (.ldO o3 0 rfl rfl rfl) (.q (.sub rfl rfl (IntWalk.i64_in _ (by omega))) (.q (.fld f119_2 rfl) (.q (.ldO o3 0 rfl rfl rfl) (.q (.build st82 rfl rfl) (.toT (.step rfl (.bslice s32 rfl rfl rfl fun b341 => .nil (.tk (fun _ h => h.sublist (.cons _ (.cons_cons _ (List.nil_sublist _)))) (.step rfl (.app1 s32 (by omega) (by omega) rfl rfl hj2 (pkC (pkN _)) (by rfl) (encRE_one ⟨m.slot, (c : Int), (i : Int), m.js[i].cnt - 1, 5, m.js[i].runs⟩) (by simp; omega) fun v342 L342 o342 => (.nil (.tk (fun _ h => h.sublist ((List.Sublist.cons_cons _ (List.nil_sublist _)).trans (List.sublist_append_right _ _))) (.step rfl (.q (.assign rfl) (.nil (.tk (fun _ h => h.sublist ((List.Sublist.cons_cons _ (List.nil_sublist _)).trans (List.sublist_append_right _ _))) (.nil (.inbN (.code ?_))))))))))))))))))))))))))))))
                    refine .reg (.q (.move rfl) (.q (.add rfl rfl (IntWalk.i64_in _ (by omega))) (.q (.assign rfl) (.nil (.rd (i + 1, v342, L342) ⟨rfl, rfl, rfl, rfl, trivial⟩ (fun _ h => h.sublist (List.sublist_append_left _ _)) ⟨by simp only; omega, by simp only; rw [show upTo (rCutF m c) (i + 1) = upTo (rCutF m c) i ++ [_] from upTo_yes hx, ← List.append_assoc]; exact OS.snoc o342⟩ (by simp only; omega))))))
                  · have hx : rCutF m c i = none := by unfold rCutF; rw [List.getElem?_eq_getElem hij, List.getElem?_eq_getElem hil]; simp only; exact if_neg (fun e => h326 e.2.2.2)
                    refine .q (.pickT rfl rfl) (.nil (.code ?_))
                    refine .ff (.skip (.inbN (.code ?_)))
                    refine .reg (.q (.move rfl) (.q (.add rfl rfl (IntWalk.i64_in _ (by omega))) (.q (.assign rfl) (.nil (.rd (i + 1, v, Lx) ⟨rfl, rfl, rfl, rfl, trivial⟩ (fun _ h => drp h) ⟨by simp only; omega, by simp only; rw [show upTo (rCutF m c) (i + 1) = upTo (rCutF m c) i from upTo_no hx]; exact hj2⟩ (by simp only; omega))))))
                · have hx : rCutF m c i = none := by unfold rCutF; rw [List.getElem?_eq_getElem hij, List.getElem?_eq_getElem hil]; simp only; exact if_neg (fun e => h320 e.2.2.1)
                  refine .q (.pickT rfl rfl) (.q (.move rfl) (.skip (.skip (.skip (.skip (.q (.pickF rfl rfl) (.nil (.code ?_))))))))
                  refine .ff (.skip (.inbN (.code ?_)))
                  refine .reg (.q (.move rfl) (.q (.add rfl rfl (IntWalk.i64_in _ (by omega))) (.q (.assign rfl) (.nil (.rd (i + 1, v, Lx) ⟨rfl, rfl, rfl, rfl, trivial⟩ (fun _ h => drp h) ⟨by simp only; omega, by simp only; rw [show upTo (rCutF m c) (i + 1) = upTo (rCutF m c) i from upTo_no hx]; exact hj2⟩ (by simp only; omega))))))
              · have hx : rCutF m c i = none := by unfold rCutF; rw [List.getElem?_eq_getElem hij, List.getElem?_eq_getElem hil]; simp only; exact if_neg (fun e => h311 e.2.1)
                refine .q (.pickT rfl rfl) (.q (.move rfl) (.skip (.skip (.skip (.skip (.skip (.skip (.skip (.q (.pickF rfl rfl) (.q (.move rfl) (.skip (.skip (.skip (.skip (.q (.pickF rfl rfl) (.nil (.code ?_)))))))))))))))))
                refine .ff (.skip (.inbN (.code ?_)))
                refine .reg (.q (.move rfl) (.q (.add rfl rfl (IntWalk.i64_in _ (by omega))) (.q (.assign rfl) (.nil (.rd (i + 1, v, Lx) ⟨rfl, rfl, rfl, rfl, trivial⟩ (fun _ h => drp h) ⟨by simp only; omega, by simp only; rw [show upTo (rCutF m c) (i + 1) = upTo (rCutF m c) i from upTo_no hx]; exact hj2⟩ (by simp only; omega))))))
          · refine .nil (.code ?_)
            refine .ff (.exit (.thE (.thE (.inbX (.inbN (.code ?_))))))
            refine .reg (.q (.move rfl) (.q (.add rfl rfl (IntWalk.i64_in _ (by omega))) (.q (.assign rfl) (.nil (.rd (c + 1, v, Lx) ⟨rfl, rfl, rfl, trivial⟩ (fun _ h => h) ⟨by simp only; omega, os_row hj2 (by omega)⟩ (by simp only; omega))))))
        · refine .nil (.code ?_)
          refine .ff (.exit (.thE (.thE (.inbX (.inbN (.code ?_))))))
          refine .seq (.reg (.q (.move rfl) (.q (.assign rfl) (.nil (.code ?_)))))
          refine .ret (.ret1 Try.results53 rfl fun w1 hz => ⟨_, _, rfl, hz, by rw [rReq, if_neg (by omega), if_neg (by omega), if_pos h273, rCut, show m.cores.toNat = c by omega]; exact hg2⟩)
      · refine .q (.assign rfl) (.nil (.code ?_))
        refine .ff (.skip (.inbN (.code ?_)))
        refine .seq (.reg (.q (.move rfl) (.q (.assign rfl) (.nil (.code ?_)))))
        refine .ret (.ret1 Try.results53 rfl fun w1 hz => ⟨_, _, rfl, hz, by rw [rReq, if_neg h28, if_neg h80, if_neg h273]; exact OS.nil _ _⟩)

end Go.Proofs.Ytjccenbacjhglaa.R3
