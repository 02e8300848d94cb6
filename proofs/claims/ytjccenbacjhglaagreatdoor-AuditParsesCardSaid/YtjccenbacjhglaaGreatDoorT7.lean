import Derived.Test.YtjccenbacjhglaaGreatDoorProg
import Derived.Test.YtjccenbacjhglaaGreatDoorK
import Derived.Test.YtjccenbacjhglaaGreatDoorM2
import Derived.Test.YtjccenbacjhglaaGreatDoorKS
import Derived.Test.YtjccenbacjhglaaGreatDoorKB
import Derived.Test.YtjccenbacjhglaaGreatDoorST
import Derived.Test.YtjccenbacjhglaaGreatDoorSH
import Derived.Test.YtjccenbacjhglaaGreatDoorSC
import Derived.Test.YtjccenbacjhglaaGreatDoorAU
import Derived.Test.YtjccenbacjhglaaGreatDoorAU4
import Derived.Test.YtjccenbacjhglaaGreatDoorAU8
import Derived.Test.YtjccenbacjhglaaGreatDoorT1
import Derived.Test.YtjccenbacjhglaaGreatDoorT2
import Derived.Test.YtjccenbacjhglaaGreatDoorT3
import Derived.Test.YtjccenbacjhglaaGreatDoorT4
import Derived.Test.YtjccenbacjhglaaGreatDoorT5
import Derived.Test.YtjccenbacjhglaaGreatDoorT6
set_option linter.unusedVariables false
set_option linter.unusedSimpArgs false
set_option maxRecDepth 100000
set_option maxHeartbeats 1000000
namespace Go.Proofs.YtjccenbacjhglaaGreatDoor.T7
open Go Go.Proofs Go.RowKit Go.Proofs.YtjccenbacjhglaaGreatDoor.K Go.Proofs.YtjccenbacjhglaaGreatDoor.M Go.Proofs.YtjccenbacjhglaaGreatDoor.ST Go.Proofs.YtjccenbacjhglaaGreatDoor.SC Go.Proofs.YtjccenbacjhglaaGreatDoor.AU Go.Proofs.YtjccenbacjhglaaGreatDoor.AU4 Go.Proofs.YtjccenbacjhglaaGreatDoor.AU8 Go.Proofs.YtjccenbacjhglaaGreatDoor.T1 Go.Proofs.YtjccenbacjhglaaGreatDoor.T2 Go.Proofs.YtjccenbacjhglaaGreatDoor.T3 Go.Proofs.YtjccenbacjhglaaGreatDoor.T4 Go.Proofs.YtjccenbacjhglaaGreatDoor.T5 Go.Proofs.YtjccenbacjhglaaGreatDoor.T6
theorem a26 : Ag Tryz.prog 26 8 := ⟨_, Tryz.underlying26, rfl, by kernel_rfl⟩
theorem fn6 : Fnc Tryz.prog 6 := ⟨by kernel_rfl⟩
theorem fn7 : Fnc Tryz.prog 7 := ⟨by kernel_rfl⟩
theorem fn8 : Fnc Tryz.prog 8 := ⟨by kernel_rfl⟩
theorem fn9 : Fnc Tryz.prog 9 := ⟨by kernel_rfl⟩
theorem fn11 : Fnc Tryz.prog 11 := ⟨by kernel_rfl⟩
theorem mix : Tryz.prog.follows .mixedOrders = true := by kernel_rfl
theorem o3 : One Tryz.prog 3 := ⟨_, Tryz.underlying3, rfl, by kernel_rfl⟩
theorem o5 : One Tryz.prog 5 := ⟨_, Tryz.underlying5, rfl, by kernel_rfl⟩
theorem s22 : Slc Tryz.prog 22 26 8 64 [.int .i64 0, .int .i64 0, .int .i64 0, .int .i64 0, .int .u8 0, .int .i64 0, .int .i64 0, .int .i64 0] := ⟨Tryz.underlying22, by kernel_rfl, rfl⟩

theorem err_split {pre rest : By} {l' : List Ev} (h : pre = fmtOf l') (hk : ∀ x ∈ l', EvR x ∧ KR x) : parse ((pre ++ rest).take pre.length) = (l', 0, 0) := by
  rw [List.take_left, h]; exact parse_pre hk
theorem err_line (pre rest : By) {e : Nat} (he : e = (bef 10 rest).length) : ((pre ++ rest).take (pre.length + e)).drop pre.length = bef 10 rest := by
  rw [he, List.take_append, List.take_of_length_le (by omega), List.drop_left, show pre.length + (bef 10 rest).length - pre.length = (bef 10 rest).length by omega, take_bef]
theorem eqST {P : Program} {n : Nat} {C : World → Prop} {S : SS} {d : Option Nat} {ty : TypeId} {pos : String} {af : Array Edge} {g : Option (Nat × Bool)} {x y : Operand} {a b : By} {t u : TypeId} (hx : ev S x = some (sv a)) (hy : ev S y = some (sv b)) (h : a = b) : QOp P n C S ⟨d, .binOp .eql t x y u, ty, pos, af, g⟩ (.bool true) := by
  have := QOp.eqS' (P := P) (n := n) (C := C) (d := d) (ty := ty) (pos := pos) (af := af) (g := g) (t := t) (u := u) hx hy
  rw [decide_eq_true h] at this
  exact this
theorem ne_of (b : UInt8) (h : (b.toNat : Int) ≠ 10) : b ≠ 10 := fun e => h (by rw [e]; rfl)
theorem eq_of (b : UInt8) (h : (b.toNat : Int) = 10) : b = 10 := byte_eq (b := 10) h

theorem auditParses_calls (w : World) (hg : GV w) (s : By) : Calls Tryz.prog 4 #[sv s] w fun r w' => r = .returned (.bool true) ∧ Below w.heap.size w w' := by
  refine enter (args := [_]) Tryz.func4 rfl rfl rfl (C := Z w w [] []) (Z.start (H.nil w)) ?_
  refine .seq (.reg (.q (.assign rfl) (.nil (.code ?_))))
  refine .seq (.seq (.reg (.q (.call (v := .bool true) fn6 rfl (fun w hz => awake50_calls w)) (.q (.notB rfl) (.nil (.code ?_))))))
  refine .ff (.skip (.code ?_))
  refine .seq (.seq (.reg (.q (.move rfl) (.q (.lenT Tryz.underlying9 rfl) (.gtS rfl rfl (fun h20 => ?_) (fun h20 => ?_))))))
  · refine .nil (.code ?_)
    refine .tt (.seq (.reg (.q (.assign rfl) (.nil (.code ?_)))))
    refine .ret (.thR (.ret1 Tryz.results4 rfl fun w1 hz => ⟨rfl, hz.h.below⟩))
  · refine .nil (.code ?_)
    refine .ff (.skip (.code ?_))
    refine .seq (.reg (?_))
    have hs5 : s.length ≤ 5000 := by omega
    refine .q (.move rfl) (.callA fn8 rfl (fun w hz => parse_calls w (hg.z hz) s (by omega)) fun v23 L23 p23 => ?_)
    obtain ⟨nv, rfl, onv⟩ := p23
    obtain ⟨xA, xc, rfl⟩ := OS.form onv
    rcases hpp : parse s with ⟨pl, pa, pe⟩
    rw [hpp] at onv
    simp only at onv
    simp only [hpp]
    refine .q (.move rfl) (.q (.ext rfl rfl) (.q (.ext rfl rfl) (.q (.ext rfl rfl) (.q (.assign rfl) (.q (.assign rfl) (.q (.assign rfl) (.nil (.code ?_))))))))
    refine .seq (.seq (.reg (.q (.move rfl) (.eqS rfl rfl (fun h28 => ?_) (fun h28 => ?_)))))
    · subst h28
      obtain ⟨rfl, l', hl', hfm, hkr, hll⟩ := parse_ok s.length s [] 1 pl pa (Nat.le_refl _) hpp
      rw [List.nil_append] at hl'
      subst hl'
      have hR : ∀ e ∈ pl, EvR e := fun e he => (hkr e he).1
      have hK : ∀ e ∈ pl, 0 ≤ e.k ∧ e.k ≤ 255 := fun e he => by have := (hkr e he).2; unfold KR at this; omega
      subst hfm
      refine .nil (.code ?_)
      refine .tt (.seq (.reg (.q (.move rfl) (.q (.cmp rfl rfl (eqT (rfl))) (.q (.move rfl) (.q (.move rfl) (.q (.call fn9 rfl (fun w hz => fmt_calls w (hg.z hz) _ pl (OS.rd AU.encE_len onv (by omega) hz (fun x hx => List.mem_append_left _ hx)) hR hK (by omega))) (.q (.move rfl) (.q (eqST rfl rfl rfl) (.q (.pickT rfl rfl) (.q (.move rfl) (.q (.move rfl) (.qB (.call fn7 rfl (fun w hz => huge_calls w _ pl (OS.rd AU.encE_len onv (by omega) hz (fun x hx => List.mem_append_left _ hx)) (by omega))) (fun h39 => ?_) (fun h39 => ?_))))))))))))))
      · refine .q (.move rfl) (.skip (.skip (.skip (.skip (.q (.pickT rfl rfl) (.q (.pickT rfl rfl) (.q (.assign rfl) (.nil (.code ?_)))))))))
        refine .ret (.thR (.ret1 Tryz.results4 rfl fun w1 hz => ⟨rfl, hz.h.below⟩))
      · refine .q (.move rfl) (.q (.move rfl) (.q (.call fn11 rfl (fun w hz => text_calls w _ pl (OS.rd AU.encE_len onv (by omega) hz (fun x hx => List.mem_append_left _ hx)) (huge_63 h39) hK (by omega))) (.q (.move rfl) (.q (eqST rfl rfl rfl) (.q (.pickF rfl rfl) (.q (.pickT rfl rfl) (.q (.assign rfl) (.nil (.code ?_)))))))))
        refine .ret (.thR (.ret1 Tryz.results4 rfl fun w1 hz => ⟨rfl, hz.h.below⟩))
    · obtain ⟨rfl, pre, rest, hsp, hr0, hpq, hpa, ⟨l', hl1, hl2⟩, hend⟩ := parse_err s.length s [] 1 pl pa pe (Nat.le_refl _) hpp h28
      subst hpa
      subst hsp
      have hrl : 0 < rest.length := List.length_pos_iff.2 hr0
      have hsl : (pre ++ rest).length = pre.length + rest.length := by simp
      have hcl : List.count 10 pre ≤ pre.length := List.count_le_length
      refine .nil (.code ?_)
      refine .ff (.skip (.code ?_))
      refine .seq (.reg (.q (.assign rfl) (.q (.assign rfl) (.nil (.code ?_)))))
      refine .seq (.seq (.reg (.q (.assign rfl) (.nil (.code ?_)))))
      refine .block (.lp (fun q : Nat × Int × Int => [(0, sv (pre ++ rest)), (3, .slice xA 0 xc), (4, .int .i64 (1 + (List.count 10 pre : Nat))), (5, .int .i64 pe), (6, .int .i64 q.2.1), (7, .int .i64 q.2.2), (8, .int .i64 (q.1 : Int))]) (fun _ => L23) (fun q => At pre q.1 q.2.1 q.2.2) (fun q => pre.length - q.1) (0, 0, 1) ⟨rfl, rfl, rfl, rfl, rfl, rfl, rfl, trivial⟩ (fun _ h => h.sublist (List.sublist_append_left _ _)) (At.zero pre) fun ⟨i, start, line⟩ hk => ?_)
      simp only at hk
      have hk0 := hk
      obtain ⟨hk1, hk2, hk3, hk4, hk5, hk6⟩ := hk0
      have hc2 : List.count 10 (pre.take i) ≤ List.count 10 pre := (List.take_sublist i pre).count_le _
      show WC _ _ _ _ (Z w w _ L23) [(0, sv (pre ++ rest)), (3, .slice xA 0 xc), (4, .int .i64 (1 + (List.count 10 pre : Nat))), (5, .int .i64 pe), (6, .int .i64 start), (7, .int .i64 line), (8, .int .i64 (i : Int))]
      refine .seq (.seq (.reg (.q (.move rfl) (.q (.move rfl) (.q (.lenT Tryz.underlying9 rfl) (.ltS rfl rfl (fun h50 => ?_) (fun h50 => ?_)))))))
      · refine .q (.move rfl) (.q (.move rfl) (.q (.move rfl) (.ltS rfl rfl (fun h54 => ?_) (fun h54 => ?_))))
        · have hstep := At.step (rest := rest) hpq hk h54 (show i < (pre ++ rest).length by omega)
          have hk0_lt : i < pre.length := by
            rcases Nat.lt_or_ge i pre.length with h7 | h7
            · exact h7
            · rw [List.take_of_length_le h7] at hk2; omega
          refine .q (.pickT rfl rfl) (.nil (.code ?_))
          refine .tt (.skip (.code ?_))
          refine .seq (.block (.seq (.reg (.q (.move rfl) (.q (.move rfl) (.q (.idxT Tryz.underlying9 rfl rfl (show i < (pre ++ rest).length by omega)) (.eqS rfl rfl (fun h61 => ?_) (fun h61 => ?_))))))))
          · refine .nil (.code ?_)
            refine .tt (.seq (.reg (.q (.move rfl) (.q (.add rfl rfl (IntWalk.i64_in _ (by omega))) (.q (.assign rfl) (.nil (.code ?_)))))))
            refine .reg (.q (.move rfl) (.q (.add rfl rfl (IntWalk.i64_in _ (by omega))) (.q (.assign rfl) (.nil (.inbN (.code ?_))))))
            refine .reg (.q (.move rfl) (.q (.add rfl rfl (IntWalk.i64_in _ (by omega))) (.q (.assign rfl) (.nil (.rd (i + 1, (i : Int) + 1, line + 1) ⟨rfl, rfl, rfl, rfl, rfl, rfl, rfl, trivial⟩ (fun _ h => h) (hstep.1 (eq_of _ h61)) (by have := (hk0_lt : i < pre.length); simp only; omega))))))
          · refine .nil (.code ?_)
            refine .ff (.skip (.inbN (.code ?_)))
            refine .reg (.q (.move rfl) (.q (.add rfl rfl (IntWalk.i64_in _ (by omega))) (.q (.assign rfl) (.nil (.rd (i + 1, start, line) ⟨rfl, rfl, rfl, rfl, rfl, rfl, rfl, trivial⟩ (fun _ h => h) (hstep.2 (ne_of _ h61)) (by have := (hk0_lt : i < pre.length); simp only; omega))))))
        · refine .q (.pickT rfl rfl) (.nil (.code ?_))
          refine .ff (.exit (.thE (.thE (.inbX (.code ?_)))))
          refine .seq (.seq (.reg (?_)))
          obtain ⟨rfl, rfl, rfl⟩ : i = pre.length ∧ start = pre.length ∧ line = 1 + (List.count 10 pre : Nat) := by
            first
            | exact At.done hpq hk (by omega)
            | (exfalso; omega)
          refine .q (.move rfl) (.q (.lenS s22.t rfl) (.q (.cmp rfl rfl (neF (rfl))) (.q (.move rfl) (.q (.move rfl) (.q (.cmp rfl rfl (ltF (by omega))) (.q (.pickF rfl rfl) (.q (.move rfl) (.q (.move rfl) (.q (.move rfl) (.q (.cmp rfl rfl (neF (rfl))) (.q (.pickF rfl rfl) (.q (.move rfl) (.q (.move rfl) (.q (.move rfl) (.q (.lenT Tryz.underlying9 rfl) (.q (.cmp rfl rfl (geF (by omega))) (.q (.pickF rfl rfl) (.nil (.code ?_)))))))))))))))))))
          refine .ff (.skip (.code ?_))
          refine .seq (.reg (.q (.move rfl) (.q (.move rfl) (.q (.subHi (j := pre.length) Tryz.underlying9 rfl rfl (by omega) rfl) (.callA fn8 rfl (fun w hz => parse_calls w (hg.z hz) ((pre ++ rest).take pre.length) (by rw [List.take_left]; omega)) fun v88 L88 p88 => ?_)))))
          obtain ⟨nv2, rfl, onv2⟩ := p88
          rw [err_split hl1 hl2] at onv2 ⊢
          simp only at onv2
          refine .q (.move rfl) (.q (.ext rfl rfl) (.q (.ext rfl rfl) (.q (.ext rfl rfl) (.q (.assign rfl) (.q (.assign rfl) (.q (.assign rfl) (.nil (.code ?_))))))))
          refine .seq (.reg (.q (.move rfl) (.q (.assign rfl) (.nil (.code ?_)))))
          refine .seq (.block (.lp (fun e : Nat => [(0, sv (pre ++ rest)), (5, .int .i64 pe), (6, .int .i64 (pre.length : Int)), (11, .int .i64 0), (12, .int .i64 ((pre.length + e : Nat) : Int))]) (fun _ => []) (fun e => e ≤ (bef 10 rest).length) (fun e => (bef 10 rest).length - e) 0 ⟨rfl, rfl, rfl, rfl, rfl, trivial⟩ (fun _ h => h.sublist (List.nil_sublist _)) (Nat.zero_le _) fun e he0 => ?_))
          have hbl := bef_len 10 rest
          obtain ⟨hb1, hb2, hb3⟩ := bef_at 10 rest e he0
          refine .seq (.seq (.reg (.q (.move rfl) (.q (.move rfl) (.q (.lenT Tryz.underlying9 rfl) (.ltS rfl rfl (fun h96 => ?_) (fun h96 => ?_)))))))
          · have her : e < rest.length := by omega
            have hget : (pre ++ rest)[pre.length + e]'(by omega) = rest[e] := by rw [List.getElem_append_right (by omega)]; congr 1; omega
            refine .q (.move rfl) (.q (.move rfl) (.q (.move rfl) (.q (.idxT Tryz.underlying9 rfl rfl (show pre.length + e < (pre ++ rest).length by omega)) (.neS rfl rfl (fun h101 => ?_) (fun h101 => ?_)))))
            · have hlt := hb2 her (by rw [← hget]; exact ne_of _ h101)
              refine .q (.pickT rfl rfl) (.nil (.code ?_))
              refine .tt (.skip (.code ?_))
              refine .block (.reg (.q (.move rfl) (.q (.add rfl rfl (IntWalk.i64_in _ (by omega))) (.q (.assign rfl) (.nil (.inbN (.rd (e + 1) ⟨rfl, rfl, rfl, rfl, rfl, trivial⟩ (fun _ h => h) (by omega) (by omega))))))))
            · have hee := hb1 her (by rw [← hget]; exact eq_of _ h101)
              refine .q (.pickT rfl rfl) (.nil (.code ?_))
              refine .ff (.exit (.thE (.thE (.inbX (.code ?_)))))
              refine .seq (.reg (.q (.move rfl) (.q (.move rfl) (.q (.move rfl) (.q (.subLoHi (i := pre.length) (j := pre.length + e) Tryz.underlying9 rfl rfl rfl (by omega) (by omega) (err_line pre rest hee)) (.q (.addS (b := [10]) rfl rfl (by simp only [List.length_singleton]; omega) rfl) (.callA fn8 rfl (fun w hz => parse_calls w (hg.z hz) (bef 10 rest ++ [10]) (by simp only [List.length_append, List.length_singleton]; omega)) fun v111 L111 p111 => ?_)))))))
              obtain ⟨nv3, rfl, onv3⟩ := p111
              rw [parse_one (bef_no 10 rest)]
              refine .q (.move rfl) (.q (.ext rfl rfl) (.q (.ext rfl rfl) (.q (.ext rfl rfl) (.q (.assign rfl) (.q (.assign rfl) (.q (.assign rfl) (.nil (.code ?_))))))))
              refine .seq (.reg (.q (.move rfl) (.q (.cmp rfl rfl (eqT (rfl))) (.q (.move rfl) (?_)))))
              rcases hend with ⟨rfl, hq⟩ | ⟨rfl, x, hq⟩
              · rw [hq]
                refine .q (.move rfl) (.q (.cmp rfl rfl (eqF (by decide))) (.q (.move rfl) (.q (.cmp rfl rfl (eqF (by decide))) (.q (.eqB Tryz.underlying4 rfl rfl) (.q (.pickT rfl rfl) (.q (.move rfl) (.q (.move rfl) (.q (.cmp rfl rfl (eqF (by decide))) (.q (.move rfl) (.q (.move rfl) (.q (.cmp rfl rfl (eqT (rfl))) (.q (.pickF rfl rfl) (.q (.pickT rfl rfl) (.q (.assign rfl) (.nil (.code ?_))))))))))))))))
                refine .ret (.ret1 Tryz.results4 rfl fun w1 hz => ⟨rfl, hz.h.below⟩)
              · rw [hq]
                refine .q (.move rfl) (.q (.cmp rfl rfl (eqT (rfl))) (.q (.move rfl) (.q (.cmp rfl rfl (eqT (rfl))) (.q (.eqB Tryz.underlying4 rfl rfl) (.q (.pickT rfl rfl) (.q (.move rfl) (.q (.move rfl) (.q (.cmp rfl rfl (eqT (rfl))) (.q (.move rfl) (.skip (.skip (.q (.pickT rfl rfl) (.q (.pickT rfl rfl) (.q (.assign rfl) (.nil (.code ?_))))))))))))))))
                refine .ret (.ret1 Tryz.results4 rfl fun w1 hz => ⟨rfl, hz.h.below⟩)
          · have hee := hb3 (by omega)
            refine .q (.move rfl) (.skip (.skip (.skip (.skip (.q (.pickF rfl rfl) (.nil (.code ?_)))))))
            refine .ff (.exit (.thE (.thE (.inbX (.code ?_)))))
            refine .seq (.reg (.q (.move rfl) (.q (.move rfl) (.q (.move rfl) (.q (.subLoHi (i := pre.length) (j := pre.length + e) Tryz.underlying9 rfl rfl rfl (by omega) (by omega) (err_line pre rest hee)) (.q (.addS (b := [10]) rfl rfl (by simp only [List.length_singleton]; omega) rfl) (.callA fn8 rfl (fun w hz => parse_calls w (hg.z hz) (bef 10 rest ++ [10]) (by simp only [List.length_append, List.length_singleton]; omega)) fun v111 L111 p111 => ?_)))))))
            obtain ⟨nv3, rfl, onv3⟩ := p111
            rw [parse_one (bef_no 10 rest)]
            refine .q (.move rfl) (.q (.ext rfl rfl) (.q (.ext rfl rfl) (.q (.ext rfl rfl) (.q (.assign rfl) (.q (.assign rfl) (.q (.assign rfl) (.nil (.code ?_))))))))
            refine .seq (.reg (.q (.move rfl) (.q (.cmp rfl rfl (eqT (rfl))) (.q (.move rfl) (?_)))))
            rcases hend with ⟨rfl, hq⟩ | ⟨rfl, x, hq⟩
            · rw [hq]
              refine .q (.move rfl) (.q (.cmp rfl rfl (eqF (by decide))) (.q (.move rfl) (.q (.cmp rfl rfl (eqF (by decide))) (.q (.eqB Tryz.underlying4 rfl rfl) (.q (.pickT rfl rfl) (.q (.move rfl) (.q (.move rfl) (.q (.cmp rfl rfl (eqF (by decide))) (.q (.move rfl) (.q (.move rfl) (.q (.cmp rfl rfl (eqT (rfl))) (.q (.pickF rfl rfl) (.q (.pickT rfl rfl) (.q (.assign rfl) (.nil (.code ?_))))))))))))))))
              refine .ret (.ret1 Tryz.results4 rfl fun w1 hz => ⟨rfl, hz.h.below⟩)
            · rw [hq]
              refine .q (.move rfl) (.q (.cmp rfl rfl (eqT (rfl))) (.q (.move rfl) (.q (.cmp rfl rfl (eqT (rfl))) (.q (.eqB Tryz.underlying4 rfl rfl) (.q (.pickT rfl rfl) (.q (.move rfl) (.q (.move rfl) (.q (.cmp rfl rfl (eqT (rfl))) (.q (.move rfl) (.skip (.skip (.q (.pickT rfl rfl) (.q (.pickT rfl rfl) (.q (.assign rfl) (.nil (.code ?_))))))))))))))))
              refine .ret (.ret1 Tryz.results4 rfl fun w1 hz => ⟨rfl, hz.h.below⟩)
      · refine .q (.move rfl) (.skip (.skip (.skip (.q (.pickF rfl rfl) (.nil (.code ?_))))))
        refine .ff (.exit (.thE (.thE (.inbX (.code ?_)))))
        refine .seq (.seq (.reg (?_)))
        obtain ⟨rfl, rfl, rfl⟩ : i = pre.length ∧ start = pre.length ∧ line = 1 + (List.count 10 pre : Nat) := by
          first
          | exact At.done hpq hk (by omega)
          | (exfalso; omega)
        refine .q (.move rfl) (.q (.lenS s22.t rfl) (.q (.cmp rfl rfl (neF (rfl))) (.q (.move rfl) (.q (.move rfl) (.q (.cmp rfl rfl (ltF (by omega))) (.q (.pickF rfl rfl) (.q (.move rfl) (.q (.move rfl) (.q (.move rfl) (.q (.cmp rfl rfl (neF (rfl))) (.q (.pickF rfl rfl) (.q (.move rfl) (.q (.move rfl) (.q (.move rfl) (.q (.lenT Tryz.underlying9 rfl) (.q (.cmp rfl rfl (geF (by omega))) (.q (.pickF rfl rfl) (.nil (.code ?_)))))))))))))))))))
        refine .ff (.skip (.code ?_))
        refine .seq (.reg (.q (.move rfl) (.q (.move rfl) (.q (.subHi (j := pre.length) Tryz.underlying9 rfl rfl (by omega) rfl) (.callA fn8 rfl (fun w hz => parse_calls w (hg.z hz) ((pre ++ rest).take pre.length) (by rw [List.take_left]; omega)) fun v88 L88 p88 => ?_)))))
        obtain ⟨nv2, rfl, onv2⟩ := p88
        rw [err_split hl1 hl2] at onv2 ⊢
        simp only at onv2
        refine .q (.move rfl) (.q (.ext rfl rfl) (.q (.ext rfl rfl) (.q (.ext rfl rfl) (.q (.assign rfl) (.q (.assign rfl) (.q (.assign rfl) (.nil (.code ?_))))))))
        refine .seq (.reg (.q (.move rfl) (.q (.assign rfl) (.nil (.code ?_)))))
        refine .seq (.block (.lp (fun e : Nat => [(0, sv (pre ++ rest)), (5, .int .i64 pe), (6, .int .i64 (pre.length : Int)), (11, .int .i64 0), (12, .int .i64 ((pre.length + e : Nat) : Int))]) (fun _ => []) (fun e => e ≤ (bef 10 rest).length) (fun e => (bef 10 rest).length - e) 0 ⟨rfl, rfl, rfl, rfl, rfl, trivial⟩ (fun _ h => h.sublist (List.nil_sublist _)) (Nat.zero_le _) fun e he0 => ?_))
        have hbl := bef_len 10 rest
        obtain ⟨hb1, hb2, hb3⟩ := bef_at 10 rest e he0
        refine .seq (.seq (.reg (.q (.move rfl) (.q (.move rfl) (.q (.lenT Tryz.underlying9 rfl) (.ltS rfl rfl (fun h96 => ?_) (fun h96 => ?_)))))))
        · have her : e < rest.length := by omega
          have hget : (pre ++ rest)[pre.length + e]'(by omega) = rest[e] := by rw [List.getElem_append_right (by omega)]; congr 1; omega
          refine .q (.move rfl) (.q (.move rfl) (.q (.move rfl) (.q (.idxT Tryz.underlying9 rfl rfl (show pre.length + e < (pre ++ rest).length by omega)) (.neS rfl rfl (fun h101 => ?_) (fun h101 => ?_)))))
          · have hlt := hb2 her (by rw [← hget]; exact ne_of _ h101)
            refine .q (.pickT rfl rfl) (.nil (.code ?_))
            refine .tt (.skip (.code ?_))
            refine .block (.reg (.q (.move rfl) (.q (.add rfl rfl (IntWalk.i64_in _ (by omega))) (.q (.assign rfl) (.nil (.inbN (.rd (e + 1) ⟨rfl, rfl, rfl, rfl, rfl, trivial⟩ (fun _ h => h) (by omega) (by omega))))))))
          · have hee := hb1 her (by rw [← hget]; exact eq_of _ h101)
            refine .q (.pickT rfl rfl) (.nil (.code ?_))
            refine .ff (.exit (.thE (.thE (.inbX (.code ?_)))))
            refine .seq (.reg (.q (.move rfl) (.q (.move rfl) (.q (.move rfl) (.q (.subLoHi (i := pre.length) (j := pre.length + e) Tryz.underlying9 rfl rfl rfl (by omega) (by omega) (err_line pre rest hee)) (.q (.addS (b := [10]) rfl rfl (by simp only [List.length_singleton]; omega) rfl) (.callA fn8 rfl (fun w hz => parse_calls w (hg.z hz) (bef 10 rest ++ [10]) (by simp only [List.length_append, List.length_singleton]; omega)) fun v111 L111 p111 => ?_)))))))
            obtain ⟨nv3, rfl, onv3⟩ := p111
            rw [parse_one (bef_no 10 rest)]
            refine .q (.move rfl) (.q (.ext rfl rfl) (.q (.ext rfl rfl) (.q (.ext rfl rfl) (.q (.assign rfl) (.q (.assign rfl) (.q (.assign rfl) (.nil (.code ?_))))))))
            refine .seq (.reg (.q (.move rfl) (.q (.cmp rfl rfl (eqT (rfl))) (.q (.move rfl) (?_)))))
            rcases hend with ⟨rfl, hq⟩ | ⟨rfl, x, hq⟩
            · rw [hq]
              refine .q (.move rfl) (.q (.cmp rfl rfl (eqF (by decide))) (.q (.move rfl) (.q (.cmp rfl rfl (eqF (by decide))) (.q (.eqB Tryz.underlying4 rfl rfl) (.q (.pickT rfl rfl) (.q (.move rfl) (.q (.move rfl) (.q (.cmp rfl rfl (eqF (by decide))) (.q (.move rfl) (.q (.move rfl) (.q (.cmp rfl rfl (eqT (rfl))) (.q (.pickF rfl rfl) (.q (.pickT rfl rfl) (.q (.assign rfl) (.nil (.code ?_))))))))))))))))
              refine .ret (.ret1 Tryz.results4 rfl fun w1 hz => ⟨rfl, hz.h.below⟩)
            · rw [hq]
              refine .q (.move rfl) (.q (.cmp rfl rfl (eqT (rfl))) (.q (.move rfl) (.q (.cmp rfl rfl (eqT (rfl))) (.q (.eqB Tryz.underlying4 rfl rfl) (.q (.pickT rfl rfl) (.q (.move rfl) (.q (.move rfl) (.q (.cmp rfl rfl (eqT (rfl))) (.q (.move rfl) (.skip (.skip (.q (.pickT rfl rfl) (.q (.pickT rfl rfl) (.q (.assign rfl) (.nil (.code ?_))))))))))))))))
              refine .ret (.ret1 Tryz.results4 rfl fun w1 hz => ⟨rfl, hz.h.below⟩)
        · have hee := hb3 (by omega)
          refine .q (.move rfl) (.skip (.skip (.skip (.skip (.q (.pickF rfl rfl) (.nil (.code ?_)))))))
          refine .ff (.exit (.thE (.thE (.inbX (.code ?_)))))
          refine .seq (.reg (.q (.move rfl) (.q (.move rfl) (.q (.move rfl) (.q (.subLoHi (i := pre.length) (j := pre.length + e) Tryz.underlying9 rfl rfl rfl (by omega) (by omega) (err_line pre rest hee)) (.q (.addS (b := [10]) rfl rfl (by simp only [List.length_singleton]; omega) rfl) (.callA fn8 rfl (fun w hz => parse_calls w (hg.z hz) (bef 10 rest ++ [10]) (by simp only [List.length_append, List.length_singleton]; omega)) fun v111 L111 p111 => ?_)))))))
          obtain ⟨nv3, rfl, onv3⟩ := p111
          rw [parse_one (bef_no 10 rest)]
          refine .q (.move rfl) (.q (.ext rfl rfl) (.q (.ext rfl rfl) (.q (.ext rfl rfl) (.q (.assign rfl) (.q (.assign rfl) (.q (.assign rfl) (.nil (.code ?_))))))))
          refine .seq (.reg (.q (.move rfl) (.q (.cmp rfl rfl (eqT (rfl))) (.q (.move rfl) (?_)))))
          rcases hend with ⟨rfl, hq⟩ | ⟨rfl, x, hq⟩
          · rw [hq]
            refine .q (.move rfl) (.q (.cmp rfl rfl (eqF (by decide))) (.q (.move rfl) (.q (.cmp rfl rfl (eqF (by decide))) (.q (.eqB Tryz.underlying4 rfl rfl) (.q (.pickT rfl rfl) (.q (.move rfl) (.q (.move rfl) (.q (.cmp rfl rfl (eqF (by decide))) (.q (.move rfl) (.q (.move rfl) (.q (.cmp rfl rfl (eqT (rfl))) (.q (.pickF rfl rfl) (.q (.pickT rfl rfl) (.q (.assign rfl) (.nil (.code ?_))))))))))))))))
            refine .ret (.ret1 Tryz.results4 rfl fun w1 hz => ⟨rfl, hz.h.below⟩)
          · rw [hq]
            refine .q (.move rfl) (.q (.cmp rfl rfl (eqT (rfl))) (.q (.move rfl) (.q (.cmp rfl rfl (eqT (rfl))) (.q (.eqB Tryz.underlying4 rfl rfl) (.q (.pickT rfl rfl) (.q (.move rfl) (.q (.move rfl) (.q (.cmp rfl rfl (eqT (rfl))) (.q (.move rfl) (.skip (.skip (.q (.pickT rfl rfl) (.q (.pickT rfl rfl) (.q (.assign rfl) (.nil (.code ?_))))))))))))))))
            refine .ret (.ret1 Tryz.results4 rfl fun w1 hz => ⟨rfl, hz.h.below⟩)

end Go.Proofs.YtjccenbacjhglaaGreatDoor.T7
