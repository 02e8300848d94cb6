import Derived.Test.YtjccenbacjhglaaProg
import Derived.Test.YtjccenbacjhglaaK
import Derived.Test.YtjccenbacjhglaaM
import Derived.Test.YtjccenbacjhglaaIS
import Derived.Test.YtjccenbacjhglaaM2
import Derived.Test.YtjccenbacjhglaaMS
import Derived.Test.YtjccenbacjhglaaPF
import Derived.Test.YtjccenbacjhglaaSO
import Derived.Test.YtjccenbacjhglaaAU
import Derived.Test.YtjccenbacjhglaaR1
import Derived.Test.YtjccenbacjhglaaR2
import Derived.Test.YtjccenbacjhglaaR3
import Derived.Test.YtjccenbacjhglaaS1
import Derived.Test.YtjccenbacjhglaaS2
set_option linter.unusedVariables false
set_option linter.unusedSimpArgs false
set_option maxRecDepth 100000
set_option maxHeartbeats 4000000
namespace Go.Proofs.Ytjccenbacjhglaa.S3
open Go Go.Proofs Go.RowKit Go.Proofs.Ytjccenbacjhglaa.K Go.Proofs.Ytjccenbacjhglaa.M Go.Proofs.Ytjccenbacjhglaa.PF Go.Proofs.Ytjccenbacjhglaa.SO Go.Proofs.Ytjccenbacjhglaa.AU Go.Proofs.Ytjccenbacjhglaa.R1 Go.Proofs.Ytjccenbacjhglaa.R2 Go.Proofs.Ytjccenbacjhglaa.R3 Go.Proofs.Ytjccenbacjhglaa.S1 Go.Proofs.Ytjccenbacjhglaa.S2
theorem a62 : Ag Try.prog 62 3 := ⟨_, Try.underlying62, rfl, by kernel_rfl⟩
theorem f62_1 : Fld Try.prog 62 1 1 := ⟨_, _, Try.underlying62, rfl, rfl, 0, by kernel_rfl⟩
theorem f62_2 : Fld Try.prog 62 2 2 := ⟨_, _, Try.underlying62, rfl, rfl, 0, by kernel_rfl⟩
theorem f96_0 : Fld Try.prog 96 0 0 := ⟨_, _, Try.underlying96, rfl, rfl, 0, by kernel_rfl⟩
theorem f96_1 : Fld Try.prog 96 1 1 := ⟨_, _, Try.underlying96, rfl, rfl, 0, by kernel_rfl⟩
theorem f96_2 : Fld Try.prog 96 2 2 := ⟨_, _, Try.underlying96, rfl, rfl, 0, by kernel_rfl⟩
theorem f96_3 : Fld Try.prog 96 3 3 := ⟨_, _, Try.underlying96, rfl, rfl, 0, by kernel_rfl⟩
theorem f96_4 : Fld Try.prog 96 4 4 := ⟨_, _, Try.underlying96, rfl, rfl, 0, by kernel_rfl⟩
theorem mix : Try.prog.follows .mixedOrders = true := by kernel_rfl
theorem o3 : One Try.prog 3 := ⟨_, Try.underlying3, rfl, by kernel_rfl⟩
theorem o22 : One Try.prog 22 := ⟨_, Try.underlying22, rfl, by kernel_rfl⟩
theorem o37 : One Try.prog 37 := ⟨_, Try.underlying37, rfl, by kernel_rfl⟩
theorem o42 : One Try.prog 42 := ⟨_, Try.underlying42, rfl, by kernel_rfl⟩
theorem o46 : One Try.prog 46 := ⟨_, Try.underlying46, rfl, by kernel_rfl⟩
theorem s22 : Slc Try.prog 22 62 3 32 [.string ⟨#[]⟩, .int .i64 0, .int .i64 0] := ⟨Try.underlying22, by kernel_rfl, rfl⟩
theorem s37 : Slc Try.prog 37 3 1 8 [.int .i64 0] := ⟨Try.underlying37, by kernel_rfl, rfl⟩
theorem s42 : Slc Try.prog 42 37 1 24 [.slice none 0 0] := ⟨Try.underlying42, by kernel_rfl, rfl⟩
theorem s46 : Slc Try.prog 46 99 3 24 [.int .i64 0, .int .i64 0, .int .i64 0] := ⟨Try.underlying46, by kernel_rfl, rfl⟩
theorem st99 : Str Try.prog 99 [.int .i64 0, .int .i64 0, .int .i64 0] #[(0, 1), (1, 1), (2, 1)] := ⟨⟨by kernel_rfl⟩, _, Try.underlying99, fun w => by kernel_rfl⟩
theorem z62 : Zr Try.prog 62 [.string ⟨#[]⟩, .int .i64 0, .int .i64 0] := ⟨by kernel_rfl⟩

theorem endF_some {l : List Tk} {rs : List (List Int)} {slot : Int} {s : Rn} {i : Nat} {e : Int} (h : endF l rs slot s i = some e) : e = (i : Int) ∧ i < l.length ∧ ∃ r t, relAt rs i (jobAt s i) = some r ∧ l[i]? = some t ∧ r ≤ slot - t.p := by
  unfold endF at h
  split at h
  · rename_i t r h1 h2
    split at h
    · rename_i hc
      exact ⟨(Option.some.inj h).symm, (List.getElem?_eq_some_iff.1 h1).1, r, t, h2, h1, hc⟩
    · cases h
  · cases h
theorem ends_mem {l : List Tk} {rs : List (List Int)} {slot : Int} {s : Rn} {e : Int} (h : e ∈ endsS l rs slot s) : 0 ≤ e ∧ e.toNat < l.length ∧ ∃ r, relAt rs e.toNat (jobAt s e.toNat) = some r := by
  obtain ⟨i, hi, hf⟩ := mem_upTo.1 h
  obtain ⟨rfl, h1, r, t, h2, _⟩ := endF_some hf
  exact ⟨by omega, by simpa using h1, r, by simpa using h2⟩
theorem upTo_lt {f : Nat → Option Int} (hf : ∀ i e, f i = some e → e = (i : Int)) : ∀ n, (upTo f n).Pairwise (fun x y => x < y)
  | 0 => by simp [upTo]
  | n + 1 => by
    rw [upTo_succ]
    cases hn : f n with
    | none => simpa using upTo_lt hf n
    | some v =>
      rw [List.pairwise_append]
      refine ⟨upTo_lt hf n, by simp, fun x hx y hy => ?_⟩
      obtain ⟨i, hi, hfi⟩ := mem_upTo.1 hx
      have : y = v := by simpa using hy
      subst this
      have := hf i x hfi
      have := hf n y hn
      omega
theorem ends_pw {l : List Tk} {rs : List (List Int)} {slot : Int} {s : Rn} : (endsS l rs slot s).Pairwise (fun x y => x < y) := upTo_lt (fun i e h => (endF_some h).1) _
theorem step_job {l : List Tk} {rs : List (List Int)} {s : Rn} {e : Int} {i : Nat} (h : i ≠ e.toNat) : jobAt (stepEnd l rs s e) i = jobAt s i := by
  unfold jobAt stepEnd; simp only; rw [List.getElem?_set_ne (Ne.symm h)]
theorem step_done {l : List Tk} {rs : List (List Int)} {s : Rn} {e : Int} {i : Nat} (h : i ≠ e.toNat) : doneAt (stepEnd l rs s e) i = doneAt s i := by
  unfold doneAt stepEnd; simp only; rw [List.getElem?_set_ne (Ne.symm h)]
theorem step_job_eq {l : List Tk} {rs : List (List Int)} {s : Rn} {e : Int} (h : e.toNat < s.job.length) : jobAt (stepEnd l rs s e) e.toNat = jobAt s e.toNat + 1 := by
  unfold jobAt stepEnd; simp only; rw [List.getElem?_set_self h]; rfl
theorem step_done_eq {l : List Tk} {rs : List (List Int)} {s : Rn} {e : Int} (h : e.toNat < s.done.length) : doneAt (stepEnd l rs s e) e.toNat = 0 := by
  unfold doneAt stepEnd; simp only; rw [List.getElem?_set_self h]; rfl
theorem missOf_len (l : List Tk) (rs : List (List Int)) (s : Rn) (i : Nat) : (missOf l rs s i).length ≤ 1 := by unfold missOf; split <;> simp
theorem step_I {l : List Tk} {rs : List (List Int)} {s : Rn} {K N : Nat} {e : Int} (h : RnI l rs s K N) (hN : N + 1 ≤ 100000000) (he : e.toNat < l.length) (hj : ∀ (h : e.toNat < rs.length), jobAt s e.toNat < rs[e.toNat].length) : RnI l rs (stepEnd l rs s e) K (N + 1) := by
  refine ⟨h.val, h.len, h.inI, h.rel0, by simp only [stepEnd, List.length_set]; exact h.nj, by simp only [stepEnd, List.length_set]; exact h.nd, fun i hi => ?_, fun i => ?_, ?_, h.k1, hN⟩
  · by_cases c : i = e.toNat
    · subst c
      rw [step_job_eq (by rw [h.nj]; exact he)]
      exact hj hi
    · rw [step_job c]; exact h.job i hi
  · by_cases c : i = e.toNat
    · subst c
      rw [step_done_eq (by rw [h.nd]; exact he)]
      exact ⟨Int.le_refl _, by omega⟩
    · rw [step_done c]; exact h.done i
  · simp only [stepEnd, List.length_append]
    have := h.ms
    have := missOf_len l rs s e.toNat
    omega
theorem RnI.upN {l : List Tk} {rs : List (List Int)} {s : Rn} {K N N' : Nat} (h : RnI l rs s K N) (h1 : N ≤ N') (h2 : N' ≤ 100000000) : RnI l rs s K N' := ⟨h.val, h.len, h.inI, h.rel0, h.nj, h.nd, h.job, h.done, Nat.le_trans h.ms h1, h.k1, h2⟩
theorem mv3 {X Y : List Blk} {a b c : Blk} : (X ++ (a :: b :: c :: Y)).Perm (a :: b :: c :: (X ++ Y)) :=
  List.perm_middle.trans ((List.perm_middle.trans ((List.perm_middle (a := c)).cons b)).cons a)
theorem roll1 {X Y : List Blk} {z a b c : Blk} {w0 we w : World} {Le : List Blk} (h : Z w0 we Le (X ++ (z :: a :: b :: c :: (Y ++ []))) w) : Z w0 we Le (a :: b :: c :: (Y ++ X)) w := by
  have h1 : Z w0 we Le (X ++ (a :: b :: c :: Y)) w := h.sublist (by rw [List.append_nil]; exact (List.Sublist.refl X).append (List.sublist_cons_self _ _))
  exact (h1.perm mv3).perm (((List.perm_append_comm.cons c).cons b).cons a)
theorem nat_set (xs : List Nat) (i : Nat) (v : Nat) : (xs.map natV).set (0 + i * 1) (.int .i64 (v : Int)) = (xs.set i v).map natV := by rw [Nat.zero_add, Nat.mul_one, List.map_set]; rfl
theorem int_set (xs : List Int) (i : Nat) (v : Int) : (xs.map intV).set (0 + i * 1) (.int .i64 v) = (xs.set i v).map intV := by rw [Nat.zero_add, Nat.mul_one, List.map_set]; rfl
theorem eI_len (x : Int) : (eI x).length = 1 := rfl
theorem encM_one (x : Ms) : ∀ u ∈ encM x, u.oneCell' = true := by simp [encM, Value.oneCell']
theorem fold_snoc {α β : Type} {f : β → α → β} {xs : List α} {b : β} {q : Nat} (h : q < xs.length) : (xs.take (q + 1)).foldl f b = f ((xs.take q).foldl f b) xs[q] := by
  rw [List.take_succ_eq_append_getElem h, List.foldl_append]; rfl

theorem begin_calls (w0 w : World) (R J D : Nat) (lv rv mv : Value) (Lm : List Blk) (l : List Tk) (rs : List (List Int)) (s : Rn) (K N : Nat) (slot : Int) (hH : H w0 w (BN R J D lv rv mv l.length Lm s)) (hl : Rd encT 3 w0 lv l) (hr : Rd2 w0 rv rs) (hI : RnI l rs s K N) (hO : OS 99 3 mv (s.ms.flatMap encM) s.ms.length Lm) (hN : N + 40 ≤ 100000000) (hs0 : 0 ≤ slot) (hs1 : slot ≤ 1000000) : Calls Try.prog 43 #[.pointer (some ⟨R, 0, none⟩), .int .i64 slot] w fun e w' => ∃ v L', e = .returned v ∧ Z w0 w (BN R J D lv rv mv l.length Lm s) L' w' ∧ ∃ mv' Lm', L' = BN R J D lv rv mv' l.length Lm' (beginS l rs slot s) ∧ OS 99 3 mv' ((beginS l rs slot s).ms.flatMap encM) (beginS l rs slot s).ms.length Lm' ∧ RnI l rs (beginS l rs slot s) K (N + 40) := by
  have h40 := hI.n40
  have hlen := hI.len
  have hn1 := hI.n1
  have hms0 := hI.ms
  have hk1' := hI.k1
  obtain ⟨lA, lc, rfl⟩ : ∃ A c, lv = .slice A l.length c := by obtain ⟨A, c, h, _⟩ := hl; exact ⟨A, c, h⟩
  obtain ⟨rA, rc, rfl⟩ := hr.len
  refine enter (args := [_, _]) Try.func43 rfl rfl rfl (C := Z w0 w (BN R J D (.slice lA l.length lc) (.slice rA rs.length rc) mv l.length Lm s) (BN R J D (.slice lA l.length lc) (.slice rA rs.length rc) mv l.length Lm s)) (Z.start hH) ?_
  refine .seq (.reg (.q (.assign rfl) (.nil (.code ?_))))
  refine .seq (.seq (.reg (.q (.move rfl) (.q (.nilP rfl) (.q (.fld f96_0 rfl) (.q (.ldO o22 0 rfl rfl rfl) (.q (.lenS s22.t rfl) (.q (.move rfl) (.nil (.code ?_))))))))))
  refine .block (.lp (fun s : Nat × Value × List Blk => [(0, .pointer (some ⟨R, 0, none⟩)), (1, .int .i64 slot), (4, s.2.1), (13, .slice lA l.length lc), (14, .int .i64 (l.length : Int)), (15, .int .i64 (s.1 : Int))]) (fun z => BN R J D (.slice lA l.length lc) (.slice rA rs.length rc) mv l.length (Lm ++ z.2.2) s) (fun z => z.1 ≤ l.length ∧ OS 3 1 z.2.1 ((upTo (endF l rs slot s) z.1).flatMap eI) (upTo (endF l rs slot s) z.1).length z.2.2) (fun z => l.length - z.1) (0, .slice none 0 0, []) ⟨rfl, rfl, rfl, rfl, rfl, rfl, trivial⟩ (fun _ h => by rw [List.append_nil]; exact h) ⟨Nat.zero_le _, OS.nil _ _⟩ fun ⟨i, v, Lx⟩ hk => ?_)
  obtain ⟨hk1, hk2⟩ := hk
  simp only at hk1 hk2
  have hul := upTo_len (endF l rs slot s) i
  show WC _ _ _ _ (Z w0 w _ (BN R J D (.slice lA l.length lc) (.slice rA rs.length rc) mv l.length (Lm ++ Lx) s)) _
  refine .seq (.reg (.ltS rfl rfl (fun h16 => ?_) (fun h16 => ?_)))
  · have hi : i < rs.length := by omega
    have hij : i < s.job.length := by rw [hI.nj]; omega
    have hil : i < l.length := by omega
    obtain ⟨b, off, c, A2, c3, he, hcell, hrow⟩ := Rd2.at hr hi
    cases he
    obtain ⟨lb, lo, lc2, hle, hlc⟩ := Rd.at hl hil
    cases hle
    have hrb := Rd.len_bd hrow
    have hjb := hI.job i hi
    obtain ⟨k1, k2, k3⟩ := okT_bd (hI.tk hil)
    refine .nil (.code ?_)
    refine .seq (.tt (.skip (.code ?_)))
    refine .seq (.block (.seq (.reg (.q (.move rfl) (.q (.ix s22 rfl rfl (by omega)) (.q (.ldWA a62 (cs := encT l[i]) rfl rfl fun j hj => hlc j hj) (.alloc z62 fun b6 => .q (.assign rfl) (.stA a62 0 rfl rfl rfl rfl rfl rfl (.nil (.code ?_))))))))))
    refine .seq (.reg (.q (.move rfl) (.q (.nilP rfl) (.q (.fld f96_2 rfl) (.q (.ldO o37 1 rfl rfl rfl) (.q (.move rfl) (.q (.ix s37 rfl rfl (by omega)) (.q (.ldO (v := .int .i64 ((jobAt s i : Nat) : Int)) o3 2 rfl rfl (jobV hij)) (.q (.assign rfl) (.nil (.code ?_)))))))))))
    refine .seq (.draw mix (by kernel_rfl) (fun _ h => h.drew) (.q (.move rfl) (.q (.move rfl) (.q (.nilP rfl) (.q (.fld f96_1 rfl) (.q (.ldO o42 1 rfl rfl rfl) (.q (.move rfl) (.q (.ix s42 rfl rfl (by omega)) (.q (.ldW o37 rfl hcell) (.q (.lenS s37.t rfl) (.ltS rfl rfl (fun h36 => ?_) (fun h36 => ?_))))))))))))
    · have hk : jobAt s i < rs[i].length := by omega
      obtain ⟨xb, xo, xc, hxe, hx0⟩ := Rd.at hrow hk
      cases hxe
      have hin := hI.inI.at hi hk
      refine .q (.move rfl) (.q (.move rfl) (.q (.nilP rfl) (.q (.fld f96_1 rfl) (.q (.ldO o42 1 rfl rfl rfl) (.q (.move rfl) (.q (.ix s42 rfl rfl (by omega)) (.q (.ldW o37 rfl hcell) (.q (.move rfl) (.q (.ix s37 rfl rfl (by omega)) (.q (.ldW (v := .int .i64 rs[i][jobAt s i]) o3 rfl (by have := hx0 0 (by omega); exact this)) (.q (.move rfl) (.q (.fld f62_2 rfl) (.q (.ldO o3 0 rfl rfl rfl) (.q (.sub rfl rfl (IntWalk.i64_in _ (by omega))) (.leS rfl rfl (fun h52 => ?_) (fun h52 => ?_))))))))))))))))
      · have hx : endF l rs slot s i = some (i : Int) := by unfold endF; rw [List.getElem?_eq_getElem hil, relAt_some hi hk]; simp only; rw [if_pos (by omega)]
        refine .q (.pickT rfl rfl) (.nil (.code ?_))
        refine .tt (.reg (.q (.move rfl) (.q (.move rfl) (.bslice s37 rfl rfl rfl fun b56 => .app1 s37 (by omega) (by omega) rfl rfl hk2 (pkC (pkC (pkC (pkC (pkA (pkN _)))))) (by rfl) (show ∀ u ∈ [Value.int .i64 (i : Int)], u.oneCell' = true by simp [Value.oneCell']) (by omega) fun v57 L57 o57 => (.q (.assign rfl) (.nil (.inbN (.code ?_))))))))
        refine .reg (.q (.add rfl rfl (IntWalk.i64_in _ (by omega))) (.q (.move rfl) (.nil (.rd (i + 1, v57, L57) ⟨rfl, rfl, rfl, rfl, rfl, rfl, trivial⟩ (fun _ h => roll1 h) ⟨by simp only; omega, by rw [show upTo (endF l rs slot s) (i + 1) = upTo (endF l rs slot s) i ++ [_] from upTo_yes hx]; exact OS.snoc o57⟩ (by simp only; omega)))))
      · have hx : endF l rs slot s i = none := by unfold endF; rw [List.getElem?_eq_getElem hil, relAt_some hi hk]; simp only; rw [if_neg (by omega)]
        refine .q (.pickT rfl rfl) (.nil (.code ?_))
        refine .ff (.skip (.inbN (.code ?_)))
        refine .reg (.q (.add rfl rfl (IntWalk.i64_in _ (by omega))) (.q (.move rfl) (.nil (.rd (i + 1, v, Lx) ⟨rfl, rfl, rfl, rfl, rfl, rfl, trivial⟩ (fun _ h => drp h) ⟨by simp only; omega, by rw [show upTo (endF l rs slot s) (i + 1) = upTo (endF l rs slot s) i from upTo_no hx]; exact hk2⟩ (by simp only; omega)))))
    · have hx : endF l rs slot s i = none := by unfold endF; rw [List.getElem?_eq_getElem hil, relAt_none hi (by omega)]
      refine .q (.move rfl) (.skip (.skip (.skip (.skip (.skip (.skip (.skip (.skip (.skip (.skip (.skip (.skip (.skip (.skip (.skip (.q (.pickF rfl rfl) (.nil (.code ?_))))))))))))))))))
      refine .ff (.skip (.inbN (.code ?_)))
      refine .reg (.q (.add rfl rfl (IntWalk.i64_in _ (by omega))) (.q (.move rfl) (.nil (.rd (i + 1, v, Lx) ⟨rfl, rfl, rfl, rfl, rfl, rfl, trivial⟩ (fun _ h => drp h) ⟨by simp only; omega, by rw [show upTo (endF l rs slot s) (i + 1) = upTo (endF l rs slot s) i from upTo_no hx]; exact hk2⟩ (by simp only; omega)))))
  · have he0 : upTo (endF l rs slot s) i = endsS l rs slot s := by rw [endsS, show l.length = i by omega]
    rw [he0] at hk2 hul
    obtain ⟨es, hes⟩ : ∃ x, x = endsS l rs slot s := ⟨_, rfl⟩
    have hpw0 : es.Pairwise (fun x y => x < y) := by rw [hes]; exact ends_pw
    rw [← hes] at hk2 hul
    obtain ⟨eA, ec, rfl⟩ := OS.form hk2
    refine .nil (.code ?_)
    refine .seq (.ff (.exit (.thE (.thE (.inbX (.code ?_))))))
    refine .seq (.reg (.q (.move rfl) (.q (.lenS s37.t rfl) (.q (.move rfl) (.nil (.code ?_))))))
    refine .block (.lp (fun z : Nat × Rn × Value × List Blk => [(0, .pointer (some ⟨R, 0, none⟩)), (59, .slice eA es.length ec), (60, .int .i64 (es.length : Int)), (61, .int .i64 (z.1 : Int))]) (fun z => BN R J D (.slice lA l.length lc) (.slice rA rs.length rc) z.2.2.1 l.length (z.2.2.2 ++ Lx) z.2.1) (fun z => z.1 ≤ es.length ∧ z.2.1 = (es.take z.1).foldl (stepEnd l rs) s ∧ OS 99 3 z.2.2.1 (z.2.1.ms.flatMap encM) z.2.1.ms.length z.2.2.2 ∧ RnI l rs z.2.1 K (N + z.1) ∧ ∀ k (h : k < es.length), z.1 ≤ k → jobAt z.2.1 es[k].toNat = jobAt s es[k].toNat) (fun z => es.length - z.1) (0, s, mv, Lm) ⟨rfl, rfl, rfl, rfl, trivial⟩ (fun _ h => h) ⟨Nat.zero_le _, rfl, hO, hI, fun _ _ _ => rfl⟩ fun ⟨q, s1, mv1, Lm1⟩ hq => ?_)
    obtain ⟨hq1, hq2, hq3, hq4, hq5⟩ := hq
    simp only at hq1 hq2 hq3 hq4 hq5
    obtain ⟨mA, mc, rfl⟩ := OS.form hq3
    have hms := hq4.ms
    show WC _ _ _ _ (Z w0 w _ (BN R J D (.slice lA l.length lc) (.slice rA rs.length rc) (.slice mA s1.ms.length mc) l.length (Lm1 ++ Lx) s1)) _
    refine .seq (.reg (.ltS rfl rfl (fun h62 => ?_) (fun h62 => ?_)))
    · have hqe : q < es.length := by omega
      obtain ⟨cb, cc2, hce, hcr⟩ := OS.read eI_len hk2 hqe
      cases hce
      obtain ⟨he0', he1, r0, hrel⟩ := ends_mem (e := es[q]) (l := l) (rs := rs) (slot := slot) (s := s) (by rw [← hes]; exact List.getElem_mem hqe)
      have hi : es[q].toNat < rs.length := by omega
      have hij : es[q].toNat < s1.job.length := by rw [hq4.nj]; exact he1
      have hid : es[q].toNat < s1.done.length := by rw [hq4.nd]; exact he1
      obtain ⟨b, off, c, A2, c3, he, hcell, hrow⟩ := Rd2.at hr hi
      cases he
      obtain ⟨lb, lo, lc2, hle, hlc⟩ := Rd.at hl he1
      cases hle
      have hrb := Rd.len_bd hrow
      have hjl : jobAt s1 es[q].toNat < rs[es[q].toNat].length := by
        rw [hq5 q hqe (Nat.le_refl _)]
        rcases Nat.lt_or_ge (jobAt s es[q].toNat) rs[es[q].toNat].length with h9 | h9
        · exact h9
        · rw [relAt_none hi h9] at hrel; cases hrel
      obtain ⟨xb, xo, xc, hxe, hx0⟩ := Rd.at hrow hjl
      cases hxe
      have hdb := hq4.done es[q].toNat
      have hco : costAt l es[q].toNat = l[es[q].toNat].c := by unfold costAt; rw [List.getElem?_eq_getElem he1]; rfl
      have hnx : ∀ k (h : k < es.length), q + 1 ≤ k → jobAt (stepEnd l rs s1 es[q]) es[k].toNat = jobAt s es[k].toNat := fun k hk hqk => by
        have hpw := List.pairwise_iff_getElem.1 hpw0 q k hqe hk (by omega)
        rw [step_job (by omega)]
        exact hq5 k hk (by omega)
      refine .nil (.code ?_)
      refine .seq (.tt (.skip (.code ?_)))
      refine .seq (.block (.seq (.reg (.q (.ix s37 rfl rfl (by omega)) (.q (.ld (v := .int .i64 ((es[q].toNat : Nat) : Int)) o3 rfl (fun w1 hz => by rw [Int.toNat_of_nonneg he0']; exact hcr _ _ w1 _ _ hz (fun x hx => List.mem_cons_of_mem _ (List.mem_cons_of_mem _ (List.mem_cons_of_mem _ (List.mem_append_right _ hx)))) 0 (by omega))) (.q (.assign rfl) (.nil (.code ?_))))))))
      refine .seq (.seq (.draw mix (by kernel_rfl) (fun _ h => h.drew) (.q (.move rfl) (.q (.nilP rfl) (.q (.fld f96_3 rfl) (.q (.ldO o37 0 rfl rfl rfl) (.q (.move rfl) (.q (.ix s37 rfl rfl (by omega)) (.q (.ldO (v := .int .i64 (doneAt s1 es[q].toNat)) o3 2 rfl rfl (doneV hid)) (.q (.move rfl) (.q (.nilP rfl) (.q (.fld f96_0 rfl) (.q (.ldO o22 0 rfl rfl rfl) (.q (.move rfl) (.q (.ix s22 rfl rfl (by omega)) (.q (.fld f62_1 rfl) (.q (.ldW o3 rfl (hlc 1 (by omega))) (.ltS rfl rfl (fun h80 => ?_) (fun h80 => ?_)))))))))))))))))))
      · have hms1 : missOf l rs s1 es[q].toNat = [⟨((es[q].toNat : Nat) : Int), rs[es[q].toNat][jobAt s1 es[q].toNat], doneAt s1 es[q].toNat⟩] := by unfold missOf; rw [if_pos (by omega), relAt_some hi hjl]; rfl
        refine .nil (.code ?_)
        refine .tt (.drawS (F := Z w0 w _ (BN R J D (.slice (some ⟨lb, lo, none⟩) l.length lc) (.slice (some ⟨b, off, none⟩) rs.length rc) (.slice mA s1.ms.length mc) l.length [] s1)) mix [34] [] [0, 1, 2, 3, 4, 5, 6, 7, 8, 9, 10, 11, 12, 13, 14, 15, 16, 17, 18, 19, 20, 21, 22, 23, 24, 25, 26, 27, 28, 29] (.one 30 (.one 31 (.one 32 (.one 33 (.one 34 .nil))))) (by kernel_rfl) (fun _ h => h.drew) (fun _ h => h.sublist (.cons_cons _ (.cons_cons _ (.cons_cons _ (List.nil_sublist _))))) (.toS (.q (.move rfl) (.q (.move rfl) (.q (.nilP rfl) (.q (.fld f96_4 rfl) (.q (.ldO o46 0 rfl rfl rfl) (.q (.move rfl) (.q (.move rfl) (.q (.nilP rfl) (.q (.fld f96_1 rfl) (.q (.ldO o42 0 rfl rfl rfl) (.q (.move rfl) (.q (.ix s42 rfl rfl (by omega)) (.q (.ldW o37 rfl hcell) (.q (.move rfl) (.q (.nilP rfl) (.q (.fld f96_2 rfl) (.q (.ldO o37 0 rfl rfl rfl) (.q (.move rfl) (.q (.ix s37 rfl rfl (by omega)) (.q (.ldO (v := .int .i64 ((jobAt s1 es[q].toNat : Nat) : Int)) o3 1 rfl rfl (jobV hij)) (.q (.ix s37 rfl rfl (by omega)) (.q (.ldW (v := .int .i64 rs[es[q].toNat][jobAt s1 es[q].toNat]) o3 rfl (by have := hx0 0 (by omega); exact this)) (.q (.move rfl) (.q (.nilP rfl) (.q (.fld f96_3 rfl) (.q (.ldO o37 0 rfl rfl rfl) (.q (.move rfl) (.q (.ix s37 rfl rfl (by omega)) (.q (.ldO (v := .int .i64 (doneAt s1 es[q].toNat)) o3 2 rfl rfl (doneV hid)) (.q (.build st99 rfl rfl) (.toT (.step rfl (.bslice s46 rfl rfl rfl fun b111 => .nil (.tk (fun _ h => h.sublist (.cons _ (.cons_cons _ (.cons_cons _ (.cons_cons _ (List.nil_sublist _)))))) (.step rfl (.app1 s46 (by omega) (by omega) rfl rfl hq3 (pkC (pkC (pkC (.refl _)))) (by rfl) (encM_one ⟨((es[q].toNat : Nat) : Int), rs[es[q].toNat][jobAt s1 es[q].toNat], doneAt s1 es[q].toNat⟩) (by omega) fun v112 L112 p112 => (.nil (.tk (fun _ h => h.sublist (List.Sublist.trans (.cons_cons _ (.cons_cons _ (.cons_cons _ (List.nil_sublist _)))) (List.sublist_append_right _ _))) (.step rfl (?_))))))))))))))))))))))))))))))))))))))))))
        obtain ⟨nA, nc, hnv⟩ := OS.form p112
        subst hnv
        refine .world ?_ (fun _ h => zperm mv3 h)
        refine .q (.nilP rfl) (.nil (.tk (fun _ h => h.sublist (.cons_cons _ (.cons_cons _ (.cons_cons _ (List.nil_sublist _))))) (.step rfl (.q (.fld f96_4 rfl) (.nil (.tk (fun _ h => h.sublist (.cons_cons _ (.cons_cons _ (.cons_cons _ (List.nil_sublist _))))) (.step rfl (.st o46 0 rfl rfl rfl rfl rfl (.nil (.tkB (.nil (.code ?_))))))))))))
        refine .seq (.reg (.q (.move rfl) (.q (.nilP rfl) (.q (.fld f96_2 rfl) (.q (.ldO o37 0 rfl rfl rfl) (.q (.move rfl) (.q (.ix s37 rfl rfl (by omega)) (.q (.ldO (v := .int .i64 ((jobAt s1 es[q].toNat : Nat) : Int)) o3 1 rfl rfl (jobV hij)) (.q (.add rfl rfl (show _ = ((jobAt s1 es[q].toNat + 1 : Nat) : Int) by rw [IntWalk.i64_in _ (by omega)]; omega)) (.q (.ix s37 rfl rfl (by omega)) (.st o3 1 rfl rfl rfl rfl (by simp [Nat.blt_eq]; omega) (?_))))))))))))
        rw [nat_set]
        refine .nil (.code ?_)
        refine .reg (.q (.move rfl) (.q (.nilP rfl) (.q (.fld f96_3 rfl) (.q (.ldO o37 0 rfl rfl rfl) (.q (.move rfl) (.q (.ix s37 rfl rfl (by omega)) (.st o3 2 rfl rfl rfl rfl (by simp [Nat.blt_eq]; omega) (?_))))))))
        rw [int_set]
        refine .nil (.inbN (.code ?_))
        refine .reg (.q (.add rfl rfl (IntWalk.i64_in _ (by omega))) (.q (.move rfl) (.nil (.rd (q + 1, stepEnd l rs s1 es[q], .slice nA (s1.ms.length + 1) nc, L112) ⟨rfl, rfl, rfl, rfl, trivial⟩ (fun _ h => h) ⟨by simp only; omega, by simp only; rw [fold_snoc hqe, ← hq2], by simp only [stepEnd]; rw [hms1]; exact OS.snoc p112, step_I hq4 (show N + q + 1 ≤ 100000000 by omega) he1 (fun _ => hjl), hnx⟩ (by simp only; omega)))))
      · have hms1 : missOf l rs s1 es[q].toNat = [] := by unfold missOf; rw [if_neg (by omega)]
        refine .nil (.code ?_)
        refine .ff (.skip (.code ?_))
        refine .seq (.reg (.q (.move rfl) (.q (.nilP rfl) (.q (.fld f96_2 rfl) (.q (.ldO o37 0 rfl rfl rfl) (.q (.move rfl) (.q (.ix s37 rfl rfl (by omega)) (.q (.ldO (v := .int .i64 ((jobAt s1 es[q].toNat : Nat) : Int)) o3 1 rfl rfl (jobV hij)) (.q (.add rfl rfl (show _ = ((jobAt s1 es[q].toNat + 1 : Nat) : Int) by rw [IntWalk.i64_in _ (by omega)]; omega)) (.q (.ix s37 rfl rfl (by omega)) (.st o3 1 rfl rfl rfl rfl (by simp [Nat.blt_eq]; omega) (?_))))))))))))
        rw [nat_set]
        refine .nil (.code ?_)
        refine .reg (.q (.move rfl) (.q (.nilP rfl) (.q (.fld f96_3 rfl) (.q (.ldO o37 0 rfl rfl rfl) (.q (.move rfl) (.q (.ix s37 rfl rfl (by omega)) (.st o3 2 rfl rfl rfl rfl (by simp [Nat.blt_eq]; omega) (?_))))))))
        rw [int_set]
        refine .nil (.inbN (.code ?_))
        refine .reg (.q (.add rfl rfl (IntWalk.i64_in _ (by omega))) (.q (.move rfl) (.nil (.rd (q + 1, stepEnd l rs s1 es[q], .slice mA s1.ms.length mc, Lm1) ⟨rfl, rfl, rfl, rfl, trivial⟩ (fun _ h => h) ⟨by simp only; omega, by simp only; rw [fold_snoc hqe, ← hq2], by simp only [stepEnd]; rw [hms1, List.append_nil]; exact hq3, step_I hq4 (show N + q + 1 ≤ 100000000 by omega) he1 (fun _ => hjl), hnx⟩ (by simp only; omega)))))
    · have hbs : beginS l rs slot s = s1 := by rw [beginS, ← hes, hq2, List.take_of_length_le (by omega)]
      refine .nil (.code ?_)
      refine .seq (.ff (.exit (.thE (.thE (.inbX (.ret0 Try.results43 fun w1 hz => ⟨_, _, rfl, hz.sublist (.cons_cons _ (.cons_cons _ (.cons_cons _ (List.sublist_append_left Lm1 Lx)))), .slice mA s1.ms.length mc, Lm1, by rw [hbs]; rfl, by rw [hbs]; exact hq3, by rw [hbs]; exact RnI.upN hq4 (by omega) (by omega)⟩))))))

end Go.Proofs.Ytjccenbacjhglaa.S3
