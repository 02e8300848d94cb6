import Derived.Test.YtjccenbacjhglaaProg
import Derived.Test.YtjccenbacjhglaaK
import Derived.Test.YtjccenbacjhglaaM
import Derived.Test.YtjccenbacjhglaaIS
import Derived.Test.YtjccenbacjhglaaM2
import Derived.Test.YtjccenbacjhglaaMS
import Derived.Test.YtjccenbacjhglaaPF
import Derived.Test.YtjccenbacjhglaaSO
import Derived.Test.YtjccenbacjhglaaAU
import Derived.Test.YtjccenbacjhglaaR1
import Derived.Test.YtjccenbacjhglaaR2
import Derived.Test.YtjccenbacjhglaaR3
set_option linter.unusedVariables false
set_option linter.unusedSimpArgs false
set_option maxRecDepth 100000
set_option maxHeartbeats 4000000
namespace Go.Proofs.Ytjccenbacjhglaa.S1
open Go Go.Proofs Go.RowKit Go.Proofs.Ytjccenbacjhglaa.K Go.Proofs.Ytjccenbacjhglaa.M Go.Proofs.Ytjccenbacjhglaa.PF Go.Proofs.Ytjccenbacjhglaa.SO Go.Proofs.Ytjccenbacjhglaa.AU Go.Proofs.Ytjccenbacjhglaa.R1
theorem a62 : Ag Try.prog 62 3 := ⟨_, Try.underlying62, rfl, by kernel_rfl⟩
theorem f62_1 : Fld Try.prog 62 1 1 := ⟨_, _, Try.underlying62, rfl, rfl, 0, by kernel_rfl⟩
theorem f62_2 : Fld Try.prog 62 2 2 := ⟨_, _, Try.underlying62, rfl, rfl, 0, by kernel_rfl⟩
theorem f87_2 : Fld Try.prog 87 2 2 := ⟨_, _, Try.underlying87, rfl, rfl, 0, by kernel_rfl⟩
theorem fn28 : Fnc Try.prog 28 := ⟨by kernel_rfl⟩
theorem fn32 : Fnc Try.prog 32 := ⟨by kernel_rfl⟩
theorem mix : Try.prog.follows .mixedOrders = true := by kernel_rfl
theorem o3 : One Try.prog 3 := ⟨_, Try.underlying3, rfl, by kernel_rfl⟩
theorem o37 : One Try.prog 37 := ⟨_, Try.underlying37, rfl, by kernel_rfl⟩
theorem s22 : Slc Try.prog 22 62 3 32 [.string ⟨#[]⟩, .int .i64 0, .int .i64 0] := ⟨Try.underlying22, by kernel_rfl, rfl⟩
theorem s30 : Slc Try.prog 30 87 3 32 [.string ⟨#[]⟩, .int .i64 0, .int .i64 0] := ⟨Try.underlying30, by kernel_rfl, rfl⟩
theorem s37 : Slc Try.prog 37 3 1 8 [.int .i64 0] := ⟨Try.underlying37, by kernel_rfl, rfl⟩
theorem s42 : Slc Try.prog 42 37 1 24 [.slice none 0 0] := ⟨Try.underlying42, by kernel_rfl, rfl⟩
theorem z62 : Zr Try.prog 62 [.string ⟨#[]⟩, .int .i64 0, .int .i64 0] := ⟨by kernel_rfl⟩

/-- A slice of slices of numbers, read. -/
def Rd2 (w : World) (v : Value) (rs : List (List Int)) : Prop := ∃ vs : List Value, vs.length = rs.length ∧ Rd eV 1 w v vs ∧ ∀ i (h1 : i < vs.length) (h2 : i < rs.length), Rd eI 1 w vs[i] rs[i]
theorem Rd2.below {w w' : World} {v : Value} {rs : List (List Int)} (h : Rd2 w v rs) (hb : Below w.heap.size w w') : Rd2 w' v rs := by
  obtain ⟨vs, h1, h2, h3⟩ := h
  exact ⟨vs, h1, h2.below hb, fun i a b => (h3 i a b).below hb⟩
theorem Rd2.len {w : World} {v : Value} {rs : List (List Int)} (h : Rd2 w v rs) : ∃ A c, v = .slice A rs.length c := by
  obtain ⟨vs, h1, ⟨A, c, h2, _⟩, _⟩ := h
  exact ⟨A, c, by rw [h2, h1]⟩
/-- A row: where its slice lies, and what that holds. -/
theorem Rd2.at {w : World} {v : Value} {rs : List (List Int)} (h : Rd2 w v rs) {i : Nat} (hi : i < rs.length) : ∃ b off c A c2, v = .slice (some ⟨b, off, none⟩) rs.length c ∧ w.cell? ⟨b, off + i * 1, none⟩ = some (.slice A rs[i].length c2) ∧ Rd eI 1 w (.slice A rs[i].length c2) rs[i] := by
  obtain ⟨vs, h1, h2, h3⟩ := h
  have hi' : i < vs.length := by omega
  obtain ⟨b, off, c, h4, h5⟩ := Rd.at h2 hi'
  have h6 := h3 i hi' hi
  obtain ⟨A, c2, h7, _⟩ := id h6
  refine ⟨b, off, c, A, c2, by rw [h4, h1], ?_, by rw [← h7]; exact h6⟩
  have := h5 0 (by omega)
  rw [← h7]; exact this
theorem Rd2.bd {w : World} {v : Value} {rs : List (List Int)} (h : Rd2 w v rs) : rs.length ≤ 140737488355328 := by
  obtain ⟨vs, h1, ⟨A, c, _, h2, _⟩, _⟩ := h
  omega
theorem Rd.len_bd {α : Type} {enc : α → List Value} {k : Nat} {w : World} {v : Value} {xs : List α} (h : Rd enc k w v xs) : xs.length ≤ 140737488355328 := by
  obtain ⟨A, c, _, h2, _⟩ := h; exact h2
/-- Numbers that the machine holds. -/
def inI (rs : List (List Int)) : Prop := ∀ r ∈ rs, ∀ x ∈ r, -9223372036854775808 ≤ x ∧ x < 9223372036854775808
theorem inI.at {rs : List (List Int)} (h : inI rs) {i k : Nat} (hi : i < rs.length) (hk : k < rs[i].length) : -9223372036854775808 ≤ rs[i][k] ∧ rs[i][k] < 9223372036854775808 := h _ (List.getElem_mem hi) _ (List.getElem_mem hk)

theorem tvalid_calls (w : World) (v : Value) (l : List Tk) (hl : Rd encT 3 w v l) : Calls Try.prog 28 #[v] w fun e w' => e = .returned (.bool (validT l)) ∧ Z w w [] [] w' := by
  obtain ⟨A, c, rfl⟩ : ∃ A c, v = .slice A l.length c := by obtain ⟨A, c, h, _⟩ := hl; exact ⟨A, c, h⟩
  have hbl : l.length ≤ 140737488355328 := hl.choose_spec.choose_spec.2.1
  refine enter (args := [_]) Try.func28 rfl rfl rfl (C := Z w w [] []) (Z.start (H.nil w)) ?_
  refine .seq (.reg (.q (.assign rfl) (.nil (.code ?_))))
  refine .seq (.seq (.reg (.q (.move rfl) (.q (.lenS s22.t rfl) (.q (.move rfl) (.nil (.code ?_)))))))
  refine .block (.lp (fun k : Nat => [(0, .slice A l.length c), (5, .slice A l.length c), (6, .int .i64 (l.length : Int)), (7, .int .i64 (k : Int))]) (fun _ => []) (fun k => k ≤ l.length ∧ (l.take k).all okT = true) (fun k => l.length - k) 0 ⟨rfl, rfl, rfl, rfl, trivial⟩ (fun _ h => h) ⟨Nat.zero_le _, by simp⟩ fun k hk => ?_)
  obtain ⟨hk1, hk2⟩ := hk
  refine .seq (.reg (.ltS rfl rfl (fun h8 => ?_) (fun h8 => ?_)))
  · have hlt : k < l.length := by omega
    obtain ⟨b, off, c2, he, hr⟩ := Rd.at hl hlt
    cases he
    refine .nil (.code ?_)
    refine .seq (.tt (.skip (.code ?_)))
    refine .seq (.block (.seq (.reg (.q (.ix s22 rfl rfl (by omega)) (.q (.ldWA a62 (cs := encT l[k]) rfl rfl fun j hj => hr j hj) (.alloc z62 fun b4 => .stA a62 0 rfl rfl rfl rfl rfl rfl (.nil (.code ?_))))))))
    refine .seq (.reg (.q (.fld f62_1 rfl) (.q (.ldO o3 0 rfl rfl rfl) (.ltS rfl rfl (fun h13 => ?_) (fun h13 => ?_)))))
    · refine .q (.move rfl) (.skip (.skip (.skip (.skip (.skip (.q (.pickT rfl rfl) (.q (.move rfl) (.skip (.skip (.skip (.q (.pickT rfl rfl) (.nil (.code ?_)))))))))))))
      refine .tt (.seq (.reg (.q (.assign rfl) (.nil (.code ?_)))))
      refine .ret (.inbR (.thR (.thR (.inbR (.thR (.ret1 Try.results28 rfl fun w hz => ⟨by rw [validT_no k hlt (by simp [okT]; omega)], hz.sublist (List.nil_sublist _)⟩))))))
    · refine .q (.move rfl) (.q (.fld f62_2 rfl) (.q (.ldO o3 0 rfl rfl rfl) (.q (.fld f62_1 rfl) (.q (.ldO o3 0 rfl rfl rfl) (.ltS rfl rfl (fun h19 => ?_) (fun h19 => ?_))))))
      · refine .q (.pickF rfl rfl) (.q (.move rfl) (.skip (.skip (.skip (.q (.pickT rfl rfl) (.nil (.code ?_)))))))
        refine .tt (.seq (.reg (.q (.assign rfl) (.nil (.code ?_)))))
        refine .ret (.inbR (.thR (.thR (.inbR (.thR (.ret1 Try.results28 rfl fun w hz => ⟨by rw [validT_no k hlt (by simp [okT]; omega)], hz.sublist (List.nil_sublist _)⟩))))))
      · refine .q (.pickF rfl rfl) (.q (.move rfl) (.q (.fld f62_2 rfl) (.q (.ldO o3 0 rfl rfl rfl) (.gtS rfl rfl (fun h24 => ?_) (fun h24 => ?_)))))
        · refine .q (.pickF rfl rfl) (.nil (.code ?_))
          refine .tt (.seq (.reg (.q (.assign rfl) (.nil (.code ?_)))))
          refine .ret (.inbR (.thR (.thR (.inbR (.thR (.ret1 Try.results28 rfl fun w hz => ⟨by rw [validT_no k hlt (by simp [okT]; omega)], hz.sublist (List.nil_sublist _)⟩))))))
        · refine .q (.pickF rfl rfl) (.nil (.code ?_))
          refine .ff (.skip (.inbN (.code ?_)))
          refine .reg (.q (.add rfl rfl (IntWalk.i64_in _ (by omega))) (.q (.move rfl) (.nil (.rd (k + 1) ⟨rfl, rfl, rfl, rfl, trivial⟩ (fun _ h => drp h) ⟨by omega, take_all (by omega) hk2 (by simp [okT]; omega)⟩ (by omega)))))
  · refine .nil (.code ?_)
    refine .seq (.ff (.exit (.thE (.thE (.inbX (.code ?_))))))
    refine .seq (.reg (.q (.move rfl) (.q (.lenS s22.t rfl) (.q (.cmp rfl rfl rfl) (.q (.assign rfl) (.nil (.code ?_)))))))
    refine .ret (.ret1 Try.results28 rfl fun w hz => ⟨by rw [show validT l = decide ((l.length : Int) ≤ 40) by rw [List.take_of_length_le (by omega)] at hk2; simp [validT, hk2]; omega], hz.sublist (List.nil_sublist _)⟩)


/-- The rows up to i, and of row i what stands before k. -/
def RowOk (l : List Tk) (rs : List (List Int)) (i k : Nat) : Prop := ∀ (h : i < rs.length) (h' : i < l.length) (q : Nat) (hq : q < rs[i].length), q < k → 0 ≤ rs[i][q] ∧ (0 < q → l[i].p ≤ rs[i][q] - rs[i][q - 1])
def RowsOk (l : List Tk) (rs : List (List Int)) (n : Nat) : Prop := ∀ (i : Nat) (h : i < rs.length) (h' : i < l.length), i < n → rs[i].length ≤ 10000 ∧ RowOk l rs i rs[i].length
theorem rowOk_next {l : List Tk} {rs : List (List Int)} {i k : Nat} (h : RowOk l rs i k) (hx : ∀ (h : i < rs.length) (h' : i < l.length) (hq : k < rs[i].length), 0 ≤ rs[i][k] ∧ (0 < k → l[i].p ≤ rs[i][k] - rs[i][k - 1])) : RowOk l rs i (k + 1) := fun a b q hq hqk => by
  rcases Nat.lt_or_ge q k with h1 | h1
  · exact h a b q hq h1
  · obtain rfl : q = k := by omega
    exact hx a b hq
theorem rowsOk_next {l : List Tk} {rs : List (List Int)} {n k : Nat} (h : RowsOk l rs n) (h1 : ∀ (h : n < rs.length), rs[n].length ≤ 10000 ∧ rs[n].length ≤ k) (h2 : RowOk l rs n k) : RowsOk l rs (n + 1) := fun i a b hi => by
  rcases Nat.lt_or_ge i n with h3 | h3
  · exact h i a b h3
  · obtain rfl : i = n := by omega
    exact ⟨(h1 a).1, fun a' b' q hq hqk => h2 a' b' q hq (by have := (h1 a).2; omega)⟩
theorem valid_rows {l : List Tk} {rs : List (List Int)} {cores : Int} {n : Nat} (hv : validT l = true) (h1 : 1 ≤ cores) (h2 : cores ≤ 8) (h3 : rs.length = l.length) (h : RowsOk l rs n) (hn : rs.length ≤ n) : validS l cores rs = true :=
  validS_yes ⟨hv, h1, h2, h3, fun i a b => ⟨(h i a b (by omega)).1, fun k hk => (h i a b (by omega)).2 a b k hk hk⟩⟩
theorem invalid_t {l : List Tk} {rs : List (List Int)} {cores : Int} (h : validT l = false ∨ cores < 1 ∨ 8 < cores ∨ rs.length ≠ l.length) : validS l cores rs = false := validS_no fun ⟨a, b, c, d, _⟩ => by
  rcases h with h | h | h | h
  · rw [a] at h; cases h
  · omega
  · omega
  · exact h d
theorem invalid_len {l : List Tk} {rs : List (List Int)} {cores : Int} {i : Nat} (hi : i < rs.length) (h : 10000 < rs[i].length) : validS l cores rs = false := validS_no fun ⟨a, b, c, d, e⟩ => by
  have := (e i hi (by omega)).1
  omega
theorem invalid_at {l : List Tk} {rs : List (List Int)} {cores : Int} {i k : Nat} (hi : i < rs.length) (hl : i < l.length) (hk : k < rs[i].length) (h : rs[i][k] < 0 ∨ (0 < k ∧ rs[i][k] - rs[i][k - 1] < l[i].p)) : validS l cores rs = false := validS_no fun ⟨a, b, c, d, e⟩ => by
  have := (e i hi hl).2 k hk
  omega

theorem svalid_calls (w : World) (lv rv : Value) (l : List Tk) (cores : Int) (rs : List (List Int)) (hl : Rd encT 3 w lv l) (hr : Rd2 w rv rs) (hR : inI rs) : Calls Try.prog 41 #[lv, .int .i64 cores, rv] w fun e w' => e = .returned (.bool (validS l cores rs)) ∧ Z w w [] [] w' := by
  obtain ⟨lA, lc, rfl⟩ : ∃ A c, lv = .slice A l.length c := by obtain ⟨A, c, h, _⟩ := hl; exact ⟨A, c, h⟩
  obtain ⟨rA, rc, rfl⟩ := hr.len
  have hbl : l.length ≤ 140737488355328 := hl.choose_spec.choose_spec.2.1
  have hbr : rs.length ≤ 140737488355328 := hr.bd
  refine enter (args := [_, _, _]) Try.func41 rfl rfl rfl (C := Z w w [] []) (Z.start (H.nil w)) ?_
  refine .seq (.reg (.q (.assign rfl) (.nil (.code ?_))))
  refine .seq (.seq (.reg (.q (.move rfl) (.qB (.call fn28 rfl (fun w hz => tvalid_calls w _ l (hl.below hz.h.below))) (fun h12 => ?_) (fun h12 => ?_)))))
  · have hv : validT l = true := h12
    refine .q (.notB rfl) (.q (.move rfl) (.q (.move rfl) (.ltS rfl rfl (fun h16 => ?_) (fun h16 => ?_))))
    · refine .q (.pickF rfl rfl) (.q (.move rfl) (.skip (.skip (.q (.pickT rfl rfl) (.q (.move rfl) (.skip (.skip (.skip (.skip (.skip (.q (.pickT rfl rfl) (.nil (.code ?_)))))))))))))
      refine .tt (.seq (.reg (.q (.assign rfl) (.nil (.code ?_)))))
      refine .ret (.thR (.ret1 Try.results41 rfl fun w1 hz => ⟨by rw [invalid_t (by first | exact .inl hv | omega)], hz⟩))
    · refine .q (.pickF rfl rfl) (.q (.move rfl) (.q (.move rfl) (.gtS rfl rfl (fun h20 => ?_) (fun h20 => ?_))))
      · refine .q (.pickF rfl rfl) (.q (.move rfl) (.skip (.skip (.skip (.skip (.skip (.q (.pickT rfl rfl) (.nil (.code ?_)))))))))
        refine .tt (.seq (.reg (.q (.assign rfl) (.nil (.code ?_)))))
        refine .ret (.thR (.ret1 Try.results41 rfl fun w1 hz => ⟨by rw [invalid_t (by first | exact .inl hv | omega)], hz⟩))
      · refine .q (.pickF rfl rfl) (.q (.move rfl) (.q (.move rfl) (.q (.lenS s42.t rfl) (.q (.move rfl) (.q (.lenS s22.t rfl) (.neS rfl rfl (fun h27 => ?_) (fun h27 => ?_)))))))
        · refine .q (.pickF rfl rfl) (.nil (.code ?_))
          refine .tt (.seq (.reg (.q (.assign rfl) (.nil (.code ?_)))))
          refine .ret (.thR (.ret1 Try.results41 rfl fun w1 hz => ⟨by rw [invalid_t (by first | exact .inl hv | omega)], hz⟩))
        · refine .q (.pickF rfl rfl) (.nil (.code ?_))
          refine .ff (.skip (.code ?_))
          refine .seq (.seq (.reg (.q (.move rfl) (.q (.lenS s42.t rfl) (.q (.move rfl) (.nil (.code ?_)))))))
          refine .block (.lp (fun i : Nat => [(0, .slice lA l.length lc), (29, .slice rA rs.length rc), (30, .int .i64 (rs.length : Int)), (31, .int .i64 (i : Int))]) (fun _ => []) (fun i => RowsOk l rs i) (fun i => rs.length - i) 0 ⟨rfl, rfl, rfl, rfl, trivial⟩ (fun _ h => h) (fun i a b h => absurd h (by omega)) fun i hk1 => ?_)
          refine .seq (.reg (.ltS rfl rfl (fun h32 => ?_) (fun h32 => ?_)))
          · have hi : i < rs.length := by omega
            obtain ⟨b, off, c2, A2, c3, he, hcell, hrow⟩ := Rd2.at hr hi
            cases he
            have hil : i < l.length := by omega
            obtain ⟨lb, lo, lc2, hle, hlc⟩ := Rd.at hl hil
            cases hle
            refine .nil (.code ?_)
            refine .seq (.tt (.skip (.code ?_)))
            refine .seq (.block (.seq (.reg (.q (.move rfl) (.q (.ix s42 rfl rfl (by omega)) (.q (.ldW o37 rfl hcell) (.q (.assign rfl) (.q (.assign rfl) (.nil (.code ?_))))))))))
            refine .seq (.seq (.reg (.q (.move rfl) (.q (.lenS s37.t rfl) (.gtS rfl rfl (fun h38 => ?_) (fun h38 => ?_))))))
            · refine .nil (.code ?_)
              refine .tt (.seq (.reg (.q (.assign rfl) (.nil (.code ?_)))))
              refine .ret (.thR (.inbR (.thR (.thR (.inbR (.thR (.ret1 Try.results41 rfl fun w1 hz => ⟨by rw [invalid_len hi (by omega)], hz⟩)))))))
            · refine .nil (.code ?_)
              refine .ff (.skip (.code ?_))
              refine .seq (.reg (.q (.move rfl) (.q (.lenS s37.t rfl) (.q (.move rfl) (.nil (.code ?_))))))
              refine .block (.lp (fun k : Nat => [(0, .slice (some ⟨lb, lo, none⟩) l.length lc), (29, .slice (some ⟨b, off, none⟩) rs.length rc), (30, .int .i64 (rs.length : Int)), (31, .int .i64 (i : Int)), (7, .int .i64 (i : Int)), (8, .slice A2 rs[i].length c3), (39, .slice A2 rs[i].length c3), (40, .int .i64 (rs[i].length : Int)), (41, .int .i64 (k : Int))]) (fun _ => []) (fun k => RowOk l rs i k) (fun k => rs[i].length - k) 0 ⟨rfl, rfl, rfl, rfl, rfl, rfl, rfl, rfl, rfl, trivial⟩ (fun _ h => h) (fun a b q hq h => absurd h (by omega)) fun k hk2 => ?_)
              refine .seq (.reg (.ltS rfl rfl (fun h42 => ?_) (fun h42 => ?_)))
              · have hk : k < rs[i].length := by omega
                obtain ⟨xb, xo, xc, hxe, hx⟩ := Rd.at hrow hk
                cases hxe
                have hin := hR.at hi hk
                refine .nil (.code ?_)
                refine .seq (.tt (.skip (.code ?_)))
                refine .seq (.block (.seq (.reg (.q (.move rfl) (.q (.ix s37 rfl rfl (by omega)) (.q (.ldW (v := .int .i64 rs[i][k]) o3 rfl (by have := hx 0 (by omega); exact this)) (.q (.assign rfl) (.q (.assign rfl) (.nil (.code ?_))))))))))
                refine .seq (.draw mix (by kernel_rfl) (fun _ h => h.drew) (.q (.move rfl) (.ltS rfl rfl (fun h47 => ?_) (fun h47 => ?_))))
                · refine .q (.move rfl) (.skip (.skip (.skip (.skip (.skip (.skip (.skip (.skip (.skip (.skip (.skip (.skip (.skip (.skip (.skip (.skip (.skip (.q (.pickT rfl rfl) (.nil (.code ?_))))))))))))))))))))
                  refine .tt (.seq (.reg (.q (.assign rfl) (.nil (.code ?_)))))
                  refine .ret (.inbR (.thR (.thR (.inbR (.inbR (.thR (.thR (.inbR (.thR (.ret1 Try.results41 rfl fun w1 hz => ⟨by rw [invalid_at hi hil hk (by omega)], hz⟩))))))))))
                · refine .q (.move rfl) (.q (.move rfl) (.gtS rfl rfl (fun h50 => ?_) (fun h50 => ?_)))
                  · have hk0 : 0 < k := by omega
                    have hin2 := hR.at hi (show k - 1 < rs[i].length by omega)
                    have hprev := (hk2 hi hil (k - 1) (by omega) (by omega)).1
                    obtain ⟨yb, yo, yc, hye, hy⟩ := Rd.at hrow (show k - 1 < rs[i].length by omega)
                    cases hye
                    refine .q (.move rfl) (.q (.move rfl) (.q (.move rfl) (.q (.move rfl) (.q (.sub rfl rfl (show _ = ((k - 1 : Nat) : Int) by rw [IntWalk.i64_in _ (by omega)]; omega)) (.q (.ix s37 rfl rfl (by omega)) (.q (.ldW (v := .int .i64 rs[i][k - 1]) o3 rfl (by have := hy 0 (by omega); exact this)) (.q (.sub rfl rfl (IntWalk.i64_in _ (by omega))) (.q (.move rfl) (.q (.move rfl) (.q (.ix s22 rfl rfl (by omega)) (.q (.fld f62_2 rfl) (.q (.ldW o3 rfl (hlc 2 (by omega))) (.ltS rfl rfl (fun h64 => ?_) (fun h64 => ?_))))))))))))))
                    · refine .q (.pickT rfl rfl) (.q (.pickF rfl rfl) (.nil (.code ?_)))
                      refine .tt (.seq (.reg (.q (.assign rfl) (.nil (.code ?_)))))
                      refine .ret (.inbR (.thR (.thR (.inbR (.inbR (.thR (.thR (.inbR (.thR (.ret1 Try.results41 rfl fun w1 hz => ⟨by rw [invalid_at hi hil hk (by omega)], hz⟩))))))))))
                    · refine .q (.pickT rfl rfl) (.q (.pickF rfl rfl) (.nil (.code ?_)))
                      refine .ff (.skip (.inbN (.code ?_)))
                      refine .reg (.q (.add rfl rfl (IntWalk.i64_in _ (by omega))) (.q (.move rfl) (.nil (.rd (k + 1) ⟨rfl, rfl, rfl, rfl, rfl, rfl, rfl, rfl, rfl, trivial⟩ (fun _ h => h) (rowOk_next hk2 fun _ _ _ => ⟨by omega, by omega⟩) (by omega)))))
                  · refine .q (.move rfl) (.skip (.skip (.skip (.skip (.skip (.skip (.skip (.skip (.skip (.skip (.skip (.skip (.skip (.q (.pickF rfl rfl) (.q (.pickF rfl rfl) (.nil (.code ?_)))))))))))))))))
                    refine .ff (.skip (.inbN (.code ?_)))
                    refine .reg (.q (.add rfl rfl (IntWalk.i64_in _ (by omega))) (.q (.move rfl) (.nil (.rd (k + 1) ⟨rfl, rfl, rfl, rfl, rfl, rfl, rfl, rfl, rfl, trivial⟩ (fun _ h => h) (rowOk_next hk2 fun _ _ _ => ⟨by omega, by omega⟩) (by omega)))))
              · refine .nil (.code ?_)
                refine .seq (.ff (.exit (.thE (.thE (.inbX (.inbN (.code ?_)))))))
                refine .reg (.q (.add rfl rfl (IntWalk.i64_in _ (by omega))) (.q (.move rfl) (.nil (.rd (i + 1) ⟨rfl, rfl, rfl, rfl, trivial⟩ (fun _ h => h) (rowsOk_next (k := k) hk1 (fun _ => ⟨by omega, by omega⟩) hk2) (by omega)))))
          · refine .nil (.code ?_)
            refine .seq (.ff (.exit (.thE (.thE (.inbX (.code ?_))))))
            refine .seq (.reg (.q (.assign rfl) (.nil (.code ?_))))
            refine .ret (.ret1 Try.results41 rfl fun w1 hz => ⟨by rw [valid_rows hv (by omega) (by omega) (by omega) hk1 (by omega)], hz⟩)
  · have hv : validT l = false := h12
    refine .q (.notB rfl) (.q (.move rfl) (.skip (.skip (.q (.pickT rfl rfl) (.q (.move rfl) (.skip (.skip (.q (.pickT rfl rfl) (.q (.move rfl) (.skip (.skip (.skip (.skip (.skip (.q (.pickT rfl rfl) (.nil (.code ?_)))))))))))))))))
    refine .tt (.seq (.reg (.q (.assign rfl) (.nil (.code ?_)))))
    refine .ret (.thR (.ret1 Try.results41 rfl fun w1 hz => ⟨by rw [invalid_t (by first | exact .inl hv | omega)], hz⟩))

theorem rvalid_calls (w : World) (lv rv : Value) (l : List Tk) (cores : Int) (rs : List (List Int)) (hl : Rd encT 3 w lv l) (hr : Rd2 w rv rs) (hR : inI rs) : Calls Try.prog 55 #[lv, .int .i64 cores, rv] w fun e w' => e = .returned (.bool (validS l cores rs)) ∧ Z w w [] [] w' := by
  obtain ⟨lA, lc, rfl⟩ : ∃ A c, lv = .slice A l.length c := by obtain ⟨A, c, h, _⟩ := hl; exact ⟨A, c, h⟩
  obtain ⟨rA, rc, rfl⟩ := hr.len
  have hbl : l.length ≤ 140737488355328 := hl.choose_spec.choose_spec.2.1
  have hbr : rs.length ≤ 140737488355328 := hr.bd
  refine enter (args := [_, _, _]) Try.func55 rfl rfl rfl (C := Z w w [] []) (Z.start (H.nil w)) ?_
  refine .seq (.reg (.q (.assign rfl) (.nil (.code ?_))))
  refine .seq (.seq (.reg (.q (.move rfl) (.qB (.call fn32 rfl (fun w hz => valid41_calls w _ l (hl.below hz.h.below))) (fun h10 => ?_) (fun h10 => ?_)))))
  · have hv : validT l = true := h10
    refine .q (.notB rfl) (.q (.move rfl) (.q (.move rfl) (.ltS rfl rfl (fun h14 => ?_) (fun h14 => ?_))))
    · refine .q (.pickF rfl rfl) (.q (.move rfl) (.skip (.skip (.q (.pickT rfl rfl) (.q (.move rfl) (.skip (.skip (.skip (.skip (.skip (.q (.pickT rfl rfl) (.nil (.code ?_)))))))))))))
      refine .tt (.seq (.reg (.q (.assign rfl) (.nil (.code ?_)))))
      refine .ret (.thR (.ret1 Try.results55 rfl fun w1 hz => ⟨by rw [invalid_t (by first | exact .inl hv | omega)], hz⟩))
    · refine .q (.pickF rfl rfl) (.q (.move rfl) (.q (.move rfl) (.gtS rfl rfl (fun h18 => ?_) (fun h18 => ?_))))
      · refine .q (.pickF rfl rfl) (.q (.move rfl) (.skip (.skip (.skip (.skip (.skip (.q (.pickT rfl rfl) (.nil (.code ?_)))))))))
        refine .tt (.seq (.reg (.q (.assign rfl) (.nil (.code ?_)))))
        refine .ret (.thR (.ret1 Try.results55 rfl fun w1 hz => ⟨by rw [invalid_t (by first | exact .inl hv | omega)], hz⟩))
      · refine .q (.pickF rfl rfl) (.q (.move rfl) (.q (.move rfl) (.q (.lenS s42.t rfl) (.q (.move rfl) (.q (.lenS s30.t rfl) (.neS rfl rfl (fun h25 => ?_) (fun h25 => ?_)))))))
        · refine .q (.pickF rfl rfl) (.nil (.code ?_))
          refine .tt (.seq (.reg (.q (.assign rfl) (.nil (.code ?_)))))
          refine .ret (.thR (.ret1 Try.results55 rfl fun w1 hz => ⟨by rw [invalid_t (by first | exact .inl hv | omega)], hz⟩))
        · refine .q (.pickF rfl rfl) (.nil (.code ?_))
          refine .ff (.skip (.code ?_))
          refine .seq (.seq (.reg (.q (.assign rfl) (.nil (.code ?_)))))
          refine .block (.lp (fun i : Nat => [(0, .slice lA l.length lc), (2, .slice rA rs.length rc), (7, .int .i64 (i : Int))]) (fun _ => []) (fun i => RowsOk l rs i) (fun i => l.length - i) 0 ⟨rfl, rfl, rfl, trivial⟩ (fun _ h => h) (fun i a b h => absurd h (by omega)) fun i hk1 => ?_)
          refine .seq (.seq (.reg (.q (.move rfl) (.q (.move rfl) (.q (.lenS s30.t rfl) (.ltS rfl rfl (fun h30 => ?_) (fun h30 => ?_)))))))
          · have hi : i < rs.length := by omega
            obtain ⟨b, off, c2, A2, c3, he, hcell, hrow⟩ := Rd2.at hr hi
            cases he
            have hil : i < l.length := by omega
            obtain ⟨lb, lo, lc2, hle, hlc⟩ := Rd.at hl hil
            cases hle
            refine .nil (.code ?_)
            refine .tt (.skip (.code ?_))
            refine .seq (.block (.seq (.seq (.reg (.q (.move rfl) (.q (.move rfl) (.q (.ix s42 rfl rfl (by omega)) (.q (.ldW o37 rfl hcell) (.q (.lenS s37.t rfl) (.gtS rfl rfl (fun h38 => ?_) (fun h38 => ?_)))))))))))
            · refine .nil (.code ?_)
              refine .tt (.seq (.reg (.q (.assign rfl) (.nil (.code ?_)))))
              refine .ret (.thR (.inbR (.thR (.thR (.inbR (.thR (.ret1 Try.results55 rfl fun w1 hz => ⟨by rw [invalid_len hi (by omega)], hz⟩)))))))
            · refine .nil (.code ?_)
              refine .ff (.skip (.code ?_))
              refine .seq (.reg (.q (.assign rfl) (.nil (.code ?_))))
              refine .block (.lp (fun k : Nat => [(0, .slice (some ⟨lb, lo, none⟩) l.length lc), (2, .slice (some ⟨b, off, none⟩) rs.length rc), (7, .int .i64 (i : Int)), (8, .int .i64 (k : Int))]) (fun _ => []) (fun k => RowOk l rs i k) (fun k => rs[i].length - k) 0 ⟨rfl, rfl, rfl, rfl, trivial⟩ (fun _ h => h) (fun a b q hq h => absurd h (by omega)) fun k hk2 => ?_)
              refine .seq (.seq (.reg (.q (.move rfl) (.q (.move rfl) (.q (.move rfl) (.q (.ix s42 rfl rfl (by omega)) (.q (.ldW o37 rfl hcell) (.q (.lenS s37.t rfl) (.ltS rfl rfl (fun h45 => ?_) (fun h45 => ?_))))))))))
              · have hk : k < rs[i].length := by omega
                obtain ⟨xb, xo, xc, hxe, hx⟩ := Rd.at hrow hk
                cases hxe
                have hin := hR.at hi hk
                refine .nil (.code ?_)
                refine .tt (.skip (.code ?_))
                refine .seq (.block (.seq (.draw mix (by kernel_rfl) (fun _ h => h.drew) (.q (.move rfl) (.q (.move rfl) (.q (.ix s42 rfl rfl (by omega)) (.q (.ldW o37 rfl hcell) (.q (.move rfl) (.q (.ix s37 rfl rfl (by omega)) (.q (.ldW (v := .int .i64 rs[i][k]) o3 rfl (by have := hx 0 (by omega); exact this)) (.ltS rfl rfl (fun h55 => ?_) (fun h55 => ?_))))))))))))
                · refine .q (.move rfl) (.skip (.skip (.skip (.skip (.skip (.skip (.skip (.skip (.skip (.skip (.skip (.skip (.skip (.skip (.skip (.skip (.skip (.skip (.skip (.skip (.skip (.skip (.skip (.skip (.skip (.skip (.q (.pickT rfl rfl) (.nil (.code ?_)))))))))))))))))))))))))))))
                  refine .tt (.seq (.reg (.q (.assign rfl) (.nil (.code ?_)))))
                  refine .ret (.inbR (.thR (.thR (.inbR (.inbR (.thR (.thR (.inbR (.thR (.ret1 Try.results55 rfl fun w1 hz => ⟨by rw [invalid_at hi hil hk (by omega)], hz⟩))))))))))
                · refine .q (.move rfl) (.q (.move rfl) (.gtS rfl rfl (fun h58 => ?_) (fun h58 => ?_)))
                  · have hk0 : 0 < k := by omega
                    have hin2 := hR.at hi (show k - 1 < rs[i].length by omega)
                    have hprev := (hk2 hi hil (k - 1) (by omega) (by omega)).1
                    obtain ⟨yb, yo, yc, hye, hy⟩ := Rd.at hrow (show k - 1 < rs[i].length by omega)
                    cases hye
                    refine .q (.move rfl) (.q (.move rfl) (.q (.move rfl) (.q (.ix s42 rfl rfl (by omega)) (.q (.ldW o37 rfl hcell) (.q (.move rfl) (.q (.ix s37 rfl rfl (by omega)) (.q (.ldW (v := .int .i64 rs[i][k]) o3 rfl (by have := hx 0 (by omega); exact this)) (.q (.move rfl) (.q (.move rfl) (.q (.ix s42 rfl rfl (by omega)) (.q (.ldW o37 rfl hcell) (.q (.move rfl) (.q (.sub rfl rfl (show _ = ((k - 1 : Nat) : Int) by rw [IntWalk.i64_in _ (by omega)]; omega)) (.q (.ix s37 rfl rfl (by omega)) (.q (.ldW (v := .int .i64 rs[i][k - 1]) o3 rfl (by have := hy 0 (by omega); exact this)) (.q (.sub rfl rfl (IntWalk.i64_in _ (by omega))) (.q (.move rfl) (.q (.move rfl) (.q (.ix s30 rfl rfl (by omega)) (.q (.fld f87_2 rfl) (.q (.ldW o3 rfl (hlc 2 (by omega))) (.ltS rfl rfl (fun h81 => ?_) (fun h81 => ?_)))))))))))))))))))))))
                    · refine .q (.pickT rfl rfl) (.q (.pickF rfl rfl) (.nil (.code ?_)))
                      refine .tt (.seq (.reg (.q (.assign rfl) (.nil (.code ?_)))))
                      refine .ret (.inbR (.thR (.thR (.inbR (.inbR (.thR (.thR (.inbR (.thR (.ret1 Try.results55 rfl fun w1 hz => ⟨by rw [invalid_at hi hil hk (by omega)], hz⟩))))))))))
                    · refine .q (.pickT rfl rfl) (.q (.pickF rfl rfl) (.nil (.code ?_)))
                      refine .ff (.skip (.inbN (.code ?_)))
                      refine .reg (.q (.move rfl) (.q (.add rfl rfl (IntWalk.i64_in _ (by have := (Rd.len_bd hrow); omega))) (.q (.assign rfl) (.nil (.rd (k + 1) ⟨rfl, rfl, rfl, rfl, trivial⟩ (fun _ h => h) (rowOk_next hk2 fun _ _ _ => ⟨by omega, by omega⟩) (by omega))))))
                  · refine .q (.move rfl) (.skip (.skip (.skip (.skip (.skip (.skip (.skip (.skip (.skip (.skip (.skip (.skip (.skip (.skip (.skip (.skip (.skip (.skip (.skip (.skip (.skip (.skip (.q (.pickF rfl rfl) (.q (.pickF rfl rfl) (.nil (.code ?_))))))))))))))))))))))))))
                    refine .ff (.skip (.inbN (.code ?_)))
                    refine .reg (.q (.move rfl) (.q (.add rfl rfl (IntWalk.i64_in _ (by have := (Rd.len_bd hrow); omega))) (.q (.assign rfl) (.nil (.rd (k + 1) ⟨rfl, rfl, rfl, rfl, trivial⟩ (fun _ h => h) (rowOk_next hk2 fun _ _ _ => ⟨by omega, by omega⟩) (by omega))))))
              · refine .nil (.code ?_)
                refine .ff (.exit (.thE (.thE (.inbX (.inbN (.code ?_))))))
                refine .reg (.q (.move rfl) (.q (.add rfl rfl (IntWalk.i64_in _ (by omega))) (.q (.assign rfl) (.nil (.rd (i + 1) ⟨rfl, rfl, rfl, trivial⟩ (fun _ h => h) (rowsOk_next (k := k) hk1 (fun _ => ⟨by omega, by omega⟩) hk2) (by omega))))))
          · refine .nil (.code ?_)
            refine .ff (.exit (.thE (.thE (.inbX (.code ?_)))))
            refine .seq (.reg (.q (.assign rfl) (.nil (.code ?_))))
            refine .ret (.ret1 Try.results55 rfl fun w1 hz => ⟨by rw [valid_rows hv (by omega) (by omega) (by omega) hk1 (by omega)], hz⟩)
  · have hv : validT l = false := h10
    refine .q (.notB rfl) (.q (.move rfl) (.skip (.skip (.q (.pickT rfl rfl) (.q (.move rfl) (.skip (.skip (.q (.pickT rfl rfl) (.q (.move rfl) (.skip (.skip (.skip (.skip (.skip (.q (.pickT rfl rfl) (.nil (.code ?_)))))))))))))))))
    refine .tt (.seq (.reg (.q (.assign rfl) (.nil (.code ?_)))))
    refine .ret (.thR (.ret1 Try.results55 rfl fun w1 hz => ⟨by rw [invalid_t (by first | exact .inl hv | omega)], hz⟩))

end Go.Proofs.Ytjccenbacjhglaa.S1
