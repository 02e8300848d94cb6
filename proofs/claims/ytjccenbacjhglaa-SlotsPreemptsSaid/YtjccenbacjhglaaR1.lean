import Derived.Test.YtjccenbacjhglaaProg
import Derived.Test.YtjccenbacjhglaaK
import Derived.Test.YtjccenbacjhglaaM
import Derived.Test.YtjccenbacjhglaaM4
import Derived.Test.YtjccenbacjhglaaIS
import Derived.Test.YtjccenbacjhglaaM2
import Derived.Test.YtjccenbacjhglaaPF
import Derived.Test.YtjccenbacjhglaaSO
import Derived.Test.YtjccenbacjhglaaAU
set_option linter.unusedVariables false
set_option linter.unusedSimpArgs false
set_option maxRecDepth 100000
namespace Go.Proofs.Ytjccenbacjhglaa.R1
open Go Go.Proofs Go.RowKit Go.Proofs.Ytjccenbacjhglaa.K Go.Proofs.Ytjccenbacjhglaa.M Go.Proofs.Ytjccenbacjhglaa.PF Go.Proofs.Ytjccenbacjhglaa.SO Go.Proofs.Ytjccenbacjhglaa.AU
theorem f87_1 : Fld Try.prog 87 1 1 := ⟨_, _, Try.underlying87, rfl, rfl, 0, by kernel_rfl⟩
theorem f87_2 : Fld Try.prog 87 2 2 := ⟨_, _, Try.underlying87, rfl, rfl, 0, by kernel_rfl⟩
theorem fn73 : Fnc Try.prog 73 := ⟨by kernel_rfl⟩
theorem fn111 : Fnc Try.prog 111 := ⟨by kernel_rfl⟩
theorem fn112 : Fnc Try.prog 112 := ⟨by kernel_rfl⟩
theorem mix : Try.prog.follows .mixedOrders = true := by kernel_rfl
theorem o3 : One Try.prog 3 := ⟨_, Try.underlying3, rfl, by kernel_rfl⟩
theorem s30 : Slc Try.prog 30 87 3 32 [.string ⟨#[]⟩, .int .i64 0, .int .i64 0] := ⟨Try.underlying30, by kernel_rfl, rfl⟩
theorem valid41_calls (w : World) (v : Value) (l : List Tk) (hl : Rd encT 3 w v l) : Calls Try.prog 32 #[v] w fun e w' => e = .returned (.bool (validT l)) ∧ Z w w [] [] w' := by
  obtain ⟨A, c, rfl⟩ : ∃ A c, v = .slice A l.length c := by obtain ⟨A, c, h, _⟩ := hl; exact ⟨A, c, h⟩
  refine enter (args := [_]) Try.func32 rfl rfl rfl (C := Z w w [] []) (Z.start (H.nil w)) ?_
  refine .seq (.reg (.q (.assign rfl) (.nil (.code ?_))))
  refine .seq (.seq (.reg (.q (.move rfl) (.q (.lenS s30.t rfl) (.gtS rfl rfl (fun h6 => ?_) (fun h6 => ?_))))))
  · refine .nil (.code ?_)
    refine .tt (.seq (.reg (.q (.assign rfl) (.nil (.code ?_)))))
    refine .ret (.thR (.ret1 Try.results32 rfl fun w hz => ⟨by rw [show validT l = false by simp [validT]; intro _; omega], hz⟩))
  · refine .nil (.code ?_)
    refine .ff (.skip (.code ?_))
    refine .seq (.seq (.reg (.q (.assign rfl) (.nil (.code ?_)))))
    refine .block (.lp (fun k : Nat => [(0, .slice A l.length c), (3, .int .i64 (k : Int))]) (fun _ => []) (fun k => k ≤ l.length ∧ (l.take k).all okT = true) (fun k => l.length - k) 0 ⟨rfl, rfl, trivial⟩ (fun _ h => h) ⟨Nat.zero_le _, by simp⟩ fun k hk => ?_)
    obtain ⟨hk1, hk2⟩ := hk
    refine .seq (.seq (.reg (.q (.move rfl) (.q (.move rfl) (.q (.lenS s30.t rfl) (.ltS rfl rfl (fun h10 => ?_) (fun h10 => ?_)))))))
    · have hlt : k < l.length := by omega
      obtain ⟨b, off, c2, he, hr⟩ := Rd.at hl hlt
      cases he
      refine .nil (.code ?_)
      refine .tt (.skip (.code ?_))
      refine .seq (.block (.seq (.draw mix (by kernel_rfl) (fun _ h => h.drew) (.q (.move rfl) (.q (.move rfl) (.q (.ix s30 rfl rfl (by omega)) (.q (.fld f87_1 rfl) (.q (.ldW o3 rfl (hr 1 (by omega))) (.ltS rfl rfl (fun h18 => ?_) (fun h18 => ?_))))))))))
      · refine .q (.move rfl) (.skip (.skip (.skip (.skip (.skip (.skip (.skip (.skip (.skip (.skip (.skip (.q (.pickT rfl rfl) (.q (.move rfl) (.skip (.skip (.skip (.skip (.skip (.skip (.q (.pickT rfl rfl) (.nil (.code ?_))))))))))))))))))))))
        refine .tt (.seq (.reg (.q (.assign rfl) (.nil (.code ?_)))))
        refine .ret (.inbR (.thR (.thR (.inbR (.thR (.ret1 Try.results32 rfl fun w hz => ⟨by rw [validT_no k hlt (by simp [okT]; omega)], hz⟩))))))
      · refine .q (.move rfl) (.q (.move rfl) (.q (.move rfl) (.q (.ix s30 rfl rfl (by omega)) (.q (.fld f87_2 rfl) (.q (.ldW o3 rfl (hr 2 (by omega))) (.q (.move rfl) (.q (.move rfl) (.q (.ix s30 rfl rfl (by omega)) (.q (.fld f87_1 rfl) (.q (.ldW o3 rfl (hr 1 (by omega))) (.ltS rfl rfl (fun h30 => ?_) (fun h30 => ?_))))))))))))
        · refine .q (.pickF rfl rfl) (.q (.move rfl) (.skip (.skip (.skip (.skip (.skip (.skip (.q (.pickT rfl rfl) (.nil (.code ?_))))))))))
          refine .tt (.seq (.reg (.q (.assign rfl) (.nil (.code ?_)))))
          refine .ret (.inbR (.thR (.thR (.inbR (.thR (.ret1 Try.results32 rfl fun w hz => ⟨by rw [validT_no k hlt (by simp [okT]; omega)], hz⟩))))))
        · refine .q (.pickF rfl rfl) (.q (.move rfl) (.q (.move rfl) (.q (.move rfl) (.q (.ix s30 rfl rfl (by omega)) (.q (.fld f87_2 rfl) (.q (.ldW o3 rfl (hr 2 (by omega))) (.q (.cmp rfl rfl rfl) (.q (.pickF rfl rfl) (.nil (.code ?_))))))))))
          refine .condP (fun h39 => ?_) (fun h39 => ?_)
          · refine .seq (.reg (.q (.assign rfl) (.nil (.code ?_))))
            refine .ret (.inbR (.thR (.thR (.inbR (.thR (.ret1 Try.results32 rfl fun w hz => ⟨by rw [validT_no k hlt (by simp [okT]; omega)], hz⟩))))))
          · refine .skip (.inbN (.code ?_))
            refine .reg (.q (.move rfl) (.q (.add rfl rfl (IntWalk.i64_in _ (by omega))) (.q (.assign rfl) (.nil (.rd (k + 1) ⟨rfl, rfl, trivial⟩ (fun _ h => h) ⟨by omega, take_all (by omega) hk2 (by simp [okT]; omega)⟩ (by omega))))))
    · refine .nil (.code ?_)
      refine .ff (.exit (.thE (.thE (.inbX (.code ?_)))))
      refine .seq (.reg (.q (.assign rfl) (.nil (.code ?_))))
      refine .ret (.ret1 Try.results32 rfl fun w hz => ⟨by rw [show validT l = true by rw [List.take_of_length_le (by omega)] at hk2; simp [validT, hk2]; omega], hz⟩)

theorem rwin_calls (w : World) (t : Tk) (i : Int) (ho : okT t = true) (h1 : 1 ≤ i) (h2 : i ≤ t.c) : Calls Try.prog 73 #[.int .i64 t.c, .int .i64 t.p, .int .i64 i] w fun e w' => e = .returned (.tuple #[.int .i64 (wRel t i), .int .i64 (wDl t i)]) ∧ Z w w [] [] w' := by
  obtain ⟨h3, h4, h5⟩ := okT_bd ho
  have hb := prod_bd (a := i) (b := t.p) (by omega) (by omega) (by omega) h5
  have hb' := prod_bd (a := i - 1) (b := t.p) (by omega) (by omega) (by omega) h5
  refine enter (args := [_, _, _]) Try.func73 rfl rfl rfl (C := Z w w [] []) (Z.start (H.nil w)) ?_
  refine .seq (.reg (.q (.assign rfl) (.q (.assign rfl) (.nil (.code ?_)))))
  refine .seq (.draw mix (by kernel_rfl) (fun _ h => h.drew) (.q (.move rfl) (.q (.sub rfl rfl (IntWalk.i64_in _ (by omega))) (.q (.move rfl) (.q (.mul rfl rfl (IntWalk.i64_in _ (by omega))) (.q (.move rfl) (.q (.quo rfl rfl (by omega) (IntWalk.i64_quo _ _ (by omega))) (.q (.move rfl) (.q (.move rfl) (.q (.mul rfl rfl (IntWalk.i64_in _ (by omega))) (.q (.move rfl) (.q (.add rfl rfl (IntWalk.i64_in _ (by omega))) (.q (.sub rfl rfl (IntWalk.i64_in _ (by omega))) (.q (.move rfl) (.q (.quo rfl rfl (by omega) (IntWalk.i64_quo _ _ (by omega))) (.q (.assign rfl) (.q (.assign rfl) (.nil (.code ?_)))))))))))))))))))
  refine .ret (.ret2 Try.results73 rfl rfl fun w hz => ⟨rfl, hz⟩)

theorem rovl_calls (w : World) (t : Tk) (i : Int) (ho : okT t = true) (h1 : 1 ≤ i) (h2 : i ≤ t.c) : Calls Try.prog 111 #[.int .i64 t.c, .int .i64 t.p, .int .i64 i] w fun e w' => e = .returned (.bool (overl t i)) ∧ Z w w [] [] w' := by
  obtain ⟨h3, h4, h5⟩ := okT_bd ho
  have hb := prod_bd (a := i) (b := t.p) (by omega) (by omega) (by omega) h5
  refine enter (args := [_, _, _]) Try.func111 rfl rfl rfl (C := Z w w [] []) (Z.start (H.nil w)) ?_
  refine .seq (.reg (.q (.assign rfl) (.nil (.code ?_))))
  refine .seq (.reg (.q (.move rfl) (.q (.move rfl) (.q (.mul rfl rfl (IntWalk.i64_in _ (by omega))) (.q (.move rfl) (.q (.rem rfl rfl (by omega) (Int.tmod_eq_emod_of_nonneg hb.1)) (.q (.cmp rfl rfl rfl) (.q (.assign rfl) (.nil (.code ?_))))))))))
  refine .ret (.ret1 Try.results111 rfl fun w hz => ⟨bv (by rw [overl_in (winE0.2 ⟨ho, h1, h2⟩), Bool.eq_iff_iff]; simp), hz⟩)

theorem rheavy_calls (w : World) (t : Tk) (ho : okT t = true) : Calls Try.prog 112 #[.int .i64 t.c, .int .i64 t.p] w fun e w' => e = .returned (.bool (heavy t)) ∧ Z w w [] [] w' := by
  obtain ⟨h3, h4, h5⟩ := okT_bd ho
  refine enter (args := [_, _]) Try.func112 rfl rfl rfl (C := Z w w [] []) (Z.start (H.nil w)) ?_
  refine .seq (.reg (.q (.assign rfl) (.nil (.code ?_))))
  refine .seq (.reg (.q (.move rfl) (.q (.move rfl) (.ltS rfl rfl (fun h7 => ?_) (fun h7 => ?_)))))
  · refine .q (.move rfl) (.q (.move rfl) (.q (.mul rfl rfl (IntWalk.i64_in _ (by omega))) (.q (.move rfl) (.q (.cmp rfl rfl rfl) (.q (.pickT rfl rfl) (.q (.assign rfl) (.nil (.code ?_))))))))
    refine .ret (.ret1 Try.results112 rfl fun w hz => ⟨bv (by simp [heavy, ho]; omega), hz⟩)
  · refine .q (.move rfl) (.skip (.skip (.skip (.skip (.q (.pickF rfl rfl) (.q (.assign rfl) (.nil (.code ?_))))))))
    refine .ret (.ret1 Try.results112 rfl fun w hz => ⟨bv (by simp [heavy, ho]; omega), hz⟩)

theorem rgroup_calls (w : World) (t : Tk) (i : Int) (ho : okT t = true) (h1 : 1 ≤ i) (h2 : i ≤ t.c) : Calls Try.prog 113 #[.int .i64 t.c, .int .i64 t.p, .int .i64 i] w fun e w' => e = .returned (.int .i64 (group t i)) ∧ Z w w [] [] w' := by
  obtain ⟨h3, h4, h5⟩ := okT_bd ho
  have hwi := window_bd t i
  rw [window_in (winE0.2 ⟨ho, h1, h2⟩)] at hwi
  obtain ⟨w1, w2, w3, w4⟩ := hwi
  simp only at w1 w2 w3 w4
  refine enter (args := [_, _, _]) Try.func113 rfl rfl rfl (C := Z w w [] []) (Z.start (H.nil w)) ?_
  refine .seq (.reg (.q (.assign rfl) (.nil (.code ?_))))
  refine .seq (.seq (.reg (.q (.move rfl) (.q (.move rfl) (.qB (.call fn112 rfl (fun w hz => rheavy_calls w t ho)) (fun h15 => ?_) (fun h15 => ?_))))))
  · refine .q (.notB rfl) (.nil (.code ?_))
    refine .ff (.skip (.code ?_))
    refine .seq (.reg (.q (.move rfl) (.q (.move rfl) (.q (.move rfl) (.q (.call fn73 rfl (fun w hz => rwin_calls w t i ho h1 h2)) (.q (.move rfl) (.q (.ext rfl rfl) (.q (.ext rfl rfl) (.q (.assign rfl) (.q (.assign rfl) (.nil (.code ?_))))))))))))
    refine .seq (.seq (.reg (.q (.move rfl) (.q (.assign rfl) (.nil (.code ?_))))))
    refine .block (.lp (fun s : Int => [(0, .int .i64 t.c), (1, .int .i64 t.p), (2, .int .i64 i), (8, .int .i64 (wDl t i)), (9, .int .i64 s)]) (fun _ => []) (fun s => wDl t i ≤ s ∧ s ≤ t.p + 1 + wDl t i ∧ ∀ r, wDl t i ≤ r → r < s → ∀ k, 1 ≤ k → k ≤ t.c → ¬ hit t r k) (fun s => (t.p + 1 - s).toNat) (wDl t i) ⟨rfl, rfl, rfl, rfl, rfl, trivial⟩ (fun _ h => h) ⟨Int.le_refl _, by omega, fun r a b => absurd b (by omega)⟩ fun s hk => ?_)
    obtain ⟨hk1, hk2, hk3⟩ := hk
    refine .seq (.seq (.reg (.q (.move rfl) (.q (.move rfl) (.leS rfl rfl (fun h27 => ?_) (fun h27 => ?_))))))
    · refine .nil (.code ?_)
      refine .tt (.skip (.code ?_))
      refine .seq (.block (.seq (.reg (.q (.assign rfl) (.nil (.code ?_))))))
      refine .block (.lp (fun k : Int => [(0, .int .i64 t.c), (1, .int .i64 t.p), (2, .int .i64 i), (8, .int .i64 (wDl t i)), (9, .int .i64 s), (10, .int .i64 k)]) (fun _ => []) (fun k => 1 ≤ k ∧ k ≤ t.c + 1 ∧ ∀ l, 1 ≤ l → l < k → ¬ hit t s l) (fun k => (t.c + 1 - k).toNat) 1 ⟨rfl, rfl, rfl, rfl, rfl, rfl, trivial⟩ (fun _ h => h) ⟨Int.le_refl _, by omega, fun l a b => absurd b (by omega)⟩ fun k hq => ?_)
      obtain ⟨hq1, hq2, hq3⟩ := hq
      refine .seq (.seq (.reg (.q (.move rfl) (.q (.move rfl) (.leS rfl rfl (fun h32 => ?_) (fun h32 => ?_))))))
      · have hwk := window_bd t k
        rw [window_in (winE0.2 ⟨ho, hq1, (by omega)⟩)] at hwk
        obtain ⟨v1, v2, v3, v4⟩ := hwk
        simp only at v1 v2 v3 v4
        refine .nil (.code ?_)
        refine .tt (.skip (.code ?_))
        refine .seq (.block (.seq (.reg (.q (.move rfl) (.q (.move rfl) (.q (.move rfl) (.q (.call fn73 rfl (fun w hz => rwin_calls w t k ho hq1 (by omega))) (.q (.move rfl) (.q (.ext rfl rfl) (.q (.ext rfl rfl) (.q (.assign rfl) (.q (.assign rfl) (.nil (.code ?_))))))))))))))
        refine .seq (.reg (.q (.move rfl) (.q (.move rfl) (.eqS rfl rfl (fun h44 => ?_) (fun h44 => ?_)))))
        · refine .q (.move rfl) (.q (.move rfl) (.q (.move rfl) (.q (.move rfl) (.qB (.call fn111 rfl (fun w hz => rovl_calls w t k ho hq1 (by omega))) (fun h49 => ?_) (fun h49 => ?_)))))
          · refine .q (.notB rfl) (.q (.pickT rfl rfl) (.q (.move rfl) (.q (.move rfl) (.q (.add rfl rfl (IntWalk.i64_in _ (by omega))) (.q (.move rfl) (.eqS rfl rfl (fun h56 => ?_) (fun h56 => ?_)))))))
            · refine .q (.move rfl) (.q (.move rfl) (.q (.move rfl) (.q (.sub rfl rfl (IntWalk.i64_in _ (by omega))) (.eqS rfl rfl (fun h61 => ?_) (fun h61 => ?_)))))
              · have hhit : hit t s k := .inr ⟨h56, h61⟩
                refine .q (.pickT rfl rfl) (.q (.pickF rfl rfl) (.nil (.code ?_)))
                refine .tt (.seq (.reg (.q (.move rfl) (.q (.assign rfl) (.nil (.code ?_))))))
                refine .ret (.inbR (.thR (.thR (.inbR (.inbR (.thR (.thR (.inbR (.thR (.ret1 Try.results113 rfl fun w hz => ⟨iv (group_eq h15 h1 h2 hk1 ⟨k, hq1, by omega, hhit⟩ hk3), hz⟩))))))))))
              · have hno : ¬ hit t s k := by
                  rintro (⟨e1, e2⟩ | ⟨e1, e2⟩)
                  · first | exact absurd e1 h44 | (rw [h49] at e2; cases e2)
                  · exact h61 e2
                refine .q (.pickT rfl rfl) (.q (.pickF rfl rfl) (.nil (.code ?_)))
                refine .ff (.skip (.inbN (.code ?_)))
                refine .reg (.q (.move rfl) (.q (.add rfl rfl (IntWalk.i64_in _ (by omega))) (.q (.assign rfl) (.nil (.rd (k + 1) ⟨rfl, rfl, rfl, rfl, rfl, rfl, trivial⟩ (fun _ h => h) ⟨by omega, by omega, fun l l1 l2 => by
      rcases Int.lt_or_le l k with h6 | h6
      · exact hq3 l l1 h6
      · obtain rfl : l = k := by omega
        exact hno⟩ (by omega))))))
            · have hno : ¬ hit t s k := by
                rintro (⟨e1, e2⟩ | ⟨e1, e2⟩)
                · first | exact absurd e1 h44 | (rw [h49] at e2; cases e2)
                · exact h56 e1
              refine .q (.move rfl) (.skip (.skip (.skip (.skip (.q (.pickF rfl rfl) (.q (.pickF rfl rfl) (.nil (.code ?_))))))))
              refine .ff (.skip (.inbN (.code ?_)))
              refine .reg (.q (.move rfl) (.q (.add rfl rfl (IntWalk.i64_in _ (by omega))) (.q (.assign rfl) (.nil (.rd (k + 1) ⟨rfl, rfl, rfl, rfl, rfl, rfl, trivial⟩ (fun _ h => h) ⟨by omega, by omega, fun l l1 l2 => by
      rcases Int.lt_or_le l k with h6 | h6
      · exact hq3 l l1 h6
      · obtain rfl : l = k := by omega
        exact hno⟩ (by omega))))))
          · have hhit : hit t s k := .inl ⟨h44, h49⟩
            refine .q (.notB rfl) (.q (.pickT rfl rfl) (.q (.move rfl) (.skip (.skip (.skip (.skip (.skip (.skip (.skip (.skip (.skip (.skip (.q (.pickT rfl rfl) (.nil (.code ?_)))))))))))))))
            refine .tt (.seq (.reg (.q (.move rfl) (.q (.assign rfl) (.nil (.code ?_))))))
            refine .ret (.inbR (.thR (.thR (.inbR (.inbR (.thR (.thR (.inbR (.thR (.ret1 Try.results113 rfl fun w hz => ⟨iv (group_eq h15 h1 h2 hk1 ⟨k, hq1, by omega, hhit⟩ hk3), hz⟩))))))))))
        · refine .q (.move rfl) (.skip (.skip (.skip (.skip (.skip (.q (.pickF rfl rfl) (.q (.move rfl) (.q (.move rfl) (.q (.add rfl rfl (IntWalk.i64_in _ (by omega))) (.q (.move rfl) (.eqS rfl rfl (fun h56 => ?_) (fun h56 => ?_))))))))))))
          · refine .q (.move rfl) (.q (.move rfl) (.q (.move rfl) (.q (.sub rfl rfl (IntWalk.i64_in _ (by omega))) (.eqS rfl rfl (fun h61 => ?_) (fun h61 => ?_)))))
            · have hhit : hit t s k := .inr ⟨h56, h61⟩
              refine .q (.pickT rfl rfl) (.q (.pickF rfl rfl) (.nil (.code ?_)))
              refine .tt (.seq (.reg (.q (.move rfl) (.q (.assign rfl) (.nil (.code ?_))))))
              refine .ret (.inbR (.thR (.thR (.inbR (.inbR (.thR (.thR (.inbR (.thR (.ret1 Try.results113 rfl fun w hz => ⟨iv (group_eq h15 h1 h2 hk1 ⟨k, hq1, by omega, hhit⟩ hk3), hz⟩))))))))))
            · have hno : ¬ hit t s k := by
                rintro (⟨e1, e2⟩ | ⟨e1, e2⟩)
                · first | exact absurd e1 h44 | (rw [h49] at e2; cases e2)
                · exact h61 e2
              refine .q (.pickT rfl rfl) (.q (.pickF rfl rfl) (.nil (.code ?_)))
              refine .ff (.skip (.inbN (.code ?_)))
              refine .reg (.q (.move rfl) (.q (.add rfl rfl (IntWalk.i64_in _ (by omega))) (.q (.assign rfl) (.nil (.rd (k + 1) ⟨rfl, rfl, rfl, rfl, rfl, rfl, trivial⟩ (fun _ h => h) ⟨by omega, by omega, fun l l1 l2 => by
      rcases Int.lt_or_le l k with h6 | h6
      · exact hq3 l l1 h6
      · obtain rfl : l = k := by omega
        exact hno⟩ (by omega))))))
          · have hno : ¬ hit t s k := by
              rintro (⟨e1, e2⟩ | ⟨e1, e2⟩)
              · first | exact absurd e1 h44 | (rw [h49] at e2; cases e2)
              · exact h56 e1
            refine .q (.move rfl) (.skip (.skip (.skip (.skip (.q (.pickF rfl rfl) (.q (.pickF rfl rfl) (.nil (.code ?_))))))))
            refine .ff (.skip (.inbN (.code ?_)))
            refine .reg (.q (.move rfl) (.q (.add rfl rfl (IntWalk.i64_in _ (by omega))) (.q (.assign rfl) (.nil (.rd (k + 1) ⟨rfl, rfl, rfl, rfl, rfl, rfl, trivial⟩ (fun _ h => h) ⟨by omega, by omega, fun l l1 l2 => by
      rcases Int.lt_or_le l k with h6 | h6
      · exact hq3 l l1 h6
      · obtain rfl : l = k := by omega
        exact hno⟩ (by omega))))))
      · refine .nil (.code ?_)
        refine .ff (.exit (.thE (.thE (.inbX (.inbN (.code ?_))))))
        refine .reg (.q (.move rfl) (.q (.add rfl rfl (IntWalk.i64_in _ (by omega))) (.q (.assign rfl) (.nil (.rd (s + 1) ⟨rfl, rfl, rfl, rfl, rfl, trivial⟩ (fun _ h => h) ⟨by omega, by omega, fun r r1 r2 k k1 k2 => by
      rcases Int.lt_or_le r s with h6 | h6
      · exact hk3 r r1 h6 k k1 k2
      · obtain rfl : r = s := by omega
        exact hq3 k k1 (by omega)⟩ (by omega))))))
    · refine .nil (.code ?_)
      refine .ff (.exit (.thE (.thE (.inbX (.code ?_)))))
      refine .seq (.reg (.q (.move rfl) (.q (.assign rfl) (.nil (.code ?_)))))
      refine .ret (.ret1 Try.results113 rfl fun w hz => ⟨iv (by
      obtain ⟨g1, g2, ⟨k, g3, g4, g5⟩, _⟩ := group_first h15 h1 h2
      rcases Int.lt_or_le (group t i) s with h6 | h6
      · exact absurd g5 (hk3 _ g1 h6 k g3 g4)
      · omega), hz⟩)
  · refine .q (.notB rfl) (.nil (.code ?_))
    refine .tt (.seq (.reg (.q (.assign rfl) (.nil (.code ?_)))))
    refine .ret (.thR (.ret1 Try.results113 rfl fun w hz => ⟨iv (by simp [group, h15]), hz⟩))

end Go.Proofs.Ytjccenbacjhglaa.R1
