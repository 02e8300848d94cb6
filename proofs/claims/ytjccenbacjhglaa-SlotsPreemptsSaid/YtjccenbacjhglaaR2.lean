import Derived.Test.YtjccenbacjhglaaProg
import Derived.Test.YtjccenbacjhglaaK
import Derived.Test.YtjccenbacjhglaaM
import Derived.Test.YtjccenbacjhglaaM4
import Derived.Test.YtjccenbacjhglaaIS
import Derived.Test.YtjccenbacjhglaaM2
import Derived.Test.YtjccenbacjhglaaM5
import Derived.Test.YtjccenbacjhglaaPF
import Derived.Test.YtjccenbacjhglaaSO
import Derived.Test.YtjccenbacjhglaaAU
import Derived.Test.YtjccenbacjhglaaR1
set_option linter.unusedVariables false
set_option linter.unusedSimpArgs false
set_option maxRecDepth 100000
namespace Go.Proofs.Ytjccenbacjhglaa.R2
open Go Go.Proofs Go.RowKit Go.Proofs.Ytjccenbacjhglaa.K Go.Proofs.Ytjccenbacjhglaa.M Go.Proofs.Ytjccenbacjhglaa.PF Go.Proofs.Ytjccenbacjhglaa.SO Go.Proofs.Ytjccenbacjhglaa.AU Go.Proofs.Ytjccenbacjhglaa.R1
theorem a139 : Ag Try.prog 139 5 := ⟨_, Try.underlying139, rfl, by kernel_rfl⟩
theorem f139_0 : Fld Try.prog 139 0 0 := ⟨_, _, Try.underlying139, rfl, rfl, 0, by kernel_rfl⟩
theorem f139_1 : Fld Try.prog 139 1 1 := ⟨_, _, Try.underlying139, rfl, rfl, 0, by kernel_rfl⟩
theorem f139_2 : Fld Try.prog 139 2 2 := ⟨_, _, Try.underlying139, rfl, rfl, 0, by kernel_rfl⟩
theorem f139_3 : Fld Try.prog 139 3 3 := ⟨_, _, Try.underlying139, rfl, rfl, 0, by kernel_rfl⟩
theorem f139_4 : Fld Try.prog 139 4 4 := ⟨_, _, Try.underlying139, rfl, rfl, 0, by kernel_rfl⟩
theorem fn73 : Fnc Try.prog 73 := ⟨by kernel_rfl⟩
theorem fn93 : Fnc Try.prog 93 := ⟨by kernel_rfl⟩
theorem fn111 : Fnc Try.prog 111 := ⟨by kernel_rfl⟩
theorem fn112 : Fnc Try.prog 112 := ⟨by kernel_rfl⟩
theorem fn113 : Fnc Try.prog 113 := ⟨by kernel_rfl⟩
theorem mix : Try.prog.follows .mixedOrders = true := by kernel_rfl
theorem o3 : One Try.prog 3 := ⟨_, Try.underlying3, rfl, by kernel_rfl⟩
theorem o4 : One Try.prog 4 := ⟨_, Try.underlying4, rfl, by kernel_rfl⟩
theorem s37 : Slc Try.prog 37 3 1 8 [.int .i64 0] := ⟨Try.underlying37, by kernel_rfl, rfl⟩
theorem s136 : Slc Try.prog 136 139 5 40 [.int .i64 0, .int .i64 0, .int .i64 0, .int .i64 0, .int .i64 0] := ⟨Try.underlying136, by kernel_rfl, rfl⟩
theorem s166 : Slc Try.prog 166 4 1 1 [.bool false] := ⟨Try.underlying166, by kernel_rfl, rfl⟩

def okR (x : Cd) : Prop := okT x.t = true ∧ 1 ≤ x.i ∧ x.i ≤ x.t.c ∧ -1099511627776 ≤ x.r ∧ x.r ≤ 1099511627776
theorem okR.win {x : Cd} (h : okR x) : winE x.t x.i = 0 := winE0.2 ⟨h.1, h.2.1, h.2.2.1⟩
theorem okR.bd {x : Cd} (h : okR x) : 0 ≤ wRel x.t x.i ∧ wRel x.t x.i ≤ 1000000 ∧ 0 ≤ wDl x.t x.i ∧ wDl x.t x.i ≤ 1001000 := by
  have := window_bd x.t x.i
  rw [window_in h.win] at this
  exact this
theorem encRC_len (x : Cd) : (encRC x).length = 5 := rfl

theorem rbefore_calls (w : World) (a b : Cd) (ha : okR a) (hb : okR b) : Calls Try.prog 93 #[.agg (encRC a).toArray, .agg (encRC b).toArray] w fun e w' => e = .returned (.bool (before a b)) ∧ Z w w [] [] w' := by
  obtain ⟨wa1, wa2, wa3, wa4⟩ := ha.bd
  obtain ⟨wb1, wb2, wb3, wb4⟩ := hb.bd
  obtain ⟨oa, ia1, ia2, ra1, ra2⟩ := id ha
  obtain ⟨ob, ib1, ib2, rb1, rb2⟩ := id hb
  have ga := group_bd a.t a.i
  have gb := group_bd b.t b.i
  refine enter (args := [_, _]) Try.func93 rfl rfl rfl (C := Z w w [] []) (Z.start (H.nil w)) ?_
  refine .seq (.reg (.box rfl fun b2 => .box rfl fun b3 => .q (.assign rfl) (.nil (.code ?_))))
  refine .seq (.reg (.q (.fld f139_1 rfl) (.q (.ldO o3 1 rfl rfl rfl) (.q (.fld f139_2 rfl) (.q (.ldO o3 1 rfl rfl rfl) (.q (.fld f139_4 rfl) (.q (.ldO o3 1 rfl rfl rfl) (.q (.call fn73 rfl (fun w hz => rwin_calls w a.t a.i oa ia1 ia2)) (.q (.move rfl) (.q (.ext rfl rfl) (.q (.ext rfl rfl) (.q (.assign rfl) (.q (.assign rfl) (.nil (.code ?_)))))))))))))))
  refine .seq (.reg (.q (.fld f139_1 rfl) (.q (.ldO o3 0 rfl rfl rfl) (.q (.fld f139_2 rfl) (.q (.ldO o3 0 rfl rfl rfl) (.q (.fld f139_4 rfl) (.q (.ldO o3 0 rfl rfl rfl) (.q (.call fn73 rfl (fun w hz => rwin_calls w b.t b.i ob ib1 ib2)) (.q (.move rfl) (.q (.ext rfl rfl) (.q (.ext rfl rfl) (.q (.assign rfl) (.q (.assign rfl) (.nil (.code ?_)))))))))))))))
  refine .seq (.seq (.reg (.q (.fld f139_3 rfl) (.q (.ldO o3 1 rfl rfl rfl) (.q (.move rfl) (.q (.add rfl rfl (IntWalk.i64_in _ (by omega))) (.q (.fld f139_3 rfl) (.q (.ldO o3 0 rfl rfl rfl) (.q (.move rfl) (.q (.add rfl rfl (IntWalk.i64_in _ (by omega))) (.neS rfl rfl (fun h41 => ?_) (fun h41 => ?_))))))))))))
  · refine .nil (.code ?_)
    refine .tt (.seq (.reg (.q (.fld f139_3 rfl) (.q (.ldO o3 1 rfl rfl rfl) (.q (.move rfl) (.q (.add rfl rfl (IntWalk.i64_in _ (by omega))) (.q (.fld f139_3 rfl) (.q (.ldO o3 0 rfl rfl rfl) (.q (.move rfl) (.q (.add rfl rfl (IntWalk.i64_in _ (by omega))) (.q (.cmp rfl rfl rfl) (.q (.assign rfl) (.nil (.code ?_))))))))))))))
    refine .ret (.thR (.ret1 Try.results93 rfl fun w hz => ⟨bv (by simp [before, ha.win, hb.win, window_in ha.win, window_in hb.win, h41]), hz.sublist (List.nil_sublist _)⟩))
  · refine .nil (.code ?_)
    refine .ff (.skip (.code ?_))
    refine .seq (.draw mix (by kernel_rfl) (fun _ h => h.drew) (.q (.fld f139_1 rfl) (.q (.ldO o3 1 rfl rfl rfl) (.q (.fld f139_2 rfl) (.q (.ldO o3 1 rfl rfl rfl) (.q (.fld f139_4 rfl) (.q (.ldO o3 1 rfl rfl rfl) (.qB (.call fn111 rfl (fun w hz => rovl_calls w a.t a.i oa ia1 ia2)) (fun h57 => ?_) (fun h57 => ?_)))))))))
    · refine .q (.fld f139_1 rfl) (.q (.ldO o3 0 rfl rfl rfl) (.q (.fld f139_2 rfl) (.q (.ldO o3 0 rfl rfl rfl) (.q (.fld f139_4 rfl) (.q (.ldO o3 0 rfl rfl rfl) (.qB (.call fn111 rfl (fun w hz => rovl_calls w b.t b.i ob ib1 ib2)) (fun h64 => ?_) (fun h64 => ?_)))))))
      · refine .q (.assign rfl) (.q (.assign rfl) (.nil (.code ?_)))
        refine .seq (.seq (.reg (.q (.move rfl) (.q (.move rfl) (.q (.neB Try.underlying4 rfl rfl) (.nil (.code ?_)))))))
        refine .ff (.skip (.code ?_))
        refine .seq (.seq (.reg (.q (.move rfl) (.nil (.code ?_)))))
        refine .tt (.seq (.reg (.q (.assign rfl) (.q (.assign rfl) (.nil (.code ?_))))))
        refine .seq (.seq (.reg (.q (.fld f139_1 rfl) (.q (.ldO o3 1 rfl rfl rfl) (.q (.fld f139_2 rfl) (.q (.ldO o3 1 rfl rfl rfl) (.qB (.call fn112 rfl (fun w hz => rheavy_calls w a.t oa)) (fun h74 => ?_) (fun h74 => ?_))))))))
        · refine .nil (.code ?_)
          refine .tt (.draw mix (by kernel_rfl) (fun _ h => h.drew) (.q (.fld f139_3 rfl) (.q (.ldO o3 1 rfl rfl rfl) (.q (.fld f139_1 rfl) (.q (.ldO o3 1 rfl rfl rfl) (.q (.fld f139_2 rfl) (.q (.ldO o3 1 rfl rfl rfl) (.q (.fld f139_4 rfl) (.q (.ldO o3 1 rfl rfl rfl) (.q (.call fn113 rfl (fun w hz => rgroup_calls w a.t a.i oa ia1 ia2)) (.q (.add rfl rfl (IntWalk.i64_in _ (by omega))) (.q (.assign rfl) (.nil (.code ?_))))))))))))))
          refine .seq (.seq (.reg (.q (.fld f139_1 rfl) (.q (.ldO o3 0 rfl rfl rfl) (.q (.fld f139_2 rfl) (.q (.ldO o3 0 rfl rfl rfl) (.qB (.call fn112 rfl (fun w hz => rheavy_calls w b.t ob)) (fun h89 => ?_) (fun h89 => ?_))))))))
          · refine .nil (.code ?_)
            refine .tt (.draw mix (by kernel_rfl) (fun _ h => h.drew) (.q (.fld f139_3 rfl) (.q (.ldO o3 0 rfl rfl rfl) (.q (.fld f139_1 rfl) (.q (.ldO o3 0 rfl rfl rfl) (.q (.fld f139_2 rfl) (.q (.ldO o3 0 rfl rfl rfl) (.q (.fld f139_4 rfl) (.q (.ldO o3 0 rfl rfl rfl) (.q (.call fn113 rfl (fun w hz => rgroup_calls w b.t b.i ob ib1 ib2)) (.q (.add rfl rfl (IntWalk.i64_in _ (by omega))) (.q (.assign rfl) (.nil (.code ?_))))))))))))))
            refine .seq (.reg (.q (.move rfl) (.q (.move rfl) (.neS rfl rfl (fun h102 => ?_) (fun h102 => ?_)))))
            · refine .nil (.code ?_)
              refine .tt (.seq (.reg (.q (.move rfl) (.q (.move rfl) (.q (.cmp rfl rfl rfl) (.q (.assign rfl) (.nil (.code ?_))))))))
              refine .ret (.thR (.ret1 Try.results93 rfl fun w hz => ⟨bv (by have ga : cgroup a = a.r + group a.t a.i := (by simp [cgroup, h74]); have gb : cgroup b = b.r + group b.t b.i := (by simp [cgroup, h89]); simp [before, ha.win, hb.win, window_in ha.win, window_in hb.win, h41, h57, h64, ga, gb, h102]), hz.sublist (List.nil_sublist _)⟩))
            · refine .nil (.code ?_)
              refine .ff (.skip (.code ?_))
              refine .seq (.reg (.q (.fld f139_0 rfl) (.q (.ldO o3 1 rfl rfl rfl) (.q (.fld f139_0 rfl) (.q (.ldO o3 0 rfl rfl rfl) (.q (.cmp rfl rfl rfl) (.q (.assign rfl) (.nil (.code ?_)))))))))
              refine .ret (.ret1 Try.results93 rfl fun w hz => ⟨bv (by have ga : cgroup a = a.r + group a.t a.i := (by simp [cgroup, h74]); have gb : cgroup b = b.r + group b.t b.i := (by simp [cgroup, h89]); simp [before, ha.win, hb.win, window_in ha.win, window_in hb.win, h41, h57, h64, ga, gb, h102]), hz.sublist (List.nil_sublist _)⟩)
          · refine .nil (.code ?_)
            refine .ff (.skip (.code ?_))
            refine .seq (.reg (.q (.move rfl) (.q (.move rfl) (.neS rfl rfl (fun h102 => ?_) (fun h102 => ?_)))))
            · refine .nil (.code ?_)
              refine .tt (.seq (.reg (.q (.move rfl) (.q (.move rfl) (.q (.cmp rfl rfl rfl) (.q (.assign rfl) (.nil (.code ?_))))))))
              refine .ret (.thR (.ret1 Try.results93 rfl fun w hz => ⟨bv (by have ga : cgroup a = a.r + group a.t a.i := (by simp [cgroup, h74]); have gb : cgroup b = 0 := (by simp [cgroup, h89]); simp [before, ha.win, hb.win, window_in ha.win, window_in hb.win, h41, h57, h64, ga, gb, h102]), hz.sublist (List.nil_sublist _)⟩))
            · refine .nil (.code ?_)
              refine .ff (.skip (.code ?_))
              refine .seq (.reg (.q (.fld f139_0 rfl) (.q (.ldO o3 1 rfl rfl rfl) (.q (.fld f139_0 rfl) (.q (.ldO o3 0 rfl rfl rfl) (.q (.cmp rfl rfl rfl) (.q (.assign rfl) (.nil (.code ?_)))))))))
              refine .ret (.ret1 Try.results93 rfl fun w hz => ⟨bv (by have ga : cgroup a = a.r + group a.t a.i := (by simp [cgroup, h74]); have gb : cgroup b = 0 := (by simp [cgroup, h89]); simp [before, ha.win, hb.win, window_in ha.win, window_in hb.win, h41, h57, h64, ga, gb, h102]), hz.sublist (List.nil_sublist _)⟩)
        · refine .nil (.code ?_)
          refine .ff (.skip (.code ?_))
          refine .seq (.seq (.reg (.q (.fld f139_1 rfl) (.q (.ldO o3 0 rfl rfl rfl) (.q (.fld f139_2 rfl) (.q (.ldO o3 0 rfl rfl rfl) (.qB (.call fn112 rfl (fun w hz => rheavy_calls w b.t ob)) (fun h89 => ?_) (fun h89 => ?_))))))))
          · refine .nil (.code ?_)
            refine .tt (.draw mix (by kernel_rfl) (fun _ h => h.drew) (.q (.fld f139_3 rfl) (.q (.ldO o3 0 rfl rfl rfl) (.q (.fld f139_1 rfl) (.q (.ldO o3 0 rfl rfl rfl) (.q (.fld f139_2 rfl) (.q (.ldO o3 0 rfl rfl rfl) (.q (.fld f139_4 rfl) (.q (.ldO o3 0 rfl rfl rfl) (.q (.call fn113 rfl (fun w hz => rgroup_calls w b.t b.i ob ib1 ib2)) (.q (.add rfl rfl (IntWalk.i64_in _ (by omega))) (.q (.assign rfl) (.nil (.code ?_))))))))))))))
            refine .seq (.reg (.q (.move rfl) (.q (.move rfl) (.neS rfl rfl (fun h102 => ?_) (fun h102 => ?_)))))
            · refine .nil (.code ?_)
              refine .tt (.seq (.reg (.q (.move rfl) (.q (.move rfl) (.q (.cmp rfl rfl rfl) (.q (.assign rfl) (.nil (.code ?_))))))))
              refine .ret (.thR (.ret1 Try.results93 rfl fun w hz => ⟨bv (by have ga : cgroup a = 0 := (by simp [cgroup, h74]); have gb : cgroup b = b.r + group b.t b.i := (by simp [cgroup, h89]); simp [before, ha.win, hb.win, window_in ha.win, window_in hb.win, h41, h57, h64, ga, gb, h102]), hz.sublist (List.nil_sublist _)⟩))
            · refine .nil (.code ?_)
              refine .ff (.skip (.code ?_))
              refine .seq (.reg (.q (.fld f139_0 rfl) (.q (.ldO o3 1 rfl rfl rfl) (.q (.fld f139_0 rfl) (.q (.ldO o3 0 rfl rfl rfl) (.q (.cmp rfl rfl rfl) (.q (.assign rfl) (.nil (.code ?_)))))))))
              refine .ret (.ret1 Try.results93 rfl fun w hz => ⟨bv (by have ga : cgroup a = 0 := (by simp [cgroup, h74]); have gb : cgroup b = b.r + group b.t b.i := (by simp [cgroup, h89]); simp [before, ha.win, hb.win, window_in ha.win, window_in hb.win, h41, h57, h64, ga, gb, h102]), hz.sublist (List.nil_sublist _)⟩)
          · refine .nil (.code ?_)
            refine .ff (.skip (.code ?_))
            refine .seq (.reg (.q (.move rfl) (.q (.move rfl) (.neS rfl rfl (fun h102 => ?_) (fun h102 => ?_)))))
            · refine .nil (.code ?_)
              refine .tt (.seq (.reg (.q (.move rfl) (.q (.move rfl) (.q (.cmp rfl rfl rfl) (.q (.assign rfl) (.nil (.code ?_))))))))
              refine .ret (.thR (.ret1 Try.results93 rfl fun w hz => ⟨bv (by exact absurd rfl h102), hz.sublist (List.nil_sublist _)⟩))
            · refine .nil (.code ?_)
              refine .ff (.skip (.code ?_))
              refine .seq (.reg (.q (.fld f139_0 rfl) (.q (.ldO o3 1 rfl rfl rfl) (.q (.fld f139_0 rfl) (.q (.ldO o3 0 rfl rfl rfl) (.q (.cmp rfl rfl rfl) (.q (.assign rfl) (.nil (.code ?_)))))))))
              refine .ret (.ret1 Try.results93 rfl fun w hz => ⟨bv (by have ga : cgroup a = 0 := (by simp [cgroup, h74]); have gb : cgroup b = 0 := (by simp [cgroup, h89]); simp [before, ha.win, hb.win, window_in ha.win, window_in hb.win, h41, h57, h64, ga, gb, h102]), hz.sublist (List.nil_sublist _)⟩)
      · refine .q (.assign rfl) (.q (.assign rfl) (.nil (.code ?_)))
        refine .seq (.seq (.reg (.q (.move rfl) (.q (.move rfl) (.q (.neB Try.underlying4 rfl rfl) (.nil (.code ?_)))))))
        refine .tt (.seq (.reg (.q (.move rfl) (.q (.assign rfl) (.nil (.code ?_))))))
        refine .ret (.thR (.ret1 Try.results93 rfl fun w hz => ⟨bv (by simp [before, ha.win, hb.win, window_in ha.win, window_in hb.win, h41, h57, h64]), hz.sublist (List.nil_sublist _)⟩))
    · refine .q (.fld f139_1 rfl) (.q (.ldO o3 0 rfl rfl rfl) (.q (.fld f139_2 rfl) (.q (.ldO o3 0 rfl rfl rfl) (.q (.fld f139_4 rfl) (.q (.ldO o3 0 rfl rfl rfl) (.qB (.call fn111 rfl (fun w hz => rovl_calls w b.t b.i ob ib1 ib2)) (fun h64 => ?_) (fun h64 => ?_)))))))
      · refine .q (.assign rfl) (.q (.assign rfl) (.nil (.code ?_)))
        refine .seq (.seq (.reg (.q (.move rfl) (.q (.move rfl) (.q (.neB Try.underlying4 rfl rfl) (.nil (.code ?_)))))))
        refine .tt (.seq (.reg (.q (.move rfl) (.q (.assign rfl) (.nil (.code ?_))))))
        refine .ret (.thR (.ret1 Try.results93 rfl fun w hz => ⟨bv (by simp [before, ha.win, hb.win, window_in ha.win, window_in hb.win, h41, h57, h64]), hz.sublist (List.nil_sublist _)⟩))
      · refine .q (.assign rfl) (.q (.assign rfl) (.nil (.code ?_)))
        refine .seq (.seq (.reg (.q (.move rfl) (.q (.move rfl) (.q (.neB Try.underlying4 rfl rfl) (.nil (.code ?_)))))))
        refine .ff (.skip (.code ?_))
        refine .seq (.seq (.reg (.q (.move rfl) (.nil (.code ?_)))))
        refine .ff (.skip (.code ?_))
        refine .seq (.reg (.q (.fld f139_0 rfl) (.q (.ldO o3 1 rfl rfl rfl) (.q (.fld f139_0 rfl) (.q (.ldO o3 0 rfl rfl rfl) (.q (.cmp rfl rfl rfl) (.q (.assign rfl) (.nil (.code ?_)))))))))
        refine .ret (.ret1 Try.results93 rfl fun w hz => ⟨bv (by simp [before, ha.win, hb.win, window_in ha.win, window_in hb.win, h41, h57, h64]), hz.sublist (List.nil_sublist _)⟩)


def enI (x : Int) : List Value := [.int .i64 x]
def boolV (b : Bool) : Value := .bool b
theorem int_set (xs : List Int) (i : Nat) (v : Int) : (xs.map intV).set (0 + i * 1) (.int .i64 v) = (xs.set i v).map intV := by rw [Nat.zero_add, Nat.mul_one, List.map_set]; rfl
theorem bool_set (xs : List Bool) (i : Nat) (v : Bool) : (xs.map boolV).set (0 + i * 1) (.bool v) = (xs.set i v).map boolV := by rw [Nat.zero_add, Nat.mul_one, List.map_set]; rfl
def outI (bs : List Int) (i : Nat) : List Int := bs.take i ++ List.replicate (bs.length - i) 0
theorem outI_len {bs : List Int} {i : Nat} (h : i ≤ bs.length) : (outI bs i).length = bs.length := by simp [outI]; omega
theorem outI_set {bs : List Int} {i : Nat} (h : i < bs.length) : (outI bs i).set i bs[i] = outI bs (i + 1) := by
  unfold outI
  rw [List.set_append_right _ _ (by simp; omega), List.take_succ_eq_append_getElem h, List.append_assoc]
  congr 1
  have e1 : i - (bs.take i).length = 0 := by simp; omega
  have e2 : bs.length - i = (bs.length - (i + 1)) + 1 := by omega
  rw [e1, e2, List.replicate_succ]; rfl
theorem markU_snoc : ∀ (bs : List Int) (b : Int) (u : List Bool), markU (bs ++ [b]) u = if 0 ≤ b then (markU bs u).set b.toNat true else markU bs u
  | [], b, u => rfl
  | x :: bs, b, u => by rw [List.cons_append, markU, markU_snoc bs b, markU]
theorem markU_take {bs : List Int} {u : List Bool} {i : Nat} (h : i < bs.length) : markU (bs.take (i + 1)) u = if 0 ≤ bs[i] then (markU (bs.take i) u).set bs[i].toNat true else markU (bs.take i) u := by
  rw [List.take_succ_eq_append_getElem h, markU_snoc]
theorem markU_len : ∀ (bs : List Int) (u : List Bool), (markU bs u).length = u.length
  | [], u => rfl
  | b :: bs, u => by rw [markU, markU_len bs]; split <;> simp
theorem idx_first : ∀ {u : List Bool} {c : Nat} (hc : c < u.length), u[c] = false → (∀ k (hk : k < u.length), k < c → u[k] = true) → u.idxOf false = c
  | [], c, hc, _, _ => absurd hc (by simp)
  | x :: u, 0, hc, h, _ => by
    have : x = false := h
    subst this; rfl
  | x :: u, c + 1, hc, h, hall => by
    have h0 : x = true := hall 0 (by simp) (by omega)
    subst h0
    rw [List.idxOf_cons]
    have := idx_first (u := u) (c := c) (by simpa using hc) (by simpa using h) fun k hk hkc => by
      have := hall (k + 1) (by simpa using hk) (by omega)
      simpa using this
    simp [this]
theorem idx_none {u : List Bool} (h : ∀ k (hk : k < u.length), u[k] = true) : u.idxOf false = u.length := by
  refine List.idxOf_eq_length fun hm => ?_
  obtain ⟨k, hk, e⟩ := List.getElem_of_mem hm
  rw [h k hk] at e; cases e
theorem fillC_cons (b : Int) (bs : List Int) (u : List Bool) : fillC (b :: bs) u = if b < 0 then (if u.idxOf false < u.length then (u.idxOf false : Int) :: fillC bs (u.set (u.idxOf false) true) else b :: fillC bs u) else b :: fillC bs u := rfl
/-- How far the second run is: what it found, or nothing yet. -/
def Seek (bs : List Int) (u u' : List Bool) (o o' : List Int) (i c N : Nat) : Prop := (u' = u ∧ o' = o ∧ ∀ k (hk : k < u.length), k < c → u[k] = true) ∨ (∃ hi : i < bs.length, bs[i] < 0 ∧ ∃ c0, c0 < N ∧ u.idxOf false = c0 ∧ u' = u.set c0 true ∧ o' = o.set i (c0 : Int))
theorem seek_end {bs : List Int} {u u' : List Bool} {o o' : List Int} {i c N : Nat} (hi : i < bs.length) (hu : u.length = N) (ho : o.length = bs.length) (hoi : o[i]? = bs[i]?) (h : Seek bs u u' o o' i c N) (hend : N ≤ c ∨ ∃ x, o'[i]? = some x ∧ 0 ≤ x) : o'.length = bs.length ∧ u'.length = N ∧ (∃ x, o'[i]? = some x ∧ fillC (bs.drop i) u = x :: fillC (bs.drop (i + 1)) u') ∧ o'.take i = o.take i ∧ ∀ k, i + 1 ≤ k → o'[k]? = o[k]? := by
  have hd : bs.drop i = bs[i] :: bs.drop (i + 1) := (List.getElem_cons_drop hi).symm
  rw [List.getElem?_eq_getElem hi] at hoi
  rcases h with ⟨rfl, rfl, hall⟩ | ⟨_, hb, c0, hc0, hidx, rfl, rfl⟩
  · refine ⟨ho, hu, ⟨bs[i], hoi, ?_⟩, rfl, fun _ _ => rfl⟩
    rw [hd, fillC_cons]
    split
    · rename_i hneg
      rcases hend with h1 | ⟨x, h1, h2⟩
      · rw [if_neg (by rw [idx_none fun k hk => hall k hk (by omega)]; omega)]
      · rw [hoi] at h1
        have := Option.some.inj h1
        omega
    · rfl
  · refine ⟨by simpa using ho, by simpa using hu, ⟨(c0 : Int), List.getElem?_set_self (by omega), ?_⟩, ?_, fun k hk => List.getElem?_set_ne (by omega)⟩
    · rw [hd, fillC_cons, if_pos hb, if_pos (by omega), hidx]
    · rw [List.take_set_of_le (Nat.le_refl i)]
theorem seek_cons {bs o : List Int} {u : List Bool} {i : Nat} {x : Int} {l : List Int} (hi : i < o.length) (h1 : o[i]? = some x) : o.take (i + 1) ++ l = o.take i ++ x :: l := by
  rw [List.take_succ_eq_append_getElem hi]
  rw [List.getElem?_eq_getElem hi] at h1
  rw [Option.some.inj h1]; simp

theorem rcores_calls (w : World) (v : Value) (bs : List Int) (N : Nat) (hb : Rd enI 1 w v bs) (hN : N ≤ 1000) (hlen : bs.length ≤ 1000) (hr : ∀ b ∈ bs, b < (N : Int)) : Calls Try.prog 75 #[v, .int .i64 (N : Int)] w fun e w' => ∃ v L', e = .returned v ∧ Z w w [] L' w' ∧ ∃ b, v = .slice (some ⟨b, 0, none⟩) bs.length bs.length ∧ L' = [(b, .cells ((coresR bs N).map intV).toArray 3 (0, 0))] ∧ (coresR bs N).length = bs.length := by
  obtain ⟨A, c0, rfl⟩ : ∃ A c, v = .slice A bs.length c := by obtain ⟨A, c, h, _⟩ := hb; exact ⟨A, c, h⟩
  refine enter (args := [_, _]) Try.func75 rfl rfl rfl (C := Z w w [] []) (Z.start (H.nil w)) ?_
  refine .seq (.reg (.q (.assign rfl) (.nil (.code ?_))))
  refine .seq (.reg (.q (.move rfl) (.mk s166 rfl rfl (by omega) (by omega) (by omega) fun b11 => (.q (.assign rfl) (.nil (.code ?_))))))
  refine .seq (.reg (.q (.move rfl) (.q (.lenS s37.t rfl) (.mk s37 rfl rfl (by omega) (by omega) (by omega) fun b14 => (.q (.assign rfl) (.nil (.code ?_)))))))
  refine .seq (.seq (.reg (.q (.assign rfl) (.nil (.code ?_)))))
  refine .block (.lp (fun s : Nat × List Bool × List Int => [(0, .slice A bs.length c0), (1, .int .i64 (N : Int)), (5, .slice (some ⟨b11, 0, none⟩) N N), (6, .slice (some ⟨b14, 0, none⟩) bs.length bs.length), (7, .int .i64 (s.1 : Int))]) (fun s => [(b14, .cells (s.2.2.map intV).toArray 3 (0, 0)), (b11, .cells (s.2.1.map boolV).toArray 4 (0, 0))]) (fun s => s.1 ≤ bs.length ∧ s.2.1 = markU (bs.take s.1) (List.replicate N false) ∧ s.2.2 = outI bs s.1) (fun s => bs.length - s.1) (0, List.replicate N false, List.replicate bs.length 0) ⟨rfl, rfl, rfl, rfl, rfl, trivial⟩ (fun _ h => by rw [flat_rep, flat_rep] at h; simp only [List.map_replicate]; exact h) ⟨Nat.zero_le _, rfl, by simp [outI]⟩ fun ⟨i, u, o⟩ hk => ?_)
  obtain ⟨hk1, hk2, hk3⟩ := hk
  simp only at hk1 hk2 hk3
  have hul : u.length = N := by rw [hk2, markU_len]; simp
  have hol : o.length = bs.length := by rw [hk3]; exact outI_len hk1
  show WC _ _ _ _ (Z w w _ [(b14, .cells (o.map intV).toArray 3 (0, 0)), (b11, .cells (u.map boolV).toArray 4 (0, 0))]) _
  refine .seq (.seq (.reg (.q (.move rfl) (.q (.move rfl) (.q (.lenS s37.t rfl) (.ltS rfl rfl (fun h18 => ?_) (fun h18 => ?_)))))))
  · have hi : i < bs.length := by omega
    obtain ⟨bb, bo, bc2, hbe, hbr⟩ := Rd.at hb hi
    cases hbe
    have hbN := hr _ (List.getElem_mem hi)
    refine .nil (.code ?_)
    refine .tt (.skip (.code ?_))
    refine .seq (.block (.seq (.reg (.q (.move rfl) (.q (.move rfl) (.q (.move rfl) (.q (.move rfl) (.q (.ix s37 rfl rfl (by omega)) (.q (.ldW (v := .int .i64 bs[i]) o3 rfl (by have := hbr 0 (by omega); exact this)) (.q (.ix s37 rfl rfl (by omega)) (.st o3 0 rfl rfl rfl rfl (by simp [Nat.blt_eq]; omega) (?_))))))))))))
    rw [int_set]
    refine .nil (.code ?_)
    refine .seq (.reg (.q (.move rfl) (.q (.move rfl) (.q (.ix s37 rfl rfl (by omega)) (.q (.ldW (v := .int .i64 bs[i]) o3 rfl (by have := hbr 0 (by omega); exact this)) (.geS rfl rfl (fun h32 => ?_) (fun h32 => ?_)))))))
    · refine .nil (.code ?_)
      refine .tt (.reg (.q (.move rfl) (.q (.move rfl) (.q (.move rfl) (.q (.ix s37 rfl rfl (by omega)) (.q (.ldW (v := .int .i64 ((bs[i].toNat : Nat) : Int)) o3 rfl (by rw [Int.toNat_of_nonneg (by omega)]; have := hbr 0 (by omega); exact this)) (.q (.ix s166 rfl rfl (by omega)) (.st o4 1 rfl rfl rfl rfl (by simp [Nat.blt_eq]; omega) (?_)))))))))
      rw [bool_set]
      refine .nil (.inbN (.code ?_))
      refine .reg (.q (.move rfl) (.q (.add rfl rfl (IntWalk.i64_in _ (by omega))) (.q (.assign rfl) (.nil (.rd (i + 1, u.set bs[i].toNat true, o.set i bs[i]) ⟨rfl, rfl, rfl, rfl, rfl, trivial⟩ (fun _ h => h) ⟨by simp only; omega, by simp only; rw [markU_take hi, if_pos (by omega), ← hk2], by simp only; rw [hk3, outI_set hi]⟩ (by simp only; omega))))))
    · refine .nil (.code ?_)
      refine .ff (.skip (.inbN (.code ?_)))
      refine .reg (.q (.move rfl) (.q (.add rfl rfl (IntWalk.i64_in _ (by omega))) (.q (.assign rfl) (.nil (.rd (i + 1, u, o.set i bs[i]) ⟨rfl, rfl, rfl, rfl, rfl, trivial⟩ (fun _ h => h) ⟨by simp only; omega, by simp only; rw [markU_take hi, if_neg (by omega), ← hk2], by simp only; rw [hk3, outI_set hi]⟩ (by simp only; omega))))))
  · refine .nil (.code ?_)
    refine .ff (.exit (.thE (.thE (.inbX (.code ?_)))))
    refine .seq (.seq (.reg (.q (.assign rfl) (.nil (.code ?_)))))
    refine .block (.lp (fun s : Nat × List Bool × List Int => [(0, .slice A bs.length c0), (1, .int .i64 (N : Int)), (5, .slice (some ⟨b11, 0, none⟩) N N), (6, .slice (some ⟨b14, 0, none⟩) bs.length bs.length), (8, .int .i64 (s.1 : Int))]) (fun s => [(b14, .cells (s.2.2.map intV).toArray 3 (0, 0)), (b11, .cells (s.2.1.map boolV).toArray 4 (0, 0))]) (fun s => s.1 ≤ bs.length ∧ s.2.2.length = bs.length ∧ s.2.1.length = N ∧ s.2.2.take s.1 ++ fillC (bs.drop s.1) s.2.1 = coresR bs N ∧ ∀ k, s.1 ≤ k → s.2.2[k]? = bs[k]?) (fun s => bs.length - s.1) (0, u, o) ⟨rfl, rfl, rfl, rfl, rfl, trivial⟩ (fun _ h => h) ⟨Nat.zero_le _, hol, hul, by simp only [List.take_zero, List.drop_zero, List.nil_append]; rw [hk2, coresR, List.take_of_length_le (by omega)], fun k _ => by simp only; rw [hk3, outI, List.take_of_length_le (by omega), show bs.length - i = 0 by omega]; simp⟩ fun ⟨i2, u2, ow⟩ hq => ?_)
    obtain ⟨hq1, hq2, hq3, hq4, hq5⟩ := hq
    simp only at hq1 hq2 hq3 hq4 hq5
    show WC _ _ _ _ (Z w w _ [(b14, .cells (ow.map intV).toArray 3 (0, 0)), (b11, .cells (u2.map boolV).toArray 4 (0, 0))]) _
    refine .seq (.seq (.reg (.q (.move rfl) (.q (.move rfl) (.q (.lenS s37.t rfl) (.ltS rfl rfl (fun h42 => ?_) (fun h42 => ?_)))))))
    · have hi2 : i2 < bs.length := by omega
      refine .nil (.code ?_)
      refine .tt (.skip (.code ?_))
      refine .seq (.block (.seq (.reg (.q (.assign rfl) (.nil (.code ?_))))))
      refine .block (.lp (fun s : Nat × List Bool × List Int => [(0, .slice A bs.length c0), (1, .int .i64 (N : Int)), (5, .slice (some ⟨b11, 0, none⟩) N N), (6, .slice (some ⟨b14, 0, none⟩) bs.length bs.length), (8, .int .i64 (i2 : Int)), (9, .int .i64 (s.1 : Int))]) (fun s => [(b14, .cells (s.2.2.map intV).toArray 3 (0, 0)), (b11, .cells (s.2.1.map boolV).toArray 4 (0, 0))]) (fun s => s.1 ≤ N ∧ s.2.1.length = N ∧ s.2.2.length = bs.length ∧ Seek bs u2 s.2.1 ow s.2.2 i2 s.1 N) (fun s => N - s.1) (0, u2, ow) ⟨rfl, rfl, rfl, rfl, rfl, rfl, trivial⟩ (fun _ h => h) ⟨Nat.zero_le _, hq3, hq2, .inl ⟨rfl, rfl, fun k hk h => absurd h (by omega)⟩⟩ fun ⟨c, u3, oz⟩ hr0 => ?_)
      obtain ⟨hr1, hr2, hr3, hr4⟩ := hr0
      simp only at hr1 hr2 hr3 hr4
      show WC _ _ _ _ (Z w w _ [(b14, .cells (oz.map intV).toArray 3 (0, 0)), (b11, .cells (u3.map boolV).toArray 4 (0, 0))]) _
      refine .seq (.seq (.reg (.q (.move rfl) (.q (.move rfl) (.ltS rfl rfl (fun h47 => ?_) (fun h47 => ?_))))))
      · refine .q (.move rfl) (.q (.move rfl) (.q (.move rfl) (.q (.ix s37 rfl rfl (by omega)) (.q (.ldO (v := .int .i64 (oz[i2]'(by omega))) o3 0 rfl rfl (by rw [Nat.zero_add, Nat.mul_one, List.getElem?_map, List.getElem?_eq_getElem (by omega)]; rfl)) (.ltS rfl rfl (fun h53 => ?_) (fun h53 => ?_))))))
        · have hcN : c < u3.length := by omega
          obtain ⟨he1, he2, hall⟩ : u3 = u2 ∧ oz = ow ∧ ∀ k (hk : k < u2.length), k < c → u2[k] = true := by
            rcases hr4 with h | ⟨_, _, c9, _, _, _, h8⟩
            · exact h
            · exfalso
              have h9 : oz[i2]'(by omega) = (c9 : Int) := by subst h8; simp
              omega
          refine .q (.pickT rfl rfl) (.nil (.code ?_))
          refine .tt (.skip (.code ?_))
          refine .seq (.block (.seq (.reg (.q (.move rfl) (.q (.move rfl) (.q (.ix s166 rfl rfl (by omega)) (?_)))))))
          rcases hub : u3[c] with _ | _
          · refine .q (.ldO (v := .bool false) o4 1 rfl rfl (by rw [Nat.zero_add, Nat.mul_one, List.getElem?_map, List.getElem?_eq_getElem hcN, hub]; rfl)) (.q (.notB rfl) (.nil (.code ?_)))
            refine .tt (.seq (.reg (.q (.move rfl) (.q (.move rfl) (.q (.move rfl) (.q (.ix s37 rfl rfl (by omega)) (.st o3 0 rfl rfl rfl rfl (by simp [Nat.blt_eq]; omega) (?_))))))))
            rw [int_set]
            refine .nil (.code ?_)
            refine .reg (.q (.move rfl) (.q (.move rfl) (.q (.ix s166 rfl rfl (by omega)) (.st o4 1 rfl rfl rfl rfl (by simp [Nat.blt_eq]; omega) (?_)))))
            rw [bool_set]
            refine .nil (.inbN (.code ?_))
            refine .reg (.q (.move rfl) (.q (.add rfl rfl (IntWalk.i64_in _ (by omega))) (.q (.assign rfl) (.nil (.rd (c + 1, u3.set c true, oz.set i2 (c : Int)) ⟨rfl, rfl, rfl, rfl, rfl, rfl, trivial⟩ (fun _ h => h) ⟨by simp only; omega, by simpa using hr2, by simpa using hr3, .inr ⟨hi2, by have h6 := hq5 i2 (Nat.le_refl _); subst he2; rw [List.getElem?_eq_getElem hi2, List.getElem?_eq_getElem (by omega)] at h6; have := Option.some.inj h6; omega, c, by omega, (by subst he1; exact idx_first (by omega) hub hall), by rw [he1], by rw [he2]⟩⟩ (by simp only; omega))))))
          · refine .q (.ldO (v := .bool true) o4 1 rfl rfl (by rw [Nat.zero_add, Nat.mul_one, List.getElem?_map, List.getElem?_eq_getElem hcN, hub]; rfl)) (.q (.notB rfl) (.nil (.code ?_)))
            refine .ff (.skip (.inbN (.code ?_)))
            refine .reg (.q (.move rfl) (.q (.add rfl rfl (IntWalk.i64_in _ (by omega))) (.q (.assign rfl) (.nil (.rd (c + 1, u3, oz) ⟨rfl, rfl, rfl, rfl, rfl, rfl, trivial⟩ (fun _ h => h) ⟨by simp only; omega, hr2, hr3, .inl ⟨he1, he2, fun k hk h => by
          rcases Nat.lt_or_ge k c with h7 | h7
          · exact hall k hk h7
          · have h8 : k < c + 1 := h
            obtain rfl : k = c := by omega
            subst he1; exact hub⟩⟩ (by simp only; omega))))))
        · refine .q (.pickT rfl rfl) (.nil (.code ?_))
          refine .ff (.exit (.thE (.thE (.inbX (.inbN (.code ?_))))))
          refine .reg (.q (.move rfl) (.q (.add rfl rfl (IntWalk.i64_in _ (by omega))) (.q (.assign rfl) (.nil (.rd (i2 + 1, u3, oz) ⟨rfl, rfl, rfl, rfl, rfl, trivial⟩ (fun _ h => h) (by
    obtain ⟨e1, e2, ⟨x, e3, e4⟩, e5, e6⟩ := seek_end hi2 hq3 hq2 (hq5 i2 (Nat.le_refl _)) hr4 (.inr ⟨_, List.getElem?_eq_getElem (by omega), by omega⟩)
    exact ⟨hi2, e1, e2, by simp only; rw [seek_cons (bs := bs) (u := u3) (by omega) e3, e5, ← e4]; exact hq4, fun k hk => by simp only; rw [e6 k hk]; exact hq5 k (by omega)⟩) (by simp only; omega))))))
      · refine .q (.move rfl) (.skip (.skip (.skip (.skip (.skip (.q (.pickF rfl rfl) (.nil (.code ?_))))))))
        refine .ff (.exit (.thE (.thE (.inbX (.inbN (.code ?_))))))
        refine .reg (.q (.move rfl) (.q (.add rfl rfl (IntWalk.i64_in _ (by omega))) (.q (.assign rfl) (.nil (.rd (i2 + 1, u3, oz) ⟨rfl, rfl, rfl, rfl, rfl, trivial⟩ (fun _ h => h) (by
    obtain ⟨e1, e2, ⟨x, e3, e4⟩, e5, e6⟩ := seek_end hi2 hq3 hq2 (hq5 i2 (Nat.le_refl _)) hr4 (.inl (by omega))
    exact ⟨hi2, e1, e2, by simp only; rw [seek_cons (bs := bs) (u := u3) (by omega) e3, e5, ← e4]; exact hq4, fun k hk => by simp only; rw [e6 k hk]; exact hq5 k (by omega)⟩) (by simp only; omega))))))
    · refine .nil (.code ?_)
      refine .ff (.exit (.thE (.thE (.inbX (.code ?_)))))
      refine .seq (.reg (.q (.move rfl) (.q (.assign rfl) (.nil (.code ?_)))))
      refine .ret (.ret1 Try.results75 rfl fun w1 hz => ⟨_, [_], rfl, hz.sublist (.cons_cons _ (List.nil_sublist _)), b14, rfl, by
      have e : ow = coresR bs N := by rw [← hq4, List.take_of_length_le (by omega), List.drop_of_length_le (by omega)]; simp [fillC]
      exact ⟨by rw [e], by rw [← e]; exact hq2⟩⟩)


/-- A slice that is read, in memory of the caller or in blocks of the call's own. -/
def RL (w : World) (B : List Blk) (v : Value) (l : List Cd) : Prop := ∃ A c, v = .slice A l.length c ∧ l.length ≤ c ∧ (l = [] ∨ ∃ b off, A = some ⟨b, off, none⟩ ∧ ∀ w', Z w w [] B w' → ∀ i (hi : i < l.length) q, q < 5 → w'.cell? ⟨b, off + i * 5 + q, none⟩ = (encRC l[i])[q]?)
theorem RL.of {w : World} {v : Value} {l : List Cd} (h : Rd encRC 5 w v l) (hc : ∀ A m c, v = .slice A m c → m ≤ c) : RL w [] v l := by
  obtain ⟨A, c, rfl, _, _, h3⟩ := h
  refine ⟨A, c, rfl, hc _ _ _ rfl, h3.imp id fun ⟨b, off, e, h⟩ => ⟨b, off, e, fun w' hz i hi q hq => ?_⟩⟩
  have h1 := h i hi q hq
  rw [← h1]
  have hlt : q < (encRC l[i]).length := hq
  rw [List.getElem?_eq_getElem hlt] at h1
  rw [h1]
  exact hz.old h1
theorem RL.os {w : World} {v : Value} {l : List Cd} {B : List Blk} (h : OS 139 5 v (l.flatMap encRC) l.length B) : RL w B v l := by
  obtain ⟨_, ⟨rfl, h2, rfl⟩ | ⟨b, c, cur, rfl, rfl, h3, h4, h5, h6⟩⟩ := id h
  · exact ⟨none, 0, by rw [h2], by omega, .inl (List.eq_nil_of_length_eq_zero h2)⟩
  · refine ⟨_, c, rfl, h3, .inr ⟨b, 0, rfl, fun w' hz i hi q hq => ?_⟩⟩
    obtain ⟨b', c', e1, e2⟩ := OS.read encRC_len h hi
    injection e1 with e1
    injection e1 with e1
    injection e1 with e1
    subst e1
    exact e2 _ _ w' _ _ hz (fun x hx => hx) q hq
theorem flat_get {l : List Cd} {i q : Nat} (hi : i < l.length) (hq : q < 5) : (l.flatMap encRC)[i * 5 + q]? = (encRC l[i])[q]? := by
  have h := flat_at (enc := encRC) encRC_len l [] i hi
  rw [List.append_nil] at h
  rw [← h, List.getElem?_take]
  rw [if_pos hq, List.getElem?_drop]
theorem rl_flat {w w' : World} {B : List Blk} {l : List Cd} {b off : Nat} (h : ∀ w', Z w w [] B w' → ∀ i (hi : i < l.length) q, q < 5 → w'.cell? ⟨b, off + i * 5 + q, none⟩ = (encRC l[i])[q]?) (hz : Z w w [] B w') {j : Nat} (hj : j < l.length * 5) : w'.cell? ⟨b, off + j, none⟩ = (l.flatMap encRC)[j]? := by
  have hi : j / 5 < l.length := by omega
  have e := h w' hz (j / 5) hi (j % 5) (by omega)
  rw [← flat_get hi (by omega)] at e
  have e2 : j / 5 * 5 + j % 5 = j := by omega
  rw [Nat.add_assoc, e2] at e
  exact e
theorem flat_take (l : List Cd) (k : Nat) (j : Nat) (hk : k ≤ l.length) (hj : j < k * 5) : ((l.take k).flatMap encRC)[j]? = (l.flatMap encRC)[j]? := by
  have e : l.flatMap encRC = (l.take k).flatMap encRC ++ (l.drop k).flatMap encRC := by rw [← List.flatMap_append, List.take_append_drop]
  rw [e, List.getElem?_append_left]
  rw [flat_len encRC_len, List.length_take]; omega
theorem flat_drop (l : List Cd) (k : Nat) (j : Nat) (hk : k ≤ l.length) : ((l.drop k).flatMap encRC)[j]? = (l.flatMap encRC)[k * 5 + j]? := by
  have e : l.flatMap encRC = (l.take k).flatMap encRC ++ (l.drop k).flatMap encRC := by rw [← List.flatMap_append, List.take_append_drop]
  have h1 : ((l.take k).flatMap encRC).length = k * 5 := by rw [flat_len encRC_len, List.length_take]; congr 1; omega
  rw [e, List.getElem?_append_right (by omega), h1, Nat.add_sub_cancel_left]
theorem encRC_one (x : Cd) : ∀ u ∈ encRC x, u.oneCell' = true := by simp [encRC, Value.oneCell']
theorem flat_oneRC (l : List Cd) : ∀ u ∈ l.flatMap encRC, u.oneCell' = true := fun u hu => by
  obtain ⟨x, _, hx⟩ := List.mem_flatMap.1 hu
  exact encRC_one x u hx
theorem best_le (l : List Cd) : ∀ i, best l i ≤ i
  | 0 => Nat.le_refl _
  | i + 1 => by
    have := best_le l i
    unfold best; split <;> omega
theorem best_next {l : List Cd} {i k : Nat} {b : Bool} (h1 : 1 ≤ i) (hi : i < l.length) (hk : k = best l (i - 1)) (hkl : k < l.length) (hb : before l[i] l[k] = b) : best l (i + 1 - 1) = if b then i else k := by
  obtain ⟨j, rfl⟩ : ∃ j, i = j + 1 := ⟨i - 1, by omega⟩
  simp only [Nat.add_sub_cancel] at hk ⊢
  rw [best, ← hk]
  unfold bf
  rw [List.getElem?_eq_getElem hi, List.getElem?_eq_getElem hkl]
  simp only [hb]
theorem selR_step {n : Nat} {l : List Cd} {k : Nat} (hk : k = best l (l.length - 1)) (hkl : k < l.length) : selR (n + 1) l = l[k] :: selR n (l.eraseIdx k) := by
  rw [selR, ← hk, List.getElem?_eq_getElem hkl]
theorem selR_nil (n : Nat) : selR n [] = [] := by cases n <;> rfl
theorem os0 {b : Nat} : OS 139 5 (.slice (some ⟨b, 0, none⟩) 0 0) [] 0 [(b, .cells #[] 139 (0, 0))] :=
  ⟨rfl, .inr ⟨b, 0, _, rfl, rfl, Nat.le_refl _, by decide, rfl, rfl⟩⟩
theorem OS.form {e k m : Nat} {v : Value} {cs : List Value} {Lx : List Blk} (h : OS e k v cs m Lx) : ∃ A c, v = .slice A m c := by
  obtain ⟨_, ⟨rfl, rfl, _⟩ | ⟨b, c, cur, rfl, _⟩⟩ := h
  · exact ⟨_, _, rfl⟩
  · exact ⟨_, _, rfl⟩

theorem select_calls (w : World) (v : Value) (l0 : List Cd) (N : Nat) (hl : RL w [] v l0) (hN : N ≤ 1000) (hlen : l0.length ≤ 1000) (hok : ∀ x ∈ l0, okR x) : Calls Try.prog 74 #[v, .int .i64 (N : Int)] w fun e w' => ∃ v L', e = .returned v ∧ Z w w [] L' w' ∧ OS 139 5 v ((selR N l0).flatMap encRC) (selR N l0).length L' := by
  refine enter (args := [_, _]) Try.func74 rfl rfl rfl (C := Z w w [] []) (Z.start (H.nil w)) ?_
  refine .seq (.reg (.q (.assign rfl) (.nil (.code ?_))))
  refine .seq (.reg (.q (.assign rfl) (.nil (.code ?_))))
  refine .seq (.block (.lp (fun s : List Cd × List Cd × Value × Value × List Blk × List Blk => [(0, s.2.2.1), (1, .int .i64 (N : Int)), (5, s.2.2.2.1)]) (fun s => s.2.2.2.2.1 ++ s.2.2.2.2.2) (fun s => RL w s.2.2.2.2.2 s.2.2.1 s.1 ∧ OS 139 5 s.2.2.2.1 (s.2.1.flatMap encRC) s.2.1.length s.2.2.2.2.1 ∧ s.2.1 ++ selR (N - s.2.1.length) s.1 = selR N l0 ∧ (∀ x ∈ s.1, okR x) ∧ s.1.length + s.2.1.length ≤ 1000) (fun s => s.1.length) (l0, [], v, .slice none 0 0, [], []) ⟨rfl, rfl, rfl, trivial⟩ (fun _ h => h) ⟨hl, OS.nil _ _, by simp, hok, by simpa using hlen⟩ fun ⟨l, out, lv, ov, Lx, Ll⟩ hk => ?_))
  obtain ⟨hk1, hk2, hk3, hk4, hk5⟩ := hk
  simp only at hk1 hk2 hk3 hk4 hk5
  obtain ⟨lA, lc, rfl, hlc, hR⟩ := hk1
  obtain ⟨oA, oc, rfl⟩ := OS.form hk2
  show WC _ _ _ _ (Z w w _ (Lx ++ Ll)) _
  refine .seq (.seq (.reg (.q (.move rfl) (.q (.lenS s136.t rfl) (.gtS rfl rfl (fun h10 => ?_) (fun h10 => ?_))))))
  · have hl0 : 0 < l.length := by omega
    obtain ⟨lb, lo, rfl, hcell⟩ := hR.resolve_left (fun e => by rw [e] at hl0; simp at hl0)
    refine .q (.move rfl) (.q (.move rfl) (.q (.lenS s136.t rfl) (.q (.move rfl) (.ltS rfl rfl (fun h15 => ?_) (fun h15 => ?_)))))
    · refine .q (.pickT rfl rfl) (.nil (.code ?_))
      refine .tt (.skip (.code ?_))
      refine .block (.seq (.reg (.q (.assign rfl) (.nil (.code ?_)))))
      refine .seq (.seq (.reg (.q (.assign rfl) (.nil (.code ?_)))))
      refine .block (.lp (fun s : Nat × Nat => [(0, .slice (some ⟨lb, lo, none⟩) l.length lc), (1, .int .i64 (N : Int)), (5, .slice oA out.length oc), (6, .int .i64 (s.2 : Int)), (7, .int .i64 (s.1 : Int))]) (fun _ => Lx ++ Ll) (fun s => 1 ≤ s.1 ∧ s.1 ≤ l.length ∧ s.2 = best l (s.1 - 1)) (fun s => l.length - s.1) (1, 0) ⟨rfl, rfl, rfl, rfl, rfl, trivial⟩ (fun _ h => h) ⟨Nat.le_refl _, hl0, rfl⟩ fun ⟨i, k⟩ hq => ?_)
      obtain ⟨hq1, hq2, hq3⟩ := hq
      simp only at hq1 hq2 hq3
      have hkl : k < l.length := by have := best_le l (i - 1); omega
      show WC _ _ _ _ (Z w w _ (Lx ++ Ll)) _
      refine .seq (.seq (.reg (.q (.move rfl) (.q (.move rfl) (.q (.lenS s136.t rfl) (.ltS rfl rfl (fun h20 => ?_) (fun h20 => ?_)))))))
      · have hi : i < l.length := by omega
        refine .nil (.code ?_)
        refine .tt (.skip (.code ?_))
        refine .seq (.block (.seq (.draw mix (by kernel_rfl) (fun _ h => h.drew) (.q (.move rfl) (.q (.move rfl) (.q (.ix s136 rfl rfl (by omega)) (.q (.ldA (cs := encRC l[i]) a139 rfl rfl (fun w1 hz q hq => hcell w1 (hz.sublist (List.sublist_append_right _ _)) i hi q hq)) (.q (.move rfl) (.q (.move rfl) (.q (.ix s136 rfl rfl (by omega)) (.q (.ldA (cs := encRC l[k]) a139 rfl rfl (fun w1 hz q hq => hcell w1 (hz.sublist (List.sublist_append_right _ _)) k hkl q hq)) (.qB (.call fn93 rfl (fun w hz => rbefore_calls w _ _ (hk4 _ (List.getElem_mem hi)) (hk4 _ (List.getElem_mem hkl)))) (fun h31 => ?_) (fun h31 => ?_)))))))))))))
        · refine .nil (.code ?_)
          refine .tt (.reg (.q (.move rfl) (.q (.assign rfl) (.nil (.inbN (.code ?_))))))
          refine .reg (.q (.move rfl) (.q (.add rfl rfl (IntWalk.i64_in _ (by omega))) (.q (.assign rfl) (.nil (.rd (i + 1, i) ⟨rfl, rfl, rfl, rfl, rfl, trivial⟩ (fun _ h => h) ⟨by simp only; omega, by simp only; omega, by simp only; rw [best_next hq1 hi hq3 hkl h31]; rfl⟩ (by simp only; omega))))))
        · refine .nil (.code ?_)
          refine .ff (.skip (.inbN (.code ?_)))
          refine .reg (.q (.move rfl) (.q (.add rfl rfl (IntWalk.i64_in _ (by omega))) (.q (.assign rfl) (.nil (.rd (i + 1, k) ⟨rfl, rfl, rfl, rfl, rfl, trivial⟩ (fun _ h => h) ⟨by simp only; omega, by simp only; omega, by simp only; rw [best_next hq1 hi hq3 hkl h31]; rfl⟩ (by simp only; omega))))))
      · have hil : i = l.length := by omega
        subst hil
        refine .nil (.code ?_)
        refine .ff (.exit (.thE (.thE (.inbX (.code ?_)))))
        refine .seq (.reg (.q (.move rfl) (.q (.move rfl) (.q (.move rfl) (.q (.ix s136 rfl rfl (by omega)) (.q (.ldA (cs := encRC l[k]) a139 rfl rfl (fun w1 hz q hq => hcell w1 (hz.sublist (List.sublist_append_right _ _)) k hkl q hq)) (.bslice s136 rfl rfl rfl fun b38 => .app1 s136 (by omega) (by omega) rfl rfl hk2 (.refl _) (by rfl) (encRC_one l[k]) (by omega) fun v39 L39 p39 => (?_))))))))
        change OS 139 5 v39 (out.flatMap encRC ++ encRC l[k]) (out.length + 1) L39 at p39
        refine .q (.assign rfl) (.nil (.code ?_))
        refine .drawS mix [0, 1, 2, 3, 4, 5, 6, 7, 8, 9, 10] [1, 2, 3, 5, 6, 7, 8] [] (.one 0 (.one 4 (.one 9 (.one 10 .nil)))) (by kernel_rfl) (fun _ h => h.drew) (fun _ h => h) (.q (.move rfl) (.q (.move rfl) (.q (.slHi (j := k) s136 rfl rfl (by omega)) (.q (.move rfl) (.q (.move rfl) (.q (.add rfl rfl (IntWalk.i64_in _ (by omega))) (.q (.slLo (j := k + 1) s136 rfl rfl (by omega) hlc) (.toS (.toT (.step rfl (.bslice s136 rfl rfl rfl fun b40 => .nil (.tkB (.step rfl (.app s136 (by omega) (by omega) rfl rfl os0 (.refl _) (news := (l.take k).flatMap encRC) (by rw [flat_len encRC_len, List.length_take]; congr 1; omega) (fun w1 hz j hj => by rw [flat_len encRC_len, List.length_take] at hj; rw [flat_take l k j (by omega) (by omega)]; exact rl_flat hcell (hz.sublist (List.Sublist.cons _ (List.sublist_append_right _ _))) (by omega)) (flat_oneRC _) (by omega) fun v44 L44 p44 => (.nil (.tkB (.step rfl (.app s136 (by omega) (by omega) rfl rfl p44 (.refl _) (news := (l.drop (k + 1)).flatMap encRC) (by rw [flat_len encRC_len, List.length_drop]) (fun w1 hz j hj => by rw [flat_len encRC_len, List.length_drop] at hj; rw [flat_drop l (k + 1) j (by omega), if_neg (by omega), Nat.add_assoc]; exact rl_flat hcell (hz.sublist ((List.sublist_append_right _ _).trans (List.sublist_append_right _ _))) (by omega)) (flat_oneRC _) (by omega) fun v49 L49 p49 => (?_)))))))))))))))))))
        have hel : (l.eraseIdx k).flatMap encRC = [] ++ (l.take k).flatMap encRC ++ (l.drop (k + 1)).flatMap encRC := by rw [List.nil_append, List.eraseIdx_eq_take_drop_succ, List.flatMap_append]
        have hel2 : (l.eraseIdx k).length = 0 + k + (l.length - (k + 1)) := by rw [List.length_eraseIdx, if_pos hkl]; omega
        refine .nil (.tkB (.step rfl (.q (.assign rfl) (.nil (.tkB (.nil (.inbN (.rd (l.eraseIdx k, out ++ [l[k]], v49, v39, L39, L49) ⟨rfl, rfl, rfl, trivial⟩ (fun _ h => zperm List.perm_append_comm (h.sublist (List.Sublist.append (List.Sublist.refl _) (List.sublist_append_left L39 Ll)))) ⟨RL.os (by have h9 := p49; rw [← hel, ← hel2] at h9; exact h9), by simp only; rw [List.flatMap_append]; simpa using p39, by simp only; rw [← hk3, show N - out.length = (N - (out ++ [l[k]]).length) + 1 by simp; omega, selR_step hq3 hkl]; simp, fun x hx => hk4 x ((List.eraseIdx_sublist l k).subset hx), by simp only [List.length_append, List.length_eraseIdx, List.length_singleton]; rw [if_pos hkl]; omega⟩ (by simp only [List.length_eraseIdx]; rw [if_pos hkl]; omega)))))))))
    · refine .q (.pickT rfl rfl) (.nil (.code ?_))
      refine .ff (.exit (.thE (.thE (.inbX (.code ?_)))))
      refine .seq (.reg (.q (.move rfl) (.q (.assign rfl) (.nil (.code ?_)))))
      refine .ret (.ret1 Try.results74 rfl fun w1 hz => ⟨_, _, rfl, hz.sublist (List.sublist_append_left Lx Ll), by
      have e : out = selR N l0 := by
        rw [← hk3, show N - out.length = 0 by omega, selR]; simp
      rw [← e]; exact hk2⟩)
  · refine .q (.move rfl) (.skip (.skip (.skip (.skip (.q (.pickF rfl rfl) (.nil (.code ?_)))))))
    refine .ff (.exit (.thE (.thE (.inbX (.code ?_)))))
    refine .seq (.reg (.q (.move rfl) (.q (.assign rfl) (.nil (.code ?_)))))
    refine .ret (.ret1 Try.results74 rfl fun w1 hz => ⟨_, _, rfl, hz.sublist (List.sublist_append_left Lx Ll), by
      have e : out = selR N l0 := by
        rw [← hk3, show l = [] from List.eq_nil_of_length_eq_zero (by omega), selR_nil]; simp
      rw [← e]; exact hk2⟩)

end Go.Proofs.Ytjccenbacjhglaa.R2
