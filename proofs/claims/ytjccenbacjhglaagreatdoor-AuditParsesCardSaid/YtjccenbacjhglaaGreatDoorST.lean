/- Plain laws on texts of events: what the numerals, the lines and the text of a trace are, and what parsing one gives. No program in sight. -/
import Derived.Test.YtjccenbacjhglaaGreatDoorKS
import Derived.Test.YtjccenbacjhglaaGreatDoorM2
import Derived.Lib.AtoiAll
import Derived.Lib.ItoaNum
import Derived.Lib.SplitLaws
import Derived.Lib.SlicesS
set_option linter.unusedVariables false
set_option linter.unusedSimpArgs false
namespace Go.Proofs.YtjccenbacjhglaaGreatDoor.ST
open Go Go.Proofs.YtjccenbacjhglaaGreatDoor.K Go.Proofs.YtjccenbacjhglaaGreatDoor.M
abbrev By := List UInt8

/-! ### Numerals -/
def R64 (n : Int) : Prop := -9223372036854775808 ≤ n ∧ n ≤ 9223372036854775807
theorem pu_snoc (c : UInt8) : ∀ (l : By) (acc : Nat), Lib.parseUint10 acc (l ++ [c]) = match Lib.parseUint10 acc l with | .ok a => Lib.parseUint10 a [c] | r => r
  | [], acc => by simp [Lib.parseUint10]
  | b :: l, acc => by
    simp only [List.cons_append, Lib.parseUint10]
    split
    · split
      · rfl
      · split
        · rfl
        · exact pu_snoc c l _
    · rfl
theorem dig_nat {d : Nat} (h : d < 10) : (UInt8.ofNat (48 + d)).toNat = 48 + d := by
  simp [UInt8.toNat_ofNat']; omega
theorem dec_eq (u : Nat) : Lib.decDigits u = if u < 10 then [UInt8.ofNat (48 + u)] else Lib.decDigits (u / 10) ++ [UInt8.ofNat (48 + u % 10)] := by
  rw [Lib.decDigits]; split <;> rfl
theorem pu_one {a d : Nat} (hd : d < 10) (h : a * 10 + d < 18446744073709551616) : Lib.parseUint10 a [UInt8.ofNat (48 + d)] = .ok (a * 10 + d) := by
  have e := dig_nat hd
  simp only [Lib.parseUint10]
  rw [e, if_pos (by omega), if_neg (by omega), if_neg (by omega)]
  congr 1
  omega
theorem pu_dec : ∀ (n u : Nat), u ≤ n → u < 18446744073709551616 → Lib.parseUint10 0 (Lib.decDigits u) = .ok u := by
  intro n
  induction n with
  | zero =>
    intro u hu h
    rw [dec_eq, if_pos (by omega), pu_one (by omega) (by omega)]
    simp
  | succ n ih =>
    intro u hu h
    rw [dec_eq]
    split
    · rw [pu_one (by omega) (by omega)]
      simp
    · rw [pu_snoc, ih (u / 10) (by omega) (by omega)]
      simp only
      rw [pu_one (Nat.mod_lt _ (by omega)) (by omega)]
      congr 1
      omega
theorem dec_dig : ∀ (n u : Nat), u ≤ n → ∀ c ∈ Lib.decDigits u, 48 ≤ c.toNat ∧ c.toNat ≤ 57 := by
  intro n
  induction n with
  | zero =>
    intro u hu c hc
    rw [dec_eq, if_pos (by omega)] at hc
    simp only [List.mem_singleton] at hc
    rw [hc, dig_nat (by omega)]; omega
  | succ n ih =>
    intro u hu c hc
    rw [dec_eq] at hc
    split at hc
    · simp only [List.mem_singleton] at hc
      rw [hc, dig_nat (by omega)]; omega
    · rcases List.mem_append.1 hc with h | h
      · exact ih (u / 10) (by omega) c h
      · simp only [List.mem_singleton] at h
        rw [h, dig_nat (Nat.mod_lt _ (by omega))]
        omega
theorem dec_ne (u : Nat) : Lib.decDigits u ≠ [] := by
  rw [dec_eq]; split <;> simp
theorem dec_len : ∀ (n u : Nat), u < 10 ^ n → 1 ≤ n → (Lib.decDigits u).length ≤ n := by
  intro n
  induction n with
  | zero => intro u _ h; omega
  | succ n ih =>
    intro u hu _
    rw [dec_eq]
    split
    · simp
    · have h10 : u / 10 < 10 ^ n := by rw [Nat.pow_succ] at hu; omega
      have h1 : 1 ≤ n := by
        rcases Nat.eq_zero_or_pos n with h | h
        · subst h; simp at h10; omega
        · exact h
      rw [List.length_append, List.length_singleton]
      have := ih (u / 10) h10 h1
      omega
theorem itoa_len {n : Int} (h : R64 n) : (Lib.itoa n).length ≤ 20 := by
  obtain ⟨h1, h2⟩ := h
  unfold Lib.itoa
  split
  · rw [List.length_cons]
    have := dec_len 19 n.natAbs (by omega) (by omega)
    omega
  · have := dec_len 19 n.toNat (by omega) (by omega)
    omega
theorem itoa_chr (n : Int) : ∀ c ∈ Lib.itoa n, c.toNat = 45 ∨ (48 ≤ c.toNat ∧ c.toNat ≤ 57) := by
  intro c hc
  unfold Lib.itoa at hc
  split at hc
  · rcases List.mem_cons.1 hc with h | h
    · left; rw [h]; rfl
    · right; exact dec_dig _ _ (Nat.le_refl _) c h
  · right; exact dec_dig _ _ (Nat.le_refl _) c hc
theorem itoa_no {n : Int} {c : UInt8} (h : c.toNat ≤ 44) : c ∉ Lib.itoa n := fun hc => by
  have := itoa_chr n c hc; omega
theorem atoi_itoa {n : Int} (h : R64 n) : Lib.atoiAll (Lib.itoa n) = .ok n := by
  obtain ⟨h1, h2⟩ := h
  unfold Lib.itoa
  split
  · rename_i hn
    unfold Lib.atoiAll
    have e : ((45 : UInt8).toNat = 43 ∨ (45 : UInt8).toNat = 45) := .inr rfl
    have e2 : (45 : UInt8).toNat = 45 := rfl
    have hm : Lib.parseMag (Lib.decDigits n.natAbs) = .ok n.natAbs := by
      unfold Lib.parseMag
      rw [if_neg (dec_ne _), pu_dec _ _ (Nat.le_refl _) (by omega)]
    dsimp only
    rw [if_pos e, hm]
    dsimp only
    rw [if_neg (fun x => x.1 e2), if_neg (by omega), if_pos e2]
    congr 1
    omega
  · rename_i hn
    cases hd : Lib.decDigits n.toNat with
    | nil => exact absurd hd (dec_ne _)
    | cons c r =>
      have hc := dec_dig _ n.toNat (Nat.le_refl _) c (by rw [hd]; exact List.mem_cons_self)
      unfold Lib.atoiAll
      have e : ¬ (c.toNat = 43 ∨ c.toNat = 45) := by omega
      have e2 : ¬ (c.toNat = 45) := by omega
      have hm : Lib.parseMag (c :: r) = .ok n.toNat := by
        unfold Lib.parseMag
        rw [if_neg (by simp), ← hd, pu_dec _ _ (Nat.le_refl _) (by omega)]
      dsimp only
      rw [if_neg e, hm]
      dsimp only
      rw [if_neg (by omega), if_neg (fun x => e2 x.1), if_neg e2]
      congr 1
      omega
theorem atoi_r64 {s : By} {v : Int} (h : Lib.atoiAll s = .ok v) : R64 v := by
  unfold Lib.atoiAll at h
  split at h
  · cases h
  · rename_i c r
    simp only at h
    split at h
    · cases h
    · cases h
    · rename_i u hu
      have := Lib.parseMag_lt hu
      split at h
      · cases h
      · split at h
        · cases h
        · injection h with h
          split at h <;> (rw [← h]; constructor <;> omega)
/-- What number(s) accepts. -/
def numOf (s : By) : Option Int := match Lib.atoiAll s with
  | .ok v => if Lib.itoa v = s then some v else none
  | _ => none
theorem numOf_some {s : By} {v : Int} (h : numOf s = some v) : Lib.itoa v = s ∧ R64 v := by
  unfold numOf at h
  split at h
  · rename_i u hu
    split at h
    · rename_i he
      injection h with h
      subst h
      exact ⟨he, atoi_r64 hu⟩
    · cases h
  · cases h
theorem numOf_itoa {v : Int} (h : R64 v) : numOf (Lib.itoa v) = some v := by
  unfold numOf; rw [atoi_itoa h]; simp

/-! ### Splitting at one byte -/
def bef (c : UInt8) : By → By
  | [] => []
  | b :: l => if b = c then [] else b :: bef c l
def aft (c : UInt8) : By → By
  | [] => []
  | b :: l => if b = c then l else aft c l
def spl (c : UInt8) : By → List By
  | [] => [[]]
  | b :: l => if b = c then [] :: spl c l else match spl c l with
    | [] => [[b]]
    | p :: ps => (b :: p) :: ps
theorem idx_one (c : UInt8) : ∀ s : By, Lib.index s [c] = if c ∈ s then ((bef c s).length : Int) else -1
  | [] => by simp [Lib.index]
  | b :: l => by
    rw [Lib.index, idx_one c l]
    by_cases h : b = c
    · subst h; simp [List.isPrefixOf, bef]
    · have hp : ([c] : By).isPrefixOf (b :: l) = false := by simp [List.isPrefixOf, Ne.symm h]
      have hm : (c ∈ b :: l) ↔ c ∈ l := by simp [Ne.symm h]
      simp only [hp, bef, h, if_false, hm, Bool.false_eq_true]
      by_cases hc : c ∈ l
      · rw [if_pos hc, if_pos hc, if_neg (by intro x; have := beq_iff_eq.1 x; omega)]; simp
      · rw [if_neg hc, if_neg hc]; rfl
theorem take_bef (c : UInt8) : ∀ s : By, s.take (bef c s).length = bef c s
  | [] => rfl
  | b :: l => by
    unfold bef
    split
    · rfl
    · simp [take_bef c l]
theorem drop_aft (c : UInt8) : ∀ s : By, s.drop ((bef c s).length + 1) = aft c s
  | [] => rfl
  | b :: l => by
    unfold bef aft
    split
    · simp
    · simp [drop_aft c l]
theorem bef_none {c : UInt8} : ∀ {s : By}, c ∉ s → bef c s = s
  | [], _ => rfl
  | b :: l, h => by
    have h1 : ¬ b = c := fun e => h (by simp [e])
    have h2 : c ∉ l := fun e => h (by simp [e])
    rw [bef, if_neg h1, bef_none h2]
theorem aft_none {c : UInt8} : ∀ {s : By}, c ∉ s → aft c s = []
  | [], _ => rfl
  | b :: l, h => by
    have h1 : ¬ b = c := fun e => h (by simp [e])
    have h2 : c ∉ l := fun e => h (by simp [e])
    rw [aft, if_neg h1, aft_none h2]
theorem bef_aft {c : UInt8} : ∀ {s : By}, c ∈ s → bef c s ++ c :: aft c s = s
  | [], h => by cases h
  | b :: l, h => by
    by_cases h1 : b = c
    · subst h1; simp [bef, aft]
    · have h2 : c ∈ l := by simpa [Ne.symm h1] using h
      rw [bef, aft, if_neg h1, if_neg h1, List.cons_append, bef_aft h2]
theorem bef_app {c : UInt8} : ∀ {p : By} (r : By), c ∉ p → bef c (p ++ c :: r) = p ∧ aft c (p ++ c :: r) = r
  | [], r, _ => by simp [bef, aft]
  | b :: l, r, h => by
    have h1 : ¬ b = c := fun e => h (by simp [e])
    have h2 : c ∉ l := fun e => h (by simp [e])
    have := bef_app r h2
    simp [bef, aft, h1, this.1, this.2]
theorem bef_no (c : UInt8) : ∀ s : By, c ∉ bef c s
  | [] => by simp [bef]
  | b :: l => by
    unfold bef
    split
    · simp
    · rename_i h
      simp [Ne.symm h, bef_no c l]
theorem aft_len (c : UInt8) : ∀ s : By, s ≠ [] → (aft c s).length + 1 ≤ s.length
  | [], h => absurd rfl h
  | b :: l, _ => by
    unfold aft
    split
    · simp
    · cases l with
      | nil => simp [aft]
      | cons x y => have := aft_len c (x :: y) (by simp); simp at this ⊢; omega
theorem cut_one (c : UInt8) (s : By) : Lib.cut s [c] = (bef c s, aft c s, decide (c ∈ s)) := by
  unfold Lib.cut
  rw [idx_one]
  by_cases h : c ∈ s
  · rw [if_pos h, if_pos (by omega)]
    simp only [Int.toNat_natCast, List.length_singleton, take_bef, drop_aft, h, decide_true]
  · rw [if_neg h, if_neg (by omega), bef_none h, aft_none h]
    simp [h]
theorem spl_ne (c : UInt8) (s : By) : spl c s ≠ [] := by
  cases s with
  | nil => simp [spl]
  | cons b l =>
    unfold spl
    split
    · simp
    · split <;> simp
theorem splitK_ne {b c : UInt8} (h : b ≠ c) (k : Nat) (l : By) : Lib.splitK [c] 0 k (b :: l) = match Lib.splitK [c] 0 k l with | [] => [[b]] | p :: ps => (b :: p) :: ps := by
  cases k with
  | zero => rfl
  | succ k =>
    unfold Lib.splitK
    rw [idx_one, idx_one]
    have hm : (c ∈ b :: l) ↔ c ∈ l := by simp [Ne.symm h]
    by_cases hc : c ∈ l
    · have hc' : c ∈ b :: l := hm.2 hc
      simp only [hc, hc', if_true, bef, h, if_false]
      have e1 : ((((b :: bef c l).length : Nat) : Int) == -1) = false := beq_false_of_ne (by omega)
      have e2 : ((((bef c l).length : Nat) : Int) == -1) = false := beq_false_of_ne (by omega)
      simp only [e1, e2, Bool.false_eq_true, if_false]
      simp
    · have hc' : ¬ c ∈ b :: l := fun x => hc (hm.1 x)
      simp only [hc, hc', if_false]
      rfl
theorem splitK_one (c : UInt8) : ∀ s : By, Lib.splitK [c] 0 (s.count c) s = spl c s
  | [] => rfl
  | b :: l => by
    by_cases h : b = c
    · subst h
      rw [List.count_cons_self, spl, if_pos rfl, ← splitK_one b l, Lib.splitK, idx_one]
      simp [bef]
    · rw [List.count_cons_of_ne (by simpa using h), splitK_ne h, spl, if_neg h, splitK_one c l]
      cases spl c l <;> rfl
def joinC (c : UInt8) : List By → By
  | [] => []
  | [p] => p
  | p :: q :: r => p ++ c :: joinC c (q :: r)
theorem join_cons (c b : UInt8) (p : By) (ps : List By) : joinC c ((b :: p) :: ps) = b :: joinC c (p :: ps) := by
  cases ps <;> rfl
theorem join_spl (c : UInt8) : ∀ s : By, joinC c (spl c s) = s
  | [] => rfl
  | b :: l => by
    unfold spl
    split
    · rename_i h
      subst h
      cases hs : spl b l with
      | nil => exact absurd hs (spl_ne b l)
      | cons p ps => rw [joinC, ← hs, join_spl b l, List.nil_append]
    · cases hs : spl c l with
      | nil => exact absurd hs (spl_ne c l)
      | cons p ps => simp only; rw [join_cons, ← hs, join_spl c l]
theorem spl_app {c : UInt8} : ∀ {p : By} (r : By), c ∉ p → spl c (p ++ c :: r) = p :: spl c r
  | [], r, _ => by simp [spl]
  | b :: l, r, h => by
    have h1 : ¬ b = c := fun e => h (by simp [e])
    have h2 : c ∉ l := fun e => h (by simp [e])
    rw [List.cons_append, spl, if_neg h1, spl_app r h2]
theorem spl_last {c : UInt8} : ∀ {p : By}, c ∉ p → spl c p = [p]
  | [], _ => rfl
  | b :: l, h => by
    have h1 : ¬ b = c := fun e => h (by simp [e])
    have h2 : c ∉ l := fun e => h (by simp [e])
    rw [spl, if_neg h1, spl_last h2]
theorem splitB_one (c : UInt8) (s : By) : Lib.splitB ⟨#[c]⟩ 0 (Lib.countB ⟨s.toArray⟩ ⟨#[c]⟩) ⟨s.toArray⟩ = (spl c s).map fun p => ⟨p.toArray⟩ := by
  have h1 := Lib.splitB_data ⟨#[c]⟩ 0 (Lib.countB ⟨s.toArray⟩ ⟨#[c]⟩) ⟨s.toArray⟩
  have h2 : Lib.countB ⟨s.toArray⟩ ⟨#[c]⟩ = s.count c := by
    show Lib.count s.toArray.toList [c] = _
    rw [Lib.count_one]
  rw [h2] at h1 ⊢
  have h3 : Lib.splitK (⟨#[c]⟩ : ByteArray).data.toList 0 (s.count c) (⟨s.toArray⟩ : ByteArray).data.toList = spl c s := splitK_one c s
  rw [h3] at h1
  rw [← h1, List.map_map]
  conv => lhs; rw [← List.map_id (Lib.splitB _ _ _ _)]
  apply List.map_congr_left
  intro x _
  cases x
  rfl
theorem countB_one (c : UInt8) (s : By) : Lib.countB ⟨s.toArray⟩ ⟨#[c]⟩ + 1 = (spl c s).length := by
  have h := congrArg List.length (splitB_one c s)
  rw [Lib.splitB_all ⟨#[c]⟩ (Nat.le_refl 1) 0 _ _ rfl, List.length_map] at h
  exact h

/-! ### Words and lines -/
def kinds : List By := [[], [114, 101, 108, 101, 97, 115, 101], [100, 105, 115, 112, 97, 116, 99, 104], [102, 105, 110, 105, 115, 104], [116, 114, 97, 112], [99, 117, 116, 111, 102, 102], [108, 97, 116, 101], [115, 101, 110, 100]]
def unkW : By := [117, 110, 107, 110, 111, 119, 110]
def wordOf (k : Int) : By := if 1 ≤ k ∧ k ≤ 7 then kinds.getD k.toNat [] else unkW
def kindIx (s : By) : Int := Lib.idxOfS (kinds.map fun p => (⟨p.toArray⟩ : ByteArray)) ⟨s.toArray⟩
def body (e : Ev) : By := Lib.itoa e.s ++ 32 :: (Lib.itoa e.cy ++ 32 :: (wordOf e.k ++ 32 :: (Lib.itoa e.t ++ 32 :: (Lib.itoa e.j ++ 32 :: (Lib.itoa e.c ++ 32 :: (Lib.itoa e.v ++ 32 :: Lib.itoa e.po))))))
def fmt1 (e : Ev) : By := body e ++ [10]
def fmtOf (l : List Ev) : By := (l.map fmt1).flatten
def line8 : List By → Option Ev
  | [a0, a1, a2, a3, a4, a5, a6, a7] => match numOf a0, numOf a1, numOf a3, numOf a4, numOf a5, numOf a6, numOf a7 with
    | some s, some cy, some t, some j, some c, some v, some po => if 1 ≤ kindIx a2 then some ⟨s, c, t, j, kindIx a2, v, cy, po⟩ else none
    | _, _, _, _, _, _, _ => none
  | _ => none
def lineOf (s : By) : Option Ev := line8 (spl 32 s)
def EvR (e : Ev) : Prop := R64 e.s ∧ R64 e.cy ∧ R64 e.t ∧ R64 e.j ∧ R64 e.c ∧ R64 e.v ∧ R64 e.po
def KR (e : Ev) : Prop := 1 ≤ e.k ∧ e.k ≤ 7
theorem kindIx_cases (s : By) : kindIx s = -1 ∧ s ∉ kinds ∨ ∃ i : Nat, i < 8 ∧ kindIx s = i ∧ kinds.getD i [] = s := by
  have hb : ∀ (a : By), ((⟨a.toArray⟩ : ByteArray) = ⟨s.toArray⟩) ↔ a = s := fun a => ⟨fun h => by
    have := congrArg (fun x : ByteArray => x.data.toList) h
    simpa using this, fun h => by rw [h]⟩
  unfold kindIx Lib.idxOfS kinds
  simp only [List.map_cons, List.map_nil, Lib.idxFromS, hb]
  by_cases h0 : [] = s
  · right; exact ⟨0, by omega, by simp [h0], by simpa using h0⟩
  by_cases h1 : [114, 101, 108, 101, 97, 115, 101] = s
  · right; exact ⟨1, by omega, by simp [h0, h1], by simpa using h1⟩
  by_cases h2 : [100, 105, 115, 112, 97, 116, 99, 104] = s
  · right; exact ⟨2, by omega, by simp [h0, h1, h2], by simpa using h2⟩
  by_cases h3 : [102, 105, 110, 105, 115, 104] = s
  · right; exact ⟨3, by omega, by simp [h0, h1, h2, h3], by simpa using h3⟩
  by_cases h4 : [116, 114, 97, 112] = s
  · right; exact ⟨4, by omega, by simp [h0, h1, h2, h3, h4], by simpa using h4⟩
  by_cases h5 : [99, 117, 116, 111, 102, 102] = s
  · right; exact ⟨5, by omega, by simp [h0, h1, h2, h3, h4, h5], by simpa using h5⟩
  by_cases h6 : [108, 97, 116, 101] = s
  · right; exact ⟨6, by omega, by simp [h0, h1, h2, h3, h4, h5, h6], by simpa using h6⟩
  by_cases h7 : [115, 101, 110, 100] = s
  · right; exact ⟨7, by omega, by simp [h0, h1, h2, h3, h4, h5, h6, h7], by simpa using h7⟩
  · left
    refine ⟨by simp [h0, h1, h2, h3, h4, h5, h6, h7], ?_⟩
    simp only [List.mem_cons, List.not_mem_nil, or_false, not_or]
    exact ⟨Ne.symm h0, Ne.symm h1, Ne.symm h2, Ne.symm h3, Ne.symm h4, Ne.symm h5, Ne.symm h6, Ne.symm h7⟩
theorem kindIx_word : ∀ k : Nat, 1 ≤ k → k ≤ 7 → kindIx (wordOf k) = k := by
  intro k h1 h2
  obtain rfl | rfl | rfl | rfl | rfl | rfl | rfl : k = 1 ∨ k = 2 ∨ k = 3 ∨ k = 4 ∨ k = 5 ∨ k = 6 ∨ k = 7 := by omega
  all_goals decide +kernel
theorem kindIx_unk : kindIx unkW = -1 := by decide +kernel
theorem word_no (k : Int) {c : UInt8} (hc : c = 32 ∨ c = 10) : c ∉ wordOf k := by
  unfold wordOf
  split
  · rename_i h
    obtain ⟨n, hn⟩ : ∃ n : Nat, k = n := ⟨k.toNat, by omega⟩
    subst hn
    have h7 : n = 1 ∨ n = 2 ∨ n = 3 ∨ n = 4 ∨ n = 5 ∨ n = 6 ∨ n = 7 := by omega
    rcases hc with rfl | rfl <;> (rcases h7 with rfl | rfl | rfl | rfl | rfl | rfl | rfl <;> decide)
  · rcases hc with rfl | rfl <;> decide
theorem body_no (e : Ev) : (10 : UInt8) ∉ body e := by
  have hi : ∀ n : Int, (10 : UInt8) ∉ Lib.itoa n := fun n => itoa_no (by decide)
  have hw := word_no e.k (c := 10) (.inr rfl)
  unfold body
  simp only [List.mem_append, List.mem_cons, hi, hw, false_or, or_false, not_or]
  decide
theorem spl_body (e : Ev) : spl 32 (body e) = [Lib.itoa e.s, Lib.itoa e.cy, wordOf e.k, Lib.itoa e.t, Lib.itoa e.j, Lib.itoa e.c, Lib.itoa e.v, Lib.itoa e.po] := by
  have hi : ∀ n : Int, (32 : UInt8) ∉ Lib.itoa n := fun n => itoa_no (by decide)
  have hw := word_no e.k (c := 32) (.inl rfl)
  unfold body
  rw [spl_app _ (hi _), spl_app _ (hi _), spl_app _ hw, spl_app _ (hi _), spl_app _ (hi _), spl_app _ (hi _), spl_app _ (hi _), spl_last (hi _)]
theorem line_body {e : Ev} (h : EvR e) : lineOf (body e) = if 1 ≤ e.k ∧ e.k ≤ 7 then some e else none := by
  obtain ⟨h1, h2, h3, h4, h5, h6, h7⟩ := h
  unfold lineOf
  rw [spl_body]
  simp only [line8, numOf_itoa h1, numOf_itoa h2, numOf_itoa h3, numOf_itoa h4, numOf_itoa h5, numOf_itoa h6, numOf_itoa h7]
  by_cases hk : 1 ≤ e.k ∧ e.k ≤ 7
  · obtain ⟨n, hn⟩ : ∃ n : Nat, e.k = n := ⟨e.k.toNat, by omega⟩
    have e1 : kindIx (wordOf e.k) = e.k := by rw [hn]; exact kindIx_word n (by omega) (by omega)
    rw [e1, if_pos hk.1, if_pos hk]
  · have e1 : kindIx (wordOf e.k) = -1 := by unfold wordOf; rw [if_neg hk]; exact kindIx_unk
    rw [e1, if_neg (by omega), if_neg hk]
theorem line_some {s : By} {e : Ev} (h : lineOf s = some e) : body e = s ∧ EvR e ∧ KR e := by
  unfold lineOf at h
  have hj := join_spl 32 s
  unfold line8 at h
  split at h
  · rename_i a0 a1 a2 a3 a4 a5 a6 a7 hs
    rw [hs] at hj
    split at h
    · rename_i v0 v1 v3 v4 v5 v6 v7 h0 h1 h3 h4 h5 h6 h7
      split at h
      · rename_i hk
        injection h with h
        subst h
        have k0 := numOf_some h0; have k1 := numOf_some h1; have k3 := numOf_some h3; have k4 := numOf_some h4; have k5 := numOf_some h5; have k6 := numOf_some h6; have k7 := numOf_some h7
        rcases kindIx_cases a2 with ⟨hm, _⟩ | ⟨i, hi, hm, hg⟩
        · omega
        · refine ⟨?_, ⟨k0.2, k1.2, k3.2, k4.2, k5.2, k6.2, k7.2⟩, ⟨hk, by show kindIx a2 ≤ 7; omega⟩⟩
          rw [← hj]
          simp only [joinC, body]
          have ew : wordOf (kindIx a2) = a2 := by
            unfold wordOf
            rw [if_pos ⟨hk, by omega⟩, hm, Int.toNat_natCast, hg]
          rw [k0.1, k1.1, k3.1, k4.1, k5.1, k6.1, k7.1, ew]
      · cases h
    · cases h
  · cases h
theorem fmt1_eq (e : Ev) : fmt1 e = body e ++ 10 :: [] := rfl
theorem word_len (k : Int) : (wordOf k).length ≤ 8 := by
  unfold wordOf
  split
  · rename_i h
    obtain ⟨n, hn⟩ : ∃ n : Nat, k = n := ⟨k.toNat, by omega⟩
    subst hn
    have h7 : n = 1 ∨ n = 2 ∨ n = 3 ∨ n = 4 ∨ n = 5 ∨ n = 6 ∨ n = 7 := by omega
    rcases h7 with rfl | rfl | rfl | rfl | rfl | rfl | rfl <;> decide
  · decide
theorem fmt1_len {e : Ev} (h : EvR e) : (fmt1 e).length ≤ 160 := by
  obtain ⟨h1, h2, h3, h4, h5, h6, h7⟩ := h
  have := itoa_len h1; have := itoa_len h2; have := itoa_len h3; have := itoa_len h4; have := itoa_len h5; have := itoa_len h6; have := itoa_len h7; have := word_len e.k
  unfold fmt1 body
  simp only [List.length_append, List.length_cons, List.length_nil]
  omega
theorem fmtOf_len : ∀ {l : List Ev}, (∀ e ∈ l, EvR e) → (fmtOf l).length ≤ 160 * l.length
  | [], _ => by simp [fmtOf]
  | e :: l, h => by
    have h1 := fmt1_len (h e List.mem_cons_self)
    have h2 := fmtOf_len (l := l) fun x hx => h x (List.mem_cons_of_mem _ hx)
    unfold fmtOf at h2 ⊢
    simp only [List.map_cons, List.flatten_cons, List.length_append, List.length_cons]
    omega
theorem fmtOf_snoc (l : List Ev) (e : Ev) : fmtOf (l ++ [e]) = fmtOf l ++ fmt1 e := by simp [fmtOf]
theorem fmtOf_cons (e : Ev) (l : List Ev) : fmtOf (e :: l) = body e ++ 10 :: fmtOf l := by simp [fmtOf, fmt1]

/-! ### Parsing -/
def parseF : Nat → By → List Ev → Int → List Ev × Int × Int
  | 0, _, out, _ => (out, 0, 0)
  | n + 1, s, out, k => if s = [] then (out, 0, 0) else match lineOf (bef 10 s) with
    | none => ([], k, 3)
    | some e => if 10 ∈ s then parseF n (aft 10 s) (out ++ [e]) (k + 1) else ([], k, 4)
theorem parseF_fuel : ∀ {n m : Nat} {s : By} {out : List Ev} {k : Int}, s.length ≤ n → s.length ≤ m → parseF n s out k = parseF m s out k := by
  intro n
  induction n with
  | zero =>
    intro m s out k h1 h2
    have : s = [] := List.length_eq_zero_iff.1 (by omega)
    subst this
    cases m <;> simp [parseF]
  | succ n ih =>
    intro m s out k h1 h2
    cases m with
    | zero =>
      have : s = [] := List.length_eq_zero_iff.1 (by omega)
      subst this
      simp [parseF]
    | succ m =>
      unfold parseF
      by_cases hs : s = []
      · rw [if_pos hs, if_pos hs]
      · rw [if_neg hs, if_neg hs]
        have := aft_len 10 s hs
        split
        · rfl
        · split
          · exact ih (by omega) (by omega)
          · rfl
def parse (s : By) : List Ev × Int × Int := parseF s.length s [] 1
/-- The number of the first event whose kind is none, or 0. -/
def firstBad : Int → List Ev → Int
  | _, [] => 0
  | k, e :: l => if 1 ≤ e.k ∧ e.k ≤ 7 then firstBad (k + 1) l else k
theorem parse_fmt : ∀ (l : List Ev) (n : Nat) (out : List Ev) (k : Int), (∀ e ∈ l, EvR e) → 1 ≤ k → (fmtOf l).length ≤ n → parseF n (fmtOf l) out k = if firstBad k l = 0 then (out ++ l, 0, 0) else ([], firstBad k l, 3)
  | [], n, out, k, _, _, _ => by cases n <;> simp [fmtOf, parseF, firstBad]
  | e :: l, n, out, k, h, hk, hn => by
    have hs := fmtOf_cons e l
    have hb := bef_app (fmtOf l) (body_no e)
    cases n with
    | zero => rw [hs] at hn; simp at hn
    | succ n =>
      unfold parseF
      rw [hs, if_neg (by simp), hb.1, hb.2, line_body (h e List.mem_cons_self)]
      unfold firstBad
      by_cases hk7 : 1 ≤ e.k ∧ e.k ≤ 7
      · rw [if_pos hk7, if_pos hk7]
        simp only
        rw [if_pos (by simp), parse_fmt l n _ (k + 1) (fun x hx => h x (List.mem_cons_of_mem _ hx)) (by omega) (by rw [hs] at hn; simp at hn; omega)]
        simp
      · rw [if_neg hk7, if_neg hk7]
        simp only
        rw [if_neg (by omega)]
theorem firstBad_0 : ∀ {k : Int} {l : List Ev}, 1 ≤ k → (firstBad k l = 0 ∨ k ≤ firstBad k l)
  | _, [], _ => .inl rfl
  | k, e :: l, h => by
    unfold firstBad
    split
    · rcases firstBad_0 (k := k + 1) (l := l) (by omega) with h1 | h1
      · exact .inl h1
      · right; omega
    · right; omega
/-- What is accepted is the text of the events. -/
theorem parse_ok : ∀ (n : Nat) (s : By) (out : List Ev) (k : Int) (l : List Ev) (a : Int), s.length ≤ n → parseF n s out k = (l, a, 0) → a = 0 ∧ ∃ l', l = out ++ l' ∧ fmtOf l' = s ∧ (∀ e ∈ l', EvR e ∧ KR e) ∧ l'.length ≤ s.length
  | 0, s, out, k, l, a, hn, h => by
    have : s = [] := List.length_eq_zero_iff.1 (by omega)
    subst this
    simp only [parseF, Prod.mk.injEq] at h
    exact ⟨h.2.1.symm, [], by simp [h.1], rfl, by simp, by simp⟩
  | n + 1, s, out, k, l, a, hn, h => by
    unfold parseF at h
    by_cases hs : s = []
    · subst hs
      simp only [if_true, Prod.mk.injEq] at h
      exact ⟨h.2.1.symm, [], by simp [h.1], rfl, by simp, by simp⟩
    · rw [if_neg hs] at h
      split at h
      · simp at h
      · rename_i e he
        split at h
        · rename_i h10
          have hal := aft_len 10 s hs
          obtain ⟨h0, l', h1, h2, h3, h4⟩ := parse_ok n (aft 10 s) _ (k + 1) l a (by omega) h
          obtain ⟨g1, g2, g3⟩ := line_some he
          refine ⟨h0, e :: l', by rw [h1]; simp, by rw [fmtOf_cons, h2, g1, bef_aft h10], fun x hx => ?_, by simp; omega⟩
          rcases List.mem_cons.1 hx with rfl | hx
          · exact ⟨g2, g3⟩
          · exact h3 x hx
        · simp at h
/-- Where the text is refused: whole lines that are accepted, then the line of the error. -/
theorem parse_err : ∀ (n : Nat) (s : By) (out : List Ev) (k : Int) (l : List Ev) (a e : Int), s.length ≤ n → parseF n s out k = (l, a, e) → e ≠ 0 → l = [] ∧ ∃ pre rest : By, s = pre ++ rest ∧ rest ≠ [] ∧ (pre = [] ∨ ∃ q, pre = q ++ [10]) ∧ a = k + (pre.count 10 : Nat) ∧
    (∃ l', pre = fmtOf l' ∧ (∀ x ∈ l', EvR x ∧ KR x)) ∧ ((e = 3 ∧ lineOf (bef 10 rest) = none) ∨ (e = 4 ∧ ∃ x, lineOf (bef 10 rest) = some x))
  | 0, s, out, k, l, a, e, hn, h, he => by
    simp only [parseF, Prod.mk.injEq] at h
    exact absurd h.2.2.symm he
  | n + 1, s, out, k, l, a, e, hn, h, he => by
    unfold parseF at h
    by_cases hs : s = []
    · rw [if_pos hs] at h
      simp only [Prod.mk.injEq] at h
      exact absurd h.2.2.symm he
    · rw [if_neg hs] at h
      split at h
      · rename_i hl
        simp only [Prod.mk.injEq] at h
        obtain ⟨rfl, rfl, rfl⟩ := h
        exact ⟨rfl, [], s, rfl, hs, .inl rfl, by simp, ⟨[], rfl, by simp⟩, .inl ⟨rfl, hl⟩⟩
      · rename_i x hx
        split at h
        · rename_i h10
          have hal := aft_len 10 s hs
          obtain ⟨h0, pre, rest, h1, h2, h3, h4, ⟨l', h5, h6⟩, h7⟩ := parse_err n (aft 10 s) _ (k + 1) l a e (by omega) h he
          obtain ⟨g1, g2, g3⟩ := line_some hx
          have hb10 : List.count 10 (bef 10 s) = 0 := List.count_eq_zero.2 (bef_no 10 s)
          refine ⟨h0, bef 10 s ++ 10 :: pre, rest, by rw [List.append_assoc, List.cons_append, ← h1, bef_aft h10], h2, ?_, by rw [h4, List.count_append, List.count_cons_self, hb10]; omega, ⟨x :: l', by rw [fmtOf_cons, g1, h5], fun y hy => ?_⟩, h7⟩
          · right
            rcases h3 with rfl | ⟨q, rfl⟩
            · exact ⟨bef 10 s, rfl⟩
            · exact ⟨bef 10 s ++ 10 :: q, by simp⟩
          · rcases List.mem_cons.1 hy with rfl | hy
            · exact ⟨g2, g3⟩
            · exact h6 y hy
        · rename_i h10
          simp only [Prod.mk.injEq] at h
          obtain ⟨rfl, rfl, rfl⟩ := h
          exact ⟨rfl, [], s, rfl, hs, .inl rfl, by simp, ⟨[], rfl, by simp⟩, .inr ⟨rfl, x, hx⟩⟩
theorem firstBad_ok : ∀ {k : Int} {l : List Ev}, (∀ x ∈ l, KR x) → firstBad k l = 0
  | _, [], _ => rfl
  | k, e :: l, h => by
    unfold firstBad
    rw [if_pos (show 1 ≤ e.k ∧ e.k ≤ 7 from h e List.mem_cons_self)]
    exact firstBad_ok fun x hx => h x (List.mem_cons_of_mem _ hx)
theorem parse_pre {l : List Ev} (h : ∀ x ∈ l, EvR x ∧ KR x) : parse (fmtOf l) = (l, 0, 0) := by
  unfold parse
  rw [parse_fmt l _ [] 1 (fun x hx => (h x hx).1) (by omega) (Nat.le_refl _), if_pos (firstBad_ok fun x hx => (h x hx).2)]
  rfl
theorem parse_one {b : By} (h10 : (10 : UInt8) ∉ b) : (parse (b ++ [10])).2.2 = if (lineOf b).isSome then 0 else 3 := by
  unfold parse
  obtain ⟨h1, h2⟩ := bef_app (c := 10) [] h10
  have hl : (b ++ [(10 : UInt8)]).length = b.length + 1 := by simp
  rw [hl]
  unfold parseF
  rw [if_neg (by simp), h1, h2]
  cases lineOf b with
  | none => rfl
  | some e =>
    simp only [Option.isSome_some, if_true]
    rw [if_pos (by simp)]
    cases b.length <;> simp [parseF]
end Go.Proofs.YtjccenbacjhglaaGreatDoor.ST
