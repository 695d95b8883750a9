/- Bits of masks, and who is guilty, bit by bit. -/
import Derived.Test.YtdlejnafhmpobaaDoorFkG
set_option linter.unusedSimpArgs false
set_option maxRecDepth 10000
namespace Go.Proofs.YtdlejnafhmpobaaDoor
open Go Go.Ab

def bv (n : Int) : BitVec 64 := BitVec.ofInt 64 n
def inU (n : Int) : Prop := 0 ≤ n ∧ n < 18446744073709551616
def hasB (n : Int) (k : Nat) : Bool := (bv n).getLsbD k

theorem wrapU {n : Nat} (h : n < 18446744073709551616) : IntKind.u64.wrap (n : Int) = n := by
  simp [IntKind.wrap, IntKind.signed, IntKind.bits]
  omega
theorem bv_nat (x : BitVec 64) : bv (x.toNat : Int) = x := by simp [bv]
theorem bv_back {n : Int} (h : inU n) : ((bv n).toNat : Int) = n := by
  obtain ⟨h1, h2⟩ := h
  simp only [bv, BitVec.toNat_ofInt]
  omega
theorem orU_eq (a b : Int) : orU a b = ((bv a ||| bv b).toNat : Int) := by
  unfold orU bitsI
  exact wrapU (bv a ||| bv b).isLt
theorem andU_eq (a b : Int) : andU a b = ((bv a &&& bv b).toNat : Int) := by
  unfold andU bitsI
  exact wrapU (bv a &&& bv b).isLt
theorem inU_nat (x : BitVec 64) : inU (x.toNat : Int) := ⟨by omega, by have := x.isLt; omega⟩
theorem inU_or (a b : Int) : inU (orU a b) := by rw [orU_eq]; exact inU_nat _
theorem inU_and (a b : Int) : inU (andU a b) := by rw [andU_eq]; exact inU_nat _
theorem has_or (a b : Int) (k : Nat) : hasB (orU a b) k = (hasB a k || hasB b k) := by
  unfold hasB; rw [orU_eq, bv_nat]; simp
theorem has_and (a b : Int) (k : Nat) : hasB (andU a b) k = (hasB a k && hasB b k) := by
  unfold hasB; rw [andU_eq, bv_nat]; simp
theorem eq_of_has {a b : Int} (ha : inU a) (hb : inU b) (h : ∀ k, hasB a k = hasB b k) : a = b := by
  rw [← bv_back ha, ← bv_back hb]
  congr 2
  exact BitVec.eq_of_getLsbD_eq fun k _ => h k
theorem has_zero (k : Nat) : hasB 0 k = false := by simp [hasB, bv]

theorem gin_has (a : Link) (k : Nat) : ∀ (ls : List Link) (o : Int), hasB (gin a ls o) k = true ↔ hasB o k = true ∨ ∃ b ∈ ls, clash a b = true ∧ hasB a.mask k = true ∧ hasB b.mask k = true
  | [], o => by simp [gin]
  | b :: ls, o => by
    have e : gin a (b :: ls) o = gin a ls (gstep a o b) := rfl
    rw [e, gin_has a k ls]
    unfold gstep
    by_cases hc : clash a b = true
    · rw [if_pos hc, has_or, has_and, Bool.or_eq_true, Bool.and_eq_true]
      constructor
      · rintro ((h | h) | ⟨c, h1, h2⟩)
        · exact .inl h
        · exact .inr ⟨b, by simp, hc, h⟩
        · exact .inr ⟨c, by simp [h1], h2⟩
      · rintro (h | ⟨c, h1, h2⟩)
        · exact .inl (.inl h)
        · rcases List.mem_cons.1 h1 with rfl | h1
          · exact .inl (.inr h2.2)
          · exact .inr ⟨c, h1, h2⟩
    · rw [if_neg hc]
      constructor
      · rintro (h | ⟨c, h1, h2⟩)
        · exact .inl h
        · exact .inr ⟨c, by simp [h1], h2⟩
      · rintro (h | ⟨c, h1, h2⟩)
        · exact .inl h
        · rcases List.mem_cons.1 h1 with rfl | h1
          · exact absurd h2.1 hc
          · exact .inr ⟨c, h1, h2⟩
theorem gin_in (a : Link) : ∀ (ls : List Link) (o : Int), inU o → inU (gin a ls o)
  | [], _, h => h
  | b :: ls, o, h => by
    have e : gin a (b :: ls) o = gin a ls (gstep a o b) := rfl
    rw [e]
    refine gin_in a ls _ ?_
    unfold gstep
    split
    · exact inU_or _ _
    · exact h

theorem gto_has (l : List Link) (k : Nat) : ∀ (n : Nat), n ≤ l.length → (hasB (gto l n) k = true ↔ ∃ (i j : Nat) (a b : Link), i < j ∧ i < n ∧ l[i]? = some a ∧ l[j]? = some b ∧ clash a b = true ∧ hasB a.mask k = true ∧ hasB b.mask k = true)
  | 0, _ => by simp [gto, has_zero]
  | n + 1, hn => by
    rw [gto_next (by omega) rfl, gin_has, gto_has l k n (by omega)]
    constructor
    · rintro (⟨i, j, a, b, h1, h2, h3⟩ | ⟨b, hb, h⟩)
      · exact ⟨i, j, a, b, h1, by omega, h3⟩
      · obtain ⟨m, hm⟩ := List.mem_iff_getElem?.1 hb
        rw [List.getElem?_drop] at hm
        exact ⟨n, n + 1 + m, l[n], b, by omega, by omega, by simp, hm, h⟩
    · rintro ⟨i, j, a, b, h1, h2, h3, h4, h5⟩
      by_cases hi : i = n
      · subst hi
        have ha : l[i] = a := by
          have := (List.getElem?_eq_some_iff.1 h3).2
          exact this
        rw [ha]
        refine .inr ⟨b, ?_, h5⟩
        rw [List.mem_iff_getElem?]
        exact ⟨j - (i + 1), by rw [List.getElem?_drop, show i + 1 + (j - (i + 1)) = j by omega]; exact h4⟩
      · exact .inl ⟨i, j, a, b, h1, by omega, h3, h4, h5⟩

/-- Who is guilty: whoever attested two links that clash. -/
theorem guilty_has (l : List Link) (k : Nat) : hasB (guilty l) k = true ↔ ∃ (i j : Nat) (a b : Link), i < j ∧ l[i]? = some a ∧ l[j]? = some b ∧ clash a b = true ∧ hasB a.mask k = true ∧ hasB b.mask k = true := by
  rw [guilty, gto_has l k l.length (Nat.le_refl _)]
  constructor
  · rintro ⟨i, j, a, b, h1, _, h3⟩
    exact ⟨i, j, a, b, h1, h3⟩
  · rintro ⟨i, j, a, b, h1, h3⟩
    exact ⟨i, j, a, b, h1, (List.getElem?_eq_some_iff.1 h3.1).1, h3⟩
theorem gto_in (l : List Link) : ∀ n, inU (gto l n)
  | 0 => by simp [gto, inU]
  | n + 1 => by
    rw [gto]
    split
    · exact gin_in _ _ _ (gto_in l n)
    · exact gto_in l n
theorem guilty_in (l : List Link) : inU (guilty l) := gto_in l _

theorem clash_comm (x y : Link) : clash x y = clash y x := by
  simp only [clash, List.any_cons, List.any_nil, hit, Bool.or_false]
  rw [Bool.or_comm (rule1 x y), Bool.or_comm (rule2 x y)]

theorem get_reverse {l : List Link} {i : Nat} {a : Link} (h : l.reverse[i]? = some a) : i < l.length ∧ l[l.length - 1 - i]? = some a := by
  have hi : i < l.length := by have := (List.getElem?_eq_some_iff.1 h).1; simpa using this
  rw [List.getElem?_reverse hi] at h
  exact ⟨hi, h⟩
theorem guilty_rev_imp {l : List Link} {k : Nat} (h : hasB (guilty l.reverse) k = true) : hasB (guilty l) k = true := by
  rw [guilty_has] at h ⊢
  obtain ⟨i, j, a, b, h1, h2, h3, h4, h5, h6⟩ := h
  obtain ⟨k1, k2⟩ := get_reverse h2
  obtain ⟨k3, k4⟩ := get_reverse h3
  exact ⟨_, _, b, a, by omega, k4, k2, by rw [clash_comm]; exact h4, h6, h5⟩
theorem guilty_reverse (l : List Link) : guilty l.reverse = guilty l := by
  refine eq_of_has (guilty_in _) (guilty_in _) fun k => ?_
  rw [Bool.eq_iff_iff]
  refine ⟨guilty_rev_imp, fun h => ?_⟩
  have := guilty_rev_imp (l := l.reverse) (k := k)
  rw [List.reverse_reverse] at this
  exact this h

theorem orFold_has (k : Nat) : ∀ (l : List Link) (o : Int), hasB (l.foldl (fun o a => orU o a.mask) o) k = true ↔ hasB o k = true ∨ ∃ a ∈ l, hasB a.mask k = true
  | [], o => by simp
  | b :: l, o => by
    rw [List.foldl_cons, orFold_has k l, has_or, Bool.or_eq_true]
    constructor
    · rintro ((h | h) | ⟨a, h1, h2⟩)
      · exact .inl h
      · exact .inr ⟨b, by simp, h⟩
      · exact .inr ⟨a, by simp [h1], h2⟩
    · rintro (h | ⟨a, h1, h2⟩)
      · exact .inl (.inl h)
      · rcases List.mem_cons.1 h1 with rfl | h1
        · exact .inl (.inr h2)
        · exact .inr ⟨a, h1, h2⟩

theorem bit_range : ∀ v : Nat, v ≤ 7 → 0 < bit v ∧ bit v < 256
  | 0, _ => by decide +kernel
  | 1, _ => by decide +kernel
  | 2, _ => by decide +kernel
  | 3, _ => by decide +kernel
  | 4, _ => by decide +kernel
  | 5, _ => by decide +kernel
  | 6, _ => by decide +kernel
  | 7, _ => by decide +kernel
  | n + 8, h => by omega

theorem placesTo_len {l : List Link} : ∀ n, n ≤ l.length → (∀ (i j : Nat) (a b : Link), i < j → j < n → l[i]? = some a → l[j]? = some b → keyOf a ≠ keyOf b) → (placesTo l n).length = n
  | 0, _, _ => rfl
  | n + 1, h, hk => by
    have ih := placesTo_len n (by omega) fun i j a b h1 h2 => hk i j a b h1 (by omega)
    rw [placesTo_next (by omega) rfl]
    cases hq : llook (placesTo l n) (keyOf l[n]) with
    | none => simp [ih]
    | some i =>
      obtain ⟨h1, h2, h3⟩ := look_spec hq
      exact absurd h3 (hk i n l[i] l[n] h1 (by omega) (by simp) (by simp))
theorem places_len {l : List Link} (hk : ∀ (i j : Nat) (a b : Link), i < j → l[i]? = some a → l[j]? = some b → keyOf a ≠ keyOf b) : (places l).length = l.length :=
  placesTo_len _ (Nat.le_refl _) fun i j a b h1 _ => hk i j a b h1
theorem look_none {l : List Link} {k : LKey} (h : ∀ a ∈ l, keyOf a ≠ k) : llook (places l) k = none := by
  cases hq : llook (places l) k with
  | none => rfl
  | some i =>
    obtain ⟨_, h2, h3⟩ := look_spec hq
    exact absurd h3 (h _ (List.getElem_mem h2))
