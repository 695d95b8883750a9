/- What putting a link does, in plain terms. -/
import Derived.Test.YtdlejnafhmpobaaDoorFkK
set_option linter.unusedSimpArgs false
set_option maxRecDepth 10000
namespace Go.Proofs.YtdlejnafhmpobaaDoor
open Go Go.Ab

theorem placesTo_congr {l l' : List Link} : ∀ n, (∀ j, j < n → (l[j]?).map keyOf = (l'[j]?).map keyOf) → placesTo l n = placesTo l' n
  | 0, _ => rfl
  | n + 1, h => by
    have ih := placesTo_congr n fun j hj => h j (by omega)
    have hn := h n (by omega)
    rw [placesTo, placesTo, ih]
    cases h1 : l[n]? with
    | none =>
      rw [h1] at hn
      cases h2 : l'[n]? with
      | none => rfl
      | some b => rw [h2] at hn; simp at hn
    | some a =>
      rw [h1] at hn
      cases h2 : l'[n]? with
      | none => rw [h2] at hn; simp at hn
      | some b =>
        rw [h2] at hn
        simp only [Option.map_some, Option.some.injEq] at hn
        simp only [hn]

theorem look_app {es : List (LKey × Nat)} {k : LKey} {x : LKey × Nat} : llook (es ++ [x]) k = match llook es k with | some i => some i | none => if k = x.1 then some x.2 else none := by
  unfold llook
  rw [List.find?_append]
  cases h : es.find? fun e => decide (k = e.1) with
  | some e => simp
  | none =>
    by_cases hk : k = x.1
    · simp [hk]
    · simp [hk]

theorem look_mem {l : List Link} : ∀ (n j : Nat) (hn : n ≤ l.length) (hj : j < n), (llook (placesTo l n) (keyOf (l[j]'(by omega)))).isSome = true
  | 0, j, _, hj => by omega
  | n + 1, j, hn, hj => by
    rw [placesTo_next (l := l) (i := n) (by omega) rfl]
    by_cases hjn : j = n
    · subst hjn
      split
      · assumption
      · rename_i h
        rw [look_app]
        cases hq : llook (placesTo l j) (keyOf l[j]) with
        | some i => rfl
        | none => simp
    · have ih := look_mem (l := l) n j (by omega) (by omega)
      split
      · exact ih
      · rw [look_app]
        obtain ⟨i, hi⟩ := Option.isSome_iff_exists.1 ih
        rw [hi]; rfl

theorem placesTo_le {l : List Link} : ∀ n, (placesTo l n).length ≤ n
  | 0 => Nat.le_refl _
  | n + 1 => by
    have ih := placesTo_le (l := l) n
    rw [placesTo]
    split
    · split
      · omega
      · simp; omega
    · omega

theorem keys_apart {l : List Link} : ∀ n, n ≤ l.length → (placesTo l n).length = n → ∀ (i j : Nat) (a b : Link), i < j → j < n → l[i]? = some a → l[j]? = some b → keyOf a ≠ keyOf b
  | 0, _, _, i, j, a, b, h1, h2, _, _ => by omega
  | n + 1, hn, hlen, i, j, a, b, h1, h2, h3, h4 => by
    rw [placesTo_next (l := l) (i := n) (by omega) rfl] at hlen
    have hle := placesTo_le (l := l) n
    cases hq : llook (placesTo l n) (keyOf l[n]) with
    | some x =>
      rw [hq] at hlen
      simp at hlen
      omega
    | none =>
      rw [hq] at hlen
      have hl' : (placesTo l n).length = n := by simpa using hlen
      by_cases hj : j = n
      · subst hj
        intro he
        have hb : l[j] = b := (List.getElem?_eq_some_iff.1 h4).2
        have ha : l[i]'(Nat.lt_trans h1 (by omega)) = a := (List.getElem?_eq_some_iff.1 h3).2
        have := look_mem (l := l) j i (by omega) h1
        rw [ha, he, ← hb, hq] at this
        cases this
      · exact keys_apart n (by omega) hl' i j a b h1 (by omega) h3 h4

theorem or_self_in {a : Int} (h : inU a) : orU a a = a := eq_of_has (inU_or _ _) h fun k => by rw [has_or]; simp
theorem or_zero_in {a : Int} (h : inU a) : orU 0 a = a := eq_of_has (inU_or _ _) h fun k => by rw [has_or, has_zero]; simp
theorem or_again (a b : Int) : orU (orU a b) b = orU a b := eq_of_has (inU_or _ _) (inU_or _ _) fun k => by rw [has_or, has_or]; simp
theorem or_lt {a b : Int} (ha : 0 ≤ a) (ha2 : a < 256) (hb : 0 ≤ b) (hb2 : b < 256) : orU a b < 256 := by
  rw [orU_eq, BitVec.toNat_or]
  have h1 := bv_back (n := a) ⟨ha, by omega⟩
  have h2 := bv_back (n := b) ⟨hb, by omega⟩
  have := Nat.or_lt_two_pow (x := (bv a).toNat) (y := (bv b).toNat) (n := 8) (by omega) (by omega)
  omega
theorem or_pos {a b : Int} (ha : 0 < a) (ha2 : a < 256) : 0 < orU a b := by
  rw [orU_eq, BitVec.toNat_or]
  have h1 := bv_back (n := a) ⟨by omega, by omega⟩
  have : (bv a).toNat ≤ (bv a).toNat ||| (bv b).toNat := Nat.left_le_or
  omega

theorem may_spec {l : List Link} (h : lmayB l = true) : l.length ≤ 16 ∧ (∀ a ∈ l, odd a = false) ∧ (places l).length = l.length := by
  simp only [lmayB, Bool.and_eq_true, decide_eq_true_eq, Bool.not_eq_true', List.any_eq_false] at h
  exact ⟨h.1, fun a ha => by simpa using h.2.1 a ha, h.2.2⟩
theorem may_of {l : List Link} (h1 : l.length ≤ 16) (h2 : ∀ a ∈ l, odd a = false) (h3 : (places l).length = l.length) : lmayB l = true := by
  simp only [lmayB, Bool.and_eq_true, decide_eq_true_eq, Bool.not_eq_true', List.any_eq_false]
  exact ⟨h1, fun a ha => by simp [h2 a ha], h3⟩
theorem odd_false {a : Link} : odd a = false ↔ a.s.epoch < a.t.epoch ∧ a.mask ≠ 0 ∧ a.mask < 256 := by
  simp only [odd, Bool.or_eq_false_iff, decide_eq_false_iff_not]
  omega
