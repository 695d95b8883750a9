/- What putting a link does, in plain terms. -/
import Derived.Test.YtjahbgcdplngcaaLkK
set_option linter.unusedSimpArgs false
namespace Go.Proofs.Ytjahbgcdplngcaa
open Go Go.Ab

theorem placesTo_congr {l l' : List Link} : ∀ n, (∀ j, j < n → (l[j]?).map keyOf = (l'[j]?).map keyOf) → placesTo l n = placesTo l' n
  | 0, _ => rfl
  | n + 1, h => by
    have ih := placesTo_congr n fun j hj => h j (by omega)
    have hn := h n (by omega)
    rw [placesTo, placesTo, ih]
    cases h1 : l[n]? with
    | none =>
      rw [h1] at hn
      cases h2 : l'[n]? with
      | none => rfl
      | some b => rw [h2] at hn; simp at hn
    | some a =>
      rw [h1] at hn
      cases h2 : l'[n]? with
      | none => rw [h2] at hn; simp at hn
      | some b =>
        rw [h2] at hn
        simp only [Option.map_some, Option.some.injEq] at hn
        simp only [hn]

theorem look_app {es : List (LKey × Nat)} {k : LKey} {x : LKey × Nat} : look (es ++ [x]) k = match look es k with | some i => some i | none => if k = x.1 then some x.2 else none := by
  unfold look
  rw [List.find?_append]
  cases h : es.find? fun e => decide (k = e.1) with
  | some e => simp
  | none =>
    by_cases hk : k = x.1
    · simp [hk]
    · simp [hk]

theorem look_mem {l : List Link} : ∀ (n j : Nat) (hn : n ≤ l.length) (hj : j < n), (look (placesTo l n) (keyOf (l[j]'(by omega)))).isSome = true
  | 0, j, _, hj => by omega
  | n + 1, j, hn, hj => by
    rw [placesTo_next (l := l) (i := n) (by omega) rfl]
    by_cases hjn : j = n
    · subst hjn
      split
      · assumption
      · rename_i h
        rw [look_app]
        cases hq : look (placesTo l j) (keyOf l[j]) with
        | some i => rfl
        | none => simp
    · have ih := look_mem (l := l) n j (by omega) (by omega)
      split
      · exact ih
      · rw [look_app]
        obtain ⟨i, hi⟩ := Option.isSome_iff_exists.1 ih
        rw [hi]; rfl

theorem placesTo_le {l : List Link} : ∀ n, (placesTo l n).length ≤ n
  | 0 => Nat.le_refl _
  | n + 1 => by
    have ih := placesTo_le (l := l) n
    rw [placesTo]
    split
    · split
      · omega
      · simp; omega
    · omega

theorem keys_apart {l : List Link} : ∀ n, n ≤ l.length → (placesTo l n).length = n → ∀ (i j : Nat) (a b : Link), i < j → j < n → l[i]? = some a → l[j]? = some b → keyOf a ≠ keyOf b
  | 0, _, _, i, j, a, b, h1, h2, _, _ => by omega
  | n + 1, hn, hlen, i, j, a, b, h1, h2, h3, h4 => by
    rw [placesTo_next (l := l) (i := n) (by omega) rfl] at hlen
    have hle := placesTo_le (l := l) n
    cases hq : look (placesTo l n) (keyOf l[n]) with
    | some x =>
      rw [hq] at hlen
      simp at hlen
      omega
    | none =>
      rw [hq] at hlen
      have hl' : (placesTo l n).length = n := by simpa using hlen
      by_cases hj : j = n
      · subst hj
        intro he
        have hb : l[j] = b := (List.getElem?_eq_some_iff.1 h4).2
        have ha : l[i]'(Nat.lt_trans h1 (by omega)) = a := (List.getElem?_eq_some_iff.1 h3).2
        have := look_mem (l := l) j i (by omega) h1
        rw [ha, he, ← hb, hq] at this
        cases this
      · exact keys_apart n (by omega) hl' i j a b h1 (by omega) h3 h4

theorem or_self_in {a : Int} (h : inU a) : orU a a = a := eq_of_has (inU_or _ _) h fun k => by rw [has_or]; simp
theorem or_zero_in {a : Int} (h : inU a) : orU 0 a = a := eq_of_has (inU_or _ _) h fun k => by rw [has_or, has_zero]; simp
theorem or_again (a b : Int) : orU (orU a b) b = orU a b := eq_of_has (inU_or _ _) (inU_or _ _) fun k => by rw [has_or, has_or]; simp
theorem or_lt {a b : Int} (ha : 0 ≤ a) (ha2 : a < 256) (hb : 0 ≤ b) (hb2 : b < 256) : orU a b < 256 := by
  rw [orU_eq, BitVec.toNat_or]
  have h1 := bv_back (n := a) ⟨ha, by omega⟩
  have h2 := bv_back (n := b) ⟨hb, by omega⟩
  have := Nat.or_lt_two_pow (x := (bv a).toNat) (y := (bv b).toNat) (n := 8) (by omega) (by omega)
  omega
theorem or_pos {a b : Int} (ha : 0 < a) (ha2 : a < 256) : 0 < orU a b := by
  rw [orU_eq, BitVec.toNat_or]
  have h1 := bv_back (n := a) ⟨by omega, by omega⟩
  have : (bv a).toNat ≤ (bv a).toNat ||| (bv b).toNat := Nat.left_le_or
  omega

theorem may_spec {l : List Link} (h : lmayB l = true) : l.length ≤ 16 ∧ (∀ a ∈ l, odd a = false) ∧ (places l).length = l.length := by
  simp only [lmayB, Bool.and_eq_true, decide_eq_true_eq, Bool.not_eq_true', List.any_eq_false] at h
  exact ⟨h.1, fun a ha => by simpa using h.2.1 a ha, h.2.2⟩
theorem may_of {l : List Link} (h1 : l.length ≤ 16) (h2 : ∀ a ∈ l, odd a = false) (h3 : (places l).length = l.length) : lmayB l = true := by
  simp only [lmayB, Bool.and_eq_true, decide_eq_true_eq, Bool.not_eq_true', List.any_eq_false]
  exact ⟨h1, fun a ha => by simp [h2 a ha], h3⟩
theorem odd_false {a : Link} : odd a = false ↔ a.s.epoch < a.t.epoch ∧ a.mask ≠ 0 ∧ a.mask < 256 := by
  simp only [odd, Bool.or_eq_false_iff, decide_eq_false_iff_not]
  omega

structure PutOut (l M : List Link) (s t : Check) (v bt : Int) : Prop where
  e : lputE M s t v = 0
  again : lputL M s t v = M
  may : lmayB M = true
  who : who M s t = orU (who l s t) bt
  le : M.length ≤ l.length + 1
  at_ : ∀ (i : Nat) (a : Link), l[i]? = some a → M[i]? = some ⟨a.s, a.t, if a.s = s ∧ a.t = t then orU a.mask bt else a.mask⟩

theorem put_out {l : List Link} {s t : Check} {n : Nat} (hn : n ≤ 7) (hw : ∀ a ∈ l, 0 ≤ a.mask) (hm : lmayB l = true) (hE : lputE l s t n = 0) : PutOut l (lputL l s t n) s t n (bit n) := by
  obtain ⟨m1, m2, m3⟩ := may_spec hm
  have hap := keys_apart l.length (Nat.le_refl _) m3
  have hb := bit_range n hn
  have hbin : inU (bit n) := ⟨by omega, by omega⟩
  have hnv : ¬ ((n : Int) < 0 ∨ 8 ≤ (n : Int)) := by omega
  have hts : ¬ t.epoch ≤ s.epoch := by
    intro h
    simp [lputE, hm, hnv, h] at hE
  have eOf : ∀ {M : List Link} {i : Nat}, lmayB M = true → look (places M) ⟨s, t⟩ = some i → lputE M s t n = 0 := fun {M i} h1 h2 => by
    simp [lputE, h1, hnv, hts, h2]
  cases hq : look (places l) ⟨s, t⟩ with
  | some i =>
    obtain ⟨_, hil, hk⟩ := look_spec hq
    have hks : l[i].s = s ∧ l[i].t = t := by simpa [keyOf] using hk
    have hL : lputL l s t n = l.set i { l[i] with mask := orU l[i].mask (bit n) } := by simp [lputL, hE, hq, hil]
    have ho := odd_false.1 (m2 l[i] (List.getElem_mem hil))
    have hpos : 0 < l[i].mask := by have := hw l[i] (List.getElem_mem hil); omega
    rw [hL]
    generalize hx : ({ l[i] with mask := orU l[i].mask (bit n) } : Link) = x
    have hkx : keyOf x = keyOf l[i] := by rw [← hx]; rfl
    have hpl : places (l.set i x) = places l := by
      unfold places
      rw [List.length_set]
      refine placesTo_congr _ fun j hj => ?_
      rw [List.getElem?_set]
      by_cases hij : i = j
      · subst hij; simp [hil, hkx]
      · simp [hij]
    have hxi : (l.set i x)[i]? = some x := by simp [hil]
    have hmay : lmayB (l.set i x) = true := by
      refine may_of (by simpa using m1) (fun a ha => ?_) (by rw [hpl, m3, List.length_set])
      rcases List.mem_or_eq_of_mem_set ha with h | rfl
      · exact m2 a h
      · rw [odd_false, ← hx]
        exact ⟨ho.1, by have := or_pos (b := bit n) hpos ho.2.2; show orU _ _ ≠ 0; omega, or_lt (by omega) ho.2.2 (by omega) hb.2⟩
    have hq' : look (places (l.set i x)) ⟨s, t⟩ = some i := by rw [hpl]; exact hq
    have he := eOf hmay hq'
    refine ⟨he, ?_, hmay, ?_, by simp, ?_⟩
    · have hlt : i < (l.set i x).length := by simpa using hil
      have hg : (l.set i x).getD i zLink = x := by simp [List.getD, hxi]
      unfold lputL
      rw [if_pos he, hq']
      simp only [hg]
      have : ({ x with mask := orU x.mask (bit n) } : Link) = x := by
        rw [← hx]
        show ({ l[i] with mask := orU (orU l[i].mask (bit n)) (bit n) } : Link) = _
        rw [or_again]
      rw [this, List.set_set]
    · unfold who
      rw [hq', hq]
      simp only [hxi]
      simp only [hil, List.getElem?_eq_getElem, ← hx]
    · intro j a hj
      rw [List.getElem?_set]
      by_cases hij : i = j
      · subst hij
        have ha : l[i] = a := (List.getElem?_eq_some_iff.1 hj).2
        rw [ha] at hks hx
        rw [if_pos rfl, if_pos hil, ← hx, if_pos hks]
      · rw [if_neg hij, hj]
        have hne : ¬ (a.s = s ∧ a.t = t) := by
          rintro ⟨rfl, rfl⟩
          have hjl := (List.getElem?_eq_some_iff.1 hj).1
          rcases Nat.lt_or_ge i j with h | h
          · exact hap i j l[i] a h hjl (by simp) hj (by rw [hk]; rfl)
          · exact hap j i a l[i] (by omega) hil hj (by simp) (by rw [hk]; rfl)
        rw [if_neg hne]
  | none =>
    have hlen : l.length ≠ 16 := by
      intro h
      simp [lputE, hm, hnv, hts, hq, h] at hE
    have hL : lputL l s t n = l ++ [⟨s, t, bit n⟩] := by simp [lputL, hE, hq]
    rw [hL]
    generalize hx : (⟨s, t, bit n⟩ : Link) = x
    have hkx : keyOf x = ⟨s, t⟩ := by rw [← hx]; rfl
    have hpl : places (l ++ [x]) = places l ++ [(⟨s, t⟩, l.length)] := by
      unfold places
      rw [List.length_append, List.length_singleton, placesTo_next (a := x) (by simp) (by simp)]
      have : placesTo (l ++ [x]) l.length = placesTo l l.length := placesTo_congr _ fun j hj => by rw [List.getElem?_append_left hj]
      rw [this, hkx]
      have hq2 : look (placesTo l l.length) ⟨s, t⟩ = none := hq
      rw [hq2]
      rfl
    have hxi : (l ++ [x])[l.length]? = some x := by simp
    have hmay : lmayB (l ++ [x]) = true := by
      refine may_of (by simp; omega) (fun a ha => ?_) (by rw [hpl]; simp [m3])
      rcases List.mem_append.1 ha with h | h
      · exact m2 a h
      · rw [List.mem_singleton] at h
        subst h
        rw [odd_false, ← hx]
        exact ⟨by show s.epoch < t.epoch; omega, by show bit n ≠ 0; omega, hb.2⟩
    have hq' : look (places (l ++ [x])) ⟨s, t⟩ = some l.length := by rw [hpl, look_app, hq]; simp
    have he := eOf hmay hq'
    refine ⟨he, ?_, hmay, ?_, by simp, ?_⟩
    · have hg : (l ++ [x]).getD l.length zLink = x := by simp [List.getD, hxi]
      unfold lputL
      rw [if_pos he, hq']
      simp only [hg]
      have : ({ x with mask := orU x.mask (bit n) } : Link) = x := by
        rw [← hx]
        show (⟨s, t, orU (bit n) (bit n)⟩ : Link) = _
        rw [or_self_in hbin]
      rw [this]
      simp
    · unfold who
      rw [hq', hq]
      simp only [hxi]
      simp only [← hx]
      rw [or_zero_in hbin]
    · intro j a hj
      have hjl := (List.getElem?_eq_some_iff.1 hj).1
      rw [List.getElem?_append_left hjl, hj]
      have hne : ¬ (a.s = s ∧ a.t = t) := by
        rintro ⟨rfl, rfl⟩
        have := look_mem l.length j (Nat.le_refl _) hjl
        have ha : l[j] = a := (List.getElem?_eq_some_iff.1 hj).2
        rw [ha] at this
        have hq2 : look (placesTo l l.length) (keyOf a) = none := hq
        rw [hq2] at this
        cases this
      rw [if_neg hne]
