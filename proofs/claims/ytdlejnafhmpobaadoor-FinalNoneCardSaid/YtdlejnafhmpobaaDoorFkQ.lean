/- The reference of layer 15, once more. -/
import Derived.Test.YtdlejnafhmpobaaDoorFkP
set_option linter.unusedSimpArgs false
set_option maxRecDepth 10000
namespace Go.Proofs.YtdlejnafhmpobaaDoor
open Go Go.Ab

theorem look_first {l : List Link} {k : LKey} : ∀ (n i : Nat), n ≤ l.length → llook (placesTo l n) k = some i → ∀ (j : Nat) (a : Link), j < i → l[j]? = some a → keyOf a ≠ k
  | 0, i, _, h => by simp [placesTo, llook] at h
  | n + 1, i, hn, h => by
    rw [placesTo_next (l := l) (i := n) (by omega) rfl] at h
    split at h
    · exact look_first n i (by omega) h
    · rw [look_app] at h
      cases hq : llook (placesTo l n) k with
      | some x =>
        rw [hq] at h
        simp only [Option.some.injEq] at h
        subst h
        exact look_first n x (by omega) hq
      | none =>
        rw [hq] at h
        simp only at h
        split at h
        · simp only [Option.some.injEq] at h
          subst h
          intro j a hj ha he
          have ha' : l[j]'(by omega) = a := (List.getElem?_eq_some_iff.1 ha).2
          have := look_mem (l := l) n j (by omega) hj
          rw [ha', he, hq] at this
          cases this
        · cases h
theorem look_at {l : List Link} {k : LKey} {i : Nat} (hi : i < l.length) (hk : keyOf l[i] = k) (hb : ∀ (j : Nat) (hj : j < l.length), j < i → keyOf l[j] ≠ k) : llook (places l) k = some i := by
  have h1 := look_mem (l := l) l.length i (Nat.le_refl _) hi
  rw [hk] at h1
  obtain ⟨m, hm⟩ := Option.isSome_iff_exists.1 h1
  have hm' : llook (places l) k = some m := hm
  obtain ⟨_, h2, h3⟩ := look_spec hm
  have h4 := look_first l.length m (Nat.le_refl _) hm
  rcases Nat.lt_trichotomy m i with h | h | h
  · exact absurd h3 (hb m h2 h)
  · rw [hm', h]
  · exact absurd hk (h4 i l[i] h (by simp))
theorem look_no {l : List Link} {k : LKey} (hb : ∀ (j : Nat) (hj : j < l.length), keyOf l[j] ≠ k) : llook (places l) k = none :=
  look_none fun a ha => by
    obtain ⟨j, hj, rfl⟩ := List.mem_iff_getElem.1 ha
    exact hb j hj

theorem key_eq {a : Link} {s t : Check} (h1 : a.s = s) (h2 : a.t = t) : keyOf a = ⟨s, t⟩ := by rw [keyOf, h1, h2]
theorem key_ne1 {a : Link} {s t : Check} (h1 : a.s ≠ s) : keyOf a ≠ ⟨s, t⟩ := fun h => h1 (by simp [keyOf] at h; exact h.1)
theorem key_ne2 {a : Link} {s t : Check} (h1 : a.t ≠ t) : keyOf a ≠ ⟨s, t⟩ := fun h => h1 (by simp [keyOf] at h; exact h.2)

/-! ### Guilty, by the reference -/
