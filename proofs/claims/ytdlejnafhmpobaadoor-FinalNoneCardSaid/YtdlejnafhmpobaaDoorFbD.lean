/- Places by roots. -/
import Derived.Test.YtdlejnafhmpobaaDoorFbC
set_option linter.unusedSimpArgs false
namespace Go.Proofs.YtdlejnafhmpobaaDoor
open Go Go.Ab

def entE (e : Root × Nat) : AV × AV := (.root e.1, .int .i64 e.2)
def setR (es : List (Root × Nat)) (r : Root) (i : Nat) : List (Root × Nat) :=
  match es.findIdx? fun e => decide (r = e.1) with
  | some k => es.set k (r, i)
  | none => es ++ [(r, i)]
def idxTo (t : List Node) : Nat → List (Root × Nat)
  | 0 => []
  | i + 1 => match t[i]? with
    | some n => setR (idxTo t i) n.root i
    | none => idxTo t i
def onceB (t : List Node) : Bool := decide ((t.map Node.root).Nodup)

theorem tMap88 : tMap Tryd.prog 73 = some (30, 3) := by kernel_rfl
theorem keys88 (es : List (Root × Nat)) : keysFit Tryd.prog 30 (es.map entE) := fun e he => by
  obtain ⟨x, _, rfl⟩ := List.mem_map.1 he
  exact fits23 x.1
theorem setE_ent (es : List (Root × Nat)) (r : Root) (i : Nat) : setE (.root r) (.int .i64 i) (es.map entE) = (setR es r i).map entE := by
  unfold setE setR
  have h : (es.map entE).findIdx? (fun e => (AV.root r).eqb e.1) = es.findIdx? fun e => decide (r = e.1) := by
    rw [List.findIdx?_map]
    congr 1
  rw [h]
  cases es.findIdx? fun e => decide (r = e.1) with
  | some k => simp only [List.map_set]; rfl
  | none => simp only [List.map_append]; rfl
theorem upd88 {hp : HP} {o : Nat} {es : List (Root × Nat)} {r : Root} {n : Nat} {K : AV → HP → Prop} (hg : HP.get hp o = some (.amap (es.map entE))) (h : K (.tup []) (HP.set hp o (.amap ((setR es r n).map entE)))) :
    mapUpdateK Tryd.prog 73 hp (.mp o) (.root r) (.int .i64 n) K := by
  simp only [mapUpdateK, tMap88, hg]
  refine ⟨fits23 r, depth23 r, keys88 es, rfl, rfl, ?_⟩
  rw [setE_ent]
  exact h

theorem setR_len (es : List (Root × Nat)) (r : Root) (i : Nat) : (setR es r i).length = es.length + (if r ∈ es.map (·.1) then 0 else 1) := by
  unfold setR
  split
  · rename_i k hk
    obtain ⟨h1, h2, _⟩ := List.findIdx?_eq_some_iff_getElem.1 hk
    rw [List.length_set, if_pos (List.mem_map.2 ⟨es[k], List.getElem_mem h1, (of_decide_eq_true h2).symm⟩)]
    rfl
  · rename_i hk
    rw [List.length_append, if_neg]
    · rfl
    · intro h
      obtain ⟨e, he, h2⟩ := List.mem_map.1 h
      have := List.findIdx?_eq_none_iff.1 hk e he
      simp [h2] at this
theorem setR_mem (es : List (Root × Nat)) (r x : Root) (i : Nat) : x ∈ (setR es r i).map (·.1) ↔ x ∈ es.map (·.1) ∨ x = r := by
  unfold setR
  split
  · rename_i k hk
    obtain ⟨h1, h2, _⟩ := List.findIdx?_eq_some_iff_getElem.1 hk
    have h3 : es[k].1 = r := (of_decide_eq_true h2).symm
    have h4 : (es.set k (r, i)).map (·.1) = es.map (·.1) := by
      rw [List.map_set]
      apply List.ext_getElem (by simp)
      intro j h5 h6
      rw [List.getElem_set]
      split
      · rename_i hkj
        subst hkj
        simp [h3]
      · rfl
    rw [h4]
    constructor
    · exact fun h => .inl h
    · rintro (h | h)
      · exact h
      · rw [h, ← h3]
        exact List.mem_map.2 ⟨es[k], List.getElem_mem h1, rfl⟩
  · simp [List.map_append]
theorem idxTo_law (t : List Node) : ∀ k, k ≤ t.length → (∀ x, x ∈ (idxTo t k).map (·.1) ↔ x ∈ (t.map Node.root).take k) ∧ (idxTo t k).length ≤ k ∧ ((idxTo t k).length = k ↔ ((t.map Node.root).take k).Nodup)
  | 0, _ => by simp [idxTo]
  | k + 1, hk => by
    obtain ⟨h1, h2, h3⟩ := idxTo_law t k (by omega)
    have hg : t[k]? = some t[k] := List.getElem?_eq_getElem (by omega)
    have e : idxTo t (k + 1) = setR (idxTo t k) t[k].root k := by rw [idxTo, hg]
    have et : (t.map Node.root).take (k + 1) = (t.map Node.root).take k ++ [t[k].root] := by
      rw [List.take_add_one, List.getElem?_map, hg]; rfl
    rw [e, et]
    refine ⟨fun x => ?_, ?_, ?_⟩
    · rw [setR_mem, h1]; simp
    · rw [setR_len]; split <;> omega
    · rw [setR_len, List.nodup_append]
      by_cases hm : t[k].root ∈ (idxTo t k).map (·.1)
      · rw [if_pos hm]
        have hm' := (h1 _).1 hm
        constructor
        · intro h; omega
        · intro h; exact absurd rfl (h.2.2 _ hm' _ (List.mem_singleton.2 rfl))
      · rw [if_neg hm]
        have hm' : t[k].root ∉ (t.map Node.root).take k := fun h => hm ((h1 _).2 h)
        constructor
        · intro h
          refine ⟨h3.1 (by omega), by simp, fun a ha b hb hab => ?_⟩
          rw [List.mem_singleton.1 hb] at hab
          exact hm' (hab ▸ ha)
        · intro h
          have := h3.2 h.1
          omega
theorem idx_once (t : List Node) : decide (((idxTo t t.length).length : Int) = (t.length : Int)) = onceB t := by
  have := (idxTo_law t t.length (Nat.le_refl _)).2.2
  rw [List.take_of_length_le (by simp)] at this
  unfold onceB
  apply decide_eq_decide.2
  rw [← this]
  omega

@[go_sem] theorem ren_amap (ρ : Nat → Nat) (es : List (AV × AV)) : (AO.amap es).ren ρ = .amap es := rfl

def st56 (t : List Node) (i : Nat) : S where
  fr := [(0, .sl (t.map Node.av) false), (4, .mp 0), (8, .sl (t.map Node.av) false), (9, .int .i64 t.length), (10, .int .i64 i)]
  hp := [(0, .amap ((idxTo t i).map entE))]
  nx := 1

set_option maxRecDepth 10000 in
theorem index_own (t : List Node) (hl : t.length ≤ 100) : Own Tryd.prog 46 [.sl (t.map Node.av) false] (.tup [.mp 0, .bool (onceB t)]) [(0, .amap ((idxTo t t.length).map entE))] := by
  refine own_of_tr Tryd.func46 rfl (Nat.le_of_ble_eq_true rfl) rfl fun E hE hP => ?_
  first | refine tr_seq_region (by rw [hE]; rfl) ?_ | (refine Tr.seq ?_; refine tr_seq_region (by rw [hE]; rfl) ?_)
  repeat (refine vc_op rfl ?_; simp only [go_sem, seval])
  refine vc_nil ?_
  first | refine tr_seq_region (by rw [hE]; rfl) ?_ | (refine Tr.seq ?_; refine tr_seq_region (by rw [hE]; rfl) ?_)
  repeat (refine vc_op rfl ?_; simp only [go_sem, seval])
  refine vc_nil ?_
  first | refine tr_seq_region (by rw [hE]; rfl) ?_ | (refine Tr.seq ?_; refine tr_seq_region (by rw [hE]; rfl) ?_)
  repeat (refine vc_op rfl ?_; simp only [go_sem, seval])
  refine vc_nil ?_
  first | refine Tr.block ?_ | (refine Tr.seq ?_; refine Tr.block ?_)
  refine Tr.loop (st56 t) (fun i => i ≤ t.length) (fun i => t.length - i) 0 (Nat.zero_le _) ?_ ?_
  · refine wk_ren (fun | 0 => 32 | n => n) ?_ ?_ rfl rfl rfl
    · repeat' (first | exact rfl | exact trivial | constructor)
    · repeat' (first | exact rfl | exact trivial | constructor)
  · intro i hi
    unfold st56
    first | refine tr_seq_region (by rw [hE]; rfl) ?_ | (refine Tr.seq ?_; refine tr_seq_region (by rw [hE]; rfl) ?_)
    repeat (refine vc_op rfl ?_; simp only [go_sem, seval])
    refine vc_nil ?_
    first | refine Tr.cond rfl (fun h1 => ?_) (fun h1 => ?_) | refine Tr.seq (Tr.cond rfl (fun h1 => ?_) (fun h1 => ?_))
    · refine Tr.skip ?_
      try simp only [blockK, thenK, ↓reduceIte]
      have hlt : i < t.length := by have := of_decide_eq_true h1; omega
      have ha := nth_map_lt Node.av t i hlt
      have hg : t[i]? = some t[i] := List.getElem?_eq_getElem hlt
      have e : idxTo t (i + 1) = setR (idxTo t i) t[i].root i := by rw [idxTo, hg]
      generalize t[i] = n at ha e
      have hw := wrap_next (n := i) (by omega)
      first | refine Tr.block ?_ | (refine Tr.seq ?_; refine Tr.block ?_)
      first | refine tr_seq_region (by rw [hE]; rfl) ?_ | (refine Tr.seq ?_; refine tr_seq_region (by rw [hE]; rfl) ?_)
      repeat (refine vc_op rfl ?_; simp only [ha, go_sem, seval])
      refine vc_nil ?_
      refine tr_region (by rw [hE]; rfl) ?_
      repeat (refine vc_op rfl ?_; simp only [go_sem, seval])
      refine upd88 rfl ?_
      simp only [go_sem, seval]
      refine vc_nil ?_
      try simp only [blockK, thenK, ↓reduceIte]
      refine tr_region (by rw [hE]; rfl) ?_
      repeat (refine vc_op rfl ?_; simp only [go_sem, seval])
      refine vc_nil ?_
      rw [hw]
      try simp only [blockK, thenK, ↓reduceIte]
      refine ⟨i + 1, hlt, by omega, ?_⟩
      rw [e]
      refine wk_ren (fun n => n) ?_ ?_ rfl rfl rfl
      · repeat' (first | exact rfl | exact trivial | constructor)
      · repeat' (first | exact rfl | exact trivial | constructor)
    · refine Tr.exit ?_
      try simp only [blockK, thenK, ↓reduceIte]
      have hil : i = t.length := by have := of_decide_eq_false h1; omega
      subst hil
      have ho := idx_once t
      first | refine tr_seq_region (by rw [hE]; rfl) ?_ | (refine Tr.seq ?_; refine tr_seq_region (by rw [hE]; rfl) ?_)
      repeat (refine vc_op rfl ?_; simp only [go_sem, seval])
      refine vc_nil ?_
      refine Tr.ret ?_
      simp only [ho, Tryd.f46, go_sem, seval]
      exact ⟨fun n => n, rfl, ⟨⟨rfl, rfl, rfl⟩, trivial⟩, rfl⟩
