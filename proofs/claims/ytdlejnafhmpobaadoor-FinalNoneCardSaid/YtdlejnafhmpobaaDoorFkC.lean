/- The places of links, and who attested one. -/
import Derived.Test.YtdlejnafhmpobaaDoorFkB
set_option linter.unusedSimpArgs false
set_option maxRecDepth 10000
namespace Go.Proofs.YtdlejnafhmpobaaDoor
open Go Go.Ab

def lentE (e : LKey × Nat) : AV × AV := (e.1.av, .int .i64 e.2)
def llook (es : List (LKey × Nat)) (k : LKey) : Option Nat := (es.find? fun e => decide (k = e.1)).map (·.2)
def placesTo (l : List Link) : Nat → List (LKey × Nat)
  | 0 => []
  | i + 1 => match l[i]? with
    | some x => if (llook (placesTo l i) (keyOf x)).isSome then placesTo l i else placesTo l i ++ [(keyOf x, i)]
    | none => placesTo l i
def places (l : List Link) : List (LKey × Nat) := placesTo l l.length

theorem tMap64 : tMap Tryd.prog 80 = some (99, 3) := by kernel_rfl
theorem ltZero3 : tZero Tryd.prog 3 = some (.int .i64 0) := by kernel_rfl
theorem keys64 (es : List (LKey × Nat)) : keysFit Tryd.prog 99 (es.map lentE) := fun e he => by
  obtain ⟨x, _, rfl⟩ := List.mem_map.1 he
  exact fits99 x.1
theorem found64 (es : List (LKey × Nat)) (k : LKey) : foundE k.av (es.map lentE) = (llook es k).map fun n => .int .i64 n := by
  unfold foundE llook
  induction es with
  | nil => rfl
  | cons e es ih =>
    have hb : k.av.eqb (lentE e).1 = decide (k = e.1) := LKey.eqb k e.1
    simp only [List.map_cons, List.find?_cons, hb]
    cases decide (k = e.1)
    · exact ih
    · rfl
theorem look64 {hp : HP} {o : Nat} {es : List (LKey × Nat)} {k : LKey} {K : AV → Prop} (hg : HP.get hp o = some (.amap (es.map lentE))) (h : K (.tup [.int .i64 ((llook es k).getD 0), .bool (llook es k).isSome])) :
    lookupK Tryd.prog 80 hp (.mp o) k.av true K := by
  simp only [lookupK, tMap64, hg, ltZero3, if_true]
  refine ⟨fits99 k, depth99 k, keys64 es, ?_⟩
  rw [found64]
  cases hl : llook es k with
  | none => rw [hl] at h; exact h
  | some n => rw [hl] at h; exact h
theorem upd64 {hp : HP} {o : Nat} {es : List (LKey × Nat)} {k : LKey} {n : Nat} {K : AV → HP → Prop} (hg : HP.get hp o = some (.amap (es.map lentE))) (hn : llook es k = none) (h : K (.tup []) (HP.set hp o (.amap ((es ++ [(k, n)]).map lentE)))) :
    mapUpdateK Tryd.prog 80 hp (.mp o) k.av (.int .i64 n) K := by
  simp only [mapUpdateK, tMap64, hg]
  refine ⟨fits99 k, depth99 k, keys64 es, rfl, rfl, ?_⟩
  have : setE k.av (.int .i64 n) (es.map lentE) = (es ++ [(k, n)]).map lentE := by
    have hf : foundE k.av (es.map lentE) = none := by rw [found64, hn]; rfl
    unfold setE
    have : (es.map lentE).findIdx? (fun e => k.av.eqb e.1) = none := by
      rw [List.findIdx?_eq_none_iff]
      intro e he
      unfold foundE at hf
      simp only [Option.map_eq_none_iff, List.find?_eq_none] at hf
      simpa using hf e he
    rw [this, List.map_append]
    rfl
  rw [this]
  exact h

theorem placesTo_next {l : List Link} {i : Nat} {a : Link} (h : i < l.length) (ha : l[i] = a) : placesTo l (i + 1) = if (llook (placesTo l i) (keyOf a)).isSome then placesTo l i else placesTo l i ++ [(keyOf a, i)] := by
  rw [placesTo]
  simp [h, ha]

def st41 (l : List Link) (i : Nat) : S where
  fr := [(3, .mp 0), (9, .sl (l.map Link.av) false), (10, .int .i64 l.length), (11, .int .i64 i)]
  hp := [(0, .amap ((placesTo l i).map lentE))]
  nx := 1

@[go_sem] theorem lren_amap (ρ : Nat → Nat) (es : List (AV × AV)) : (AO.amap es).ren ρ = .amap es := rfl

theorem places_own (l : List Link) (hl : l.length ≤ 100) : Own Tryd.prog 50 [links l] (.mp 0) [(0, .amap ((places l).map lentE))] := by
  unfold links
  refine own_of_tr Tryd.func50 rfl (Nat.le_of_ble_eq_true rfl) rfl fun E hE hP => ?_
  first | refine tr_seq_region (by rw [hE]; rfl) ?_ | (refine Tr.seq ?_; refine tr_seq_region (by rw [hE]; rfl) ?_)
  repeat (refine vc_op rfl ?_; simp only [go_sem, seval])
  refine vc_nil ?_
  first | refine tr_seq_region (by rw [hE]; rfl) ?_ | (refine Tr.seq ?_; refine tr_seq_region (by rw [hE]; rfl) ?_)
  repeat (refine vc_op rfl ?_; simp only [go_sem, seval])
  refine vc_nil ?_
  refine Tr.seq ?_
  first | refine tr_seq_region (by rw [hE]; rfl) ?_ | (refine Tr.seq ?_; refine tr_seq_region (by rw [hE]; rfl) ?_)
  repeat (refine vc_op rfl ?_; simp only [go_sem, seval])
  refine vc_nil ?_
  refine Tr.block ?_
  refine Tr.loop (st41 l) (fun i => i ≤ l.length) (fun i => l.length - i) 0 (Nat.zero_le _) ?_ ?_
  · refine wk_ren (fun | 0 => 16 | n => n) ?_ ?_ rfl rfl rfl
    · repeat' (first | exact rfl | exact trivial | constructor)
    · repeat' (first | exact rfl | exact trivial | constructor)
  · intro i hi
    unfold st41
    first | refine tr_seq_region (by rw [hE]; rfl) ?_ | (refine Tr.seq ?_; refine tr_seq_region (by rw [hE]; rfl) ?_)
    repeat (refine vc_op rfl ?_; simp only [go_sem, seval])
    refine vc_nil ?_
    refine Tr.seq (Tr.cond rfl (fun h1 => ?_) (fun h1 => ?_))
    · refine Tr.skip ?_
      try simp only [blockK, thenK, ↓reduceIte]
      have hlt : i < l.length := by have := of_decide_eq_true h1; omega
      have ha := nth_map_lt Link.av l i hlt
      generalize hla : l[i] = a at ha
      have hw := wrap_next (n := i) (by omega)
      have hpl := placesTo_next hlt hla
      refine Tr.seq ?_
      refine Tr.block ?_
      first | refine tr_seq_region (by rw [hE]; rfl) ?_ | (refine Tr.seq ?_; refine tr_seq_region (by rw [hE]; rfl) ?_)
      repeat (refine vc_op rfl ?_; simp only [ha, go_sem, seval])
      refine vc_nil ?_
      first | refine tr_seq_region (by rw [hE]; rfl) ?_ | (refine Tr.seq ?_; refine tr_seq_region (by rw [hE]; rfl) ?_)
      repeat (refine vc_op rfl ?_; simp only [go_sem, seval])
      refine call_fn rfl rfl rfl rfl (enters_of Tryd.func74 (by kernel_rfl) rfl) (of_pure a) rfl rfl rfl ?_
      simp only [go_sem, seval]
      repeat (refine vc_op rfl ?_; simp only [go_sem, seval])
      refine look64 rfl ?_
      repeat (refine vc_op rfl ?_; simp only [go_sem, seval])
      refine vc_nil ?_
      first | refine tr_seq_region (by rw [hE]; rfl) ?_ | (refine Tr.seq ?_; refine tr_seq_region (by rw [hE]; rfl) ?_)
      repeat (refine vc_op rfl ?_; simp only [go_sem, seval])
      refine vc_nil ?_
      refine Tr.cond rfl (fun h2 => ?_) (fun h2 => ?_)
      · have hn : llook (placesTo l i) (keyOf a) = none := by
          cases hq : llook (placesTo l i) (keyOf a) with
          | none => rfl
          | some x => rw [hq] at h2; simp at h2
        rw [hn] at hpl
        simp only [Option.isSome_none, Bool.false_eq_true, if_false] at hpl
        refine tr_region (by rw [hE]; rfl) ?_
        repeat (refine vc_op rfl ?_; simp only [go_sem, seval])
        refine call_fn rfl rfl rfl rfl (enters_of Tryd.func74 (by kernel_rfl) rfl) (of_pure a) rfl rfl rfl ?_
        simp only [go_sem, seval]
        repeat (refine vc_op rfl ?_; simp only [go_sem, seval])
        refine upd64 rfl hn ?_
        simp only [go_sem, seval]
        repeat (refine vc_op rfl ?_; simp only [go_sem, seval])
        refine vc_nil ?_
        try simp only [blockK, thenK, ↓reduceIte]
        refine tr_region (by rw [hE]; rfl) ?_
        repeat (refine vc_op rfl ?_; simp only [hw, go_sem, seval])
        refine vc_nil ?_
        try simp only [blockK, thenK, ↓reduceIte]
        refine ⟨i + 1, hlt, by omega, ?_⟩
        rw [hpl]
        refine wk_ren (fun n => n) ?_ ?_ rfl rfl rfl
        · repeat' (first | exact rfl | exact trivial | constructor)
        · repeat' (first | exact rfl | exact trivial | constructor)
      · have hn : (llook (placesTo l i) (keyOf a)).isSome = true := by
          cases hq : llook (placesTo l i) (keyOf a) with
          | none => rw [hq] at h2; simp at h2
          | some x => rfl
        rw [hn, if_pos rfl] at hpl
        refine Tr.skip ?_
        try simp only [blockK, thenK, ↓reduceIte]
        refine tr_region (by rw [hE]; rfl) ?_
        repeat (refine vc_op rfl ?_; simp only [hw, go_sem, seval])
        refine vc_nil ?_
        try simp only [blockK, thenK, ↓reduceIte]
        refine ⟨i + 1, hlt, by omega, ?_⟩
        rw [hpl]
        refine wk_ren (fun n => n) ?_ ?_ rfl rfl rfl
        · repeat' (first | exact rfl | exact trivial | constructor)
        · repeat' (first | exact rfl | exact trivial | constructor)
    · refine Tr.exit ?_
      try simp only [blockK, thenK, ↓reduceIte]
      have hil : i = l.length := by
        have := of_decide_eq_false h1
        omega
      subst hil
      first | refine tr_seq_region (by rw [hE]; rfl) ?_ | (refine Tr.seq ?_; refine tr_seq_region (by rw [hE]; rfl) ?_)
      repeat (refine vc_op rfl ?_; simp only [go_sem, seval])
      refine vc_nil ?_
      refine Tr.ret ?_
      simp only [Tryd.f50, go_sem, seval]
      exact ⟨fun n => n, rfl, ⟨⟨rfl, rfl, rfl⟩, trivial⟩, rfl⟩
