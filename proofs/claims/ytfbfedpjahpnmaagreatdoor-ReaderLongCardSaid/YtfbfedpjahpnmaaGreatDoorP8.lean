/- How long the bytes of a call are. -/
import Derived.Test.YtfbfedpjahpnmaaGreatDoorSnEDec
import Derived.Test.YtfbfedpjahpnmaaGreatDoorP6
set_option linter.unusedSimpArgs false
set_option maxRecDepth 100000
namespace Go.Proofs.YtfbfedpjahpnmaaGreatDoor
open Go Go.Ab Go.ChangeShapes Go.WideShapes Go.ChangeAt Go.RowKit

section
variable {P : Program} {H : Type} {enc : TypeId × Value → H} {w : World} {base : Nat} {sp : Nat → Bool} {held : Bool}
theorem trod_struct {fuel : Nat} {t : TypeId} {fs : Array Field} {cs : List Value} {d : DataW H} {ps : List MemPlace} (hu : P.underlying t = some (.struct fs)) (h : DataW.trod enc P w base sp held (fuel + 1) t cs = some (d, ps)) :
    ∃ xs, fs.toList.mapM (fun f => DataW.trod enc P w base sp held fuel f.type ((cs.drop f.offset).take (P.cellsOf f.type))) = some xs ∧ d = .agg (xs.map (·.1)) := by
  unfold DataW.trod at h
  split at h
  all_goals first
    | (rename_i hu2; rw [hu] at hu2; cases hu2; done)
    | skip
  all_goals try (rename_i hu2; rw [hu] at hu2; injection hu2 with hu2; injection hu2 with hu2; subst hu2)
  · split at h
    · simp only [Option.map_eq_some_iff] at h
      obtain ⟨r, h1, h2⟩ := h
      injection h2 with h2 h3
      exact ⟨r, h1, h2.symm⟩
    · cases h
  all_goals cases h
theorem trod_slice {fuel : Nat} {t e : TypeId} {A : Option Addr} {n c : Nat} {d : DataW H} {ps : List MemPlace} (hu : P.underlying t = some (.slice e)) (h : DataW.trod enc P w base sp held (fuel + 1) t [.slice A n c] = some (d, ps)) :
    n = 0 ∨ ∃ xs ys, d = .slice xs ys ∧ xs.length = n := by
  unfold DataW.trod at h
  split at h
  all_goals first
    | (rename_i hu2; rw [hu] at hu2; cases hu2; done)
    | skip
  all_goals try (rename_i hc2; cases hc2; done)
  · rename_i he
    cases he
    exact .inl rfl
  · rename_i he
    cases he
    right
    split at h
    · simp only [Option.bind_eq_some_iff, Option.map_eq_some_iff] at h
      obtain ⟨elems, h1, rest, _, h2⟩ := h
      injection h2 with h2 h3
      refine ⟨_, _, h2.symm, ?_⟩
      rw [List.length_map]
      have := mapM_some_length h1
      rw [List.length_range] at this
      exact this
    · cases h
  · cases h
theorem raw_len {fuel : Nat} {c : Ask} {cs : List Value} {d : DataW H} {ps : List MemPlace} {C : Cx} (h : DataW.trod enc Tryz.prog w base sp held fuel 43 cs = some (d, ps)) (hr : Rep C c.av cs) (hw : (d.weights Tryz.prog 43).all (· ≤ reachBytes) = true) : c.vals.length ≤ reachBytes := by
  cases fuel with
  | zero => simp [DataW.trod] at h
  | succ fuel =>
    obtain ⟨xs, hm, rfl⟩ := trod_struct Tryz.underlying43 h
    have hl := mapM_some_length hm
    have h1 := mapM_some_get hm 1 _ rfl
    simp only [Ask.av, Rep, RepL] at hr
    obtain ⟨css, ⟨l0, r0, rfl, ⟨hl0, l1, r1, rfl, ⟨⟨A, cp, hl1, hrest⟩, _⟩⟩⟩, hcs⟩ := hr
    subst hl0
    subst hl1
    subst hcs
    have hc1 : Tryz.prog.cellsOf 41 = 1 := by kernel_rfl
    simp only [hc1, List.flatten_cons, List.cons_append, List.nil_append, List.drop_succ_cons, List.drop_zero, List.take_succ_cons, List.take_zero] at h1
    match xs, hl with
    | [x0, x1, x2, x3, x4], _ =>
      cases fuel with
      | zero => simp [DataW.trod] at h1
      | succ fuel =>
        obtain ⟨d1, p1⟩ := x1
        rcases trod_slice Tryz.underlying41 h1 with h2 | ⟨es, ys, rfl, he⟩
        · rw [List.length_map] at h2
          omega
        · rw [List.length_map] at he
          have hb5 : Tryz.prog.bytesOf 5 = 1 := by kernel_rfl
          simp only [DataW.weights, Tryz.underlying43, Tryz.underlying41, List.map_cons, List.map_nil, DataW.weightsEach, List.all_append, List.all_cons, Bool.and_eq_true, decide_eq_true_eq, hb5] at hw
          have := hw.2.1.1
          omega
theorem reader_len {fuel : Nat} {r : Rdr} {cs : List Value} {d : DataW H} {ps : List MemPlace} {C : Cx} (h : DataW.trod enc Tryz.prog w base sp held fuel 76 cs = some (d, ps)) (hr : Rep C r.av cs) (hw : (d.weights Tryz.prog 76).all (· ≤ reachBytes) = true) : r.c.vals.length ≤ reachBytes := by
  cases fuel with
  | zero => simp [DataW.trod] at h
  | succ fuel =>
    obtain ⟨xs, hm, rfl⟩ := trod_struct Tryz.underlying76 h
    have hl := mapM_some_length hm
    have h1 := mapM_some_get hm 0 _ rfl
    unfold Rdr.av at hr
    rw [Rep] at hr
    obtain ⟨css, hcl, hcs⟩ := hr
    rw [RepL] at hcl
    obtain ⟨l0, r0, rfl, hl0, _⟩ := hcl
    subst hcs
    have hc1 : Tryz.prog.cellsOf 43 = 67 := by kernel_rfl
    have hlen : l0.length = 67 := Rep.length _ _ hl0
    simp only [hc1, List.flatten_cons, List.drop_zero] at h1
    rw [List.take_append_of_le_length (by omega), List.take_of_length_le (by omega)] at h1
    match xs, hl with
    | [x0, x1, x2, x3, x4], _ =>
      obtain ⟨d0, p0⟩ := x0
      refine raw_len h1 hl0 ?_
      simp only [DataW.weights, Tryz.underlying76, List.map_cons, List.map_nil, DataW.weightsEach, List.all_append, Bool.and_eq_true] at hw
      exact hw.1
/-- The calls among the arguments are no longer. -/
def shortA (ts : List TypeId) (xs : List AV) : Prop :=
  (∀ (j : Nat) (c : Ask), ts[j]? = some 43 → xs[j]? = some c.av → c.vals.length ≤ reachBytes) ∧ (∀ (j : Nat) (r : Rdr), ts[j]? = some 76 → xs[j]? = some r.av → r.c.vals.length ≤ reachBytes)
theorem short_of {C : Cx} : ∀ (ts : List TypeId) (vs : List Value) (ds : List (DataW H)) (ps : List MemPlace) (xs : List AV), DataW.TrodAll enc Tryz.prog w base sp held ts vs ds ps → RepVs C xs vs → (DataW.weightsEach Tryz.prog ts ds).all (· ≤ reachBytes) = true → shortA ts xs
  | [], _, _, _, _, _, _, _ => ⟨fun _ _ h => by simp at h, fun _ _ h => by simp at h⟩
  | t :: ts, vs, ds, ps, xs, h, hr, hw => by
    obtain ⟨v, vs', d, ds', p, q, rfl, rfl, rfl, ⟨fuel, h1⟩, h2⟩ := trodAll_cons h
    cases xs with
    | nil => cases hr
    | cons x xs =>
      obtain ⟨v2, r2, he, hx, hxs⟩ := hr
      injection he with he1 he2
      subst he1
      subst he2
      rw [DataW.weightsEach, List.all_append, Bool.and_eq_true] at hw
      obtain ⟨i1, i2⟩ := short_of ts vs' ds' q xs h2 hxs hw.2
      refine ⟨fun j c ht hj => ?_, fun j c ht hj => ?_⟩
      · cases j with
        | zero =>
          simp only [List.getElem?_cons_zero, Option.some.injEq] at ht hj
          subst ht
          subst hj
          exact raw_len h1 hx.1 hw.1
        | succ j => exact i1 j c (by simpa using ht) (by simpa using hj)
      · cases j with
        | zero =>
          simp only [List.getElem?_cons_zero, Option.some.injEq] at ht hj
          subst ht
          subst hj
          exact reader_len h1 hx.1 hw.1
        | succ j => exact i2 j c (by simpa using ht) (by simpa using hj)

theorem lifted_sized {os : Os} {f : FuncId} {fn : Func} {s : ChangeSpec} {tb : TypeId} {m : Nat} {apart fresh handsOn again : Bool} {laid : List (String × DataW Unit)} {g : Nat} {x : AV} (started : os.Started) (own : ownKnob Tryz.prog.godebug = none) (noInit : Tryz.prog.inits.idxOf? f = none) (hfn : Tryz.prog.funcs[f]? = some fn)
    (witness : ∃ (w : World) (tape : Tape) (i : Input), w.os = os ∧ (w.forCall tape i).Shaped Tryz.prog ∧ i.vars = [] ∧ Input.okWide Tryz.prog (w.forCall tape i) .any w.heap.size f i ∧
      ((s.pre enc Tryz.prog fn [] apart (w.forCall tape i).memory i.args ∧ laidMet Tryz.prog laid (w.forCall tape i).memory) ∧ sizedMet enc Tryz.prog fn (OpenSpec.ofChange s) apart (w.forCall tape i).memory i.args) ∧ ({} : Assume).holds Tryz.prog (lone (Frame.enter Tryz.prog f i.args .normal) [] (w.forCall tape i)))
    (htab : ∀ W : World, laidMet Tryz.prog laid W → Rep ⟨id, fun _ => False, fun b => b < W.heap.size, W⟩ (.ref x) [.pointer (some ⟨g, 0, none⟩)])
    (hl : laidOutB Tryz.prog = true) (hv : s.vars = []) (hpar : fn.params.toList.all (fun t => decide (t < Tryz.prog.types.size) && goodT Tryz.prog m t && Tryz.prog.readableRec t) = true) (hres : fn.resultTypes = #[tb]) (htb : Tryz.prog.underlying tb = some .bool)
    (hspec : ∀ ds : List (DataW H), ds.length = fn.params.toList.length → s.fn H ds = { results := [.lit (.bool true)], args := ds })
    (law : ∀ xs, hasTs Tryz.prog m fn.params.toList xs → shortA fn.params.toList xs → PureT Tryz.prog g x f xs (.bool true)) :
    ReturnsInHanded {} Tryz.checked os f .any (fun w args => (s.pre enc Tryz.prog fn [] apart w args ∧ laidMet Tryz.prog laid w) ∧ sizedMet enc Tryz.prog fn (OpenSpec.ofChange s) apart w args) (s.post enc Tryz.prog fn apart fresh handsOn again) := by
  have hpar' : ∀ t ∈ fn.params.toList, t < Tryz.prog.types.size ∧ goodT Tryz.prog m t = true ∧ Tryz.prog.readableRec t = true := fun t ht => by
    have := List.all_eq_true.1 hpar t ht
    simp only [Bool.and_eq_true, decide_eq_true_eq] at this
    exact ⟨this.1.1, this.1.2, this.2⟩
  refine returnsInHanded_of_change_and (C := Tryz.checked) (X := fun w _ => laidMet Tryz.prog laid w) (fun _ _ _ hh h => h.of_heap hh) own started noInit hfn witness ?_
  intro W base args ds gs before hval hW _ hwt hL _
  have hW' := hW
  obtain ⟨p, q, hA, hV, rfl, _, _⟩ := hW
  rw [hv] at hV
  obtain ⟨rfl, rfl⟩ := trodVars_none hV
  rw [List.append_nil] at hW'
  have hvt : s.plain.varTypes Tryz.checked.prog = [] := by
    unfold DataSpec.varTypes
    simp [ChangeSpec.plain, hv]
  rw [hvt, List.append_nil, List.append_nil] at hwt
  obtain ⟨xs, h1, h2⟩ := reps_of_trodAll (im := fun b => b < W.heap.size) hl (fun b h => h) _ _ _ _ (fun t ht => ⟨(hpar' t ht).1, (hpar' t ht).2.1⟩) (fun j t v h3 h4 => hval j t v (by simpa using h3) (by simpa using h4)) hA
  have hle : Cx.Le ⟨id, fun _ => False, fun b => b < W.heap.size, W⟩ ⟨fun _ => 0, fun o => o < 1, fun b => b < W.heap.size, W⟩ := ⟨fun _ h => h.elim, fun _ h => h.elim, fun _ h => h, fun _ _ _ => rfl, Nat.le_refl _, fun _ _ h => h⟩
  have ht := htab W hL
  have hg : ∀ o ob, HP.get [(0, AO.tab g x)] o = some ob → o = 0 ∧ ob = .tab g x := fun o ob h => by
    rw [HP.get_cons] at h
    split at h
    · rename_i e; cases h; exact ⟨e.symm, rfl⟩
    · cases h
  have h3 := law xs h1 (short_of _ _ _ _ _ hA h2 hwt) (fun _ => 0) (fun b => b < W.heap.size) W args.toList
    ⟨fun o ob h => by obtain ⟨rfl, rfl⟩ := hg o ob h; exact Rep.mono hle _ _ ht, fun o ob h => by obtain ⟨rfl, rfl⟩ := hg o ob h; exact Nat.one_pos,
      fun o ob h hr => by obtain ⟨rfl, rfl⟩ := hg o ob h; exact hr.elim, fun o ob h hr => by obtain ⟨rfl, rfl⟩ := hg o ob h; exact hr.elim,
      fun o o' ob ob' h _ hr => by obtain ⟨rfl, rfl⟩ := hg o ob h; exact hr.elim, fun o ob h hr => by obtain ⟨rfl, rfl⟩ := hg o ob h; exact hr.elim,
      fun b h => h, fun b h => .inl h, fun b h => h, fun _ _ _ => rfl, Nat.le_refl _, rfl, rfl, rfl, fun _ _ h => h, fun o ho => ⟨ho, rfl⟩⟩ (RepVs.mono hle _ _ h2)
  have h4 := callsIn_wide.1 h3
  refine Calls.mono h4 ?_
  rintro e W' ⟨v, ι', dom', im', rfl, hi, hr, _⟩
  have hv' : v = .bool true := bool_val hr
  subst hv'
  have hb : Below W.heap.size W W' := ⟨hi.os, hi.tape, hi.output, hi.size, fun k hk => hi.ext k hk (fun ⟨o, ob, h, hr, _⟩ => by obtain ⟨rfl, rfl⟩ := hg o ob h; exact hr.elim)⟩
  exact ⟨_, rfl, post_of_below hl hv (fun t ht => ⟨(hpar' t ht).1, (hpar' t ht).2.2⟩) hA hW' hres htb (hspec ds (trodAll_len hA)) hb⟩
end
end Go.Proofs.YtfbfedpjahpnmaaGreatDoor
