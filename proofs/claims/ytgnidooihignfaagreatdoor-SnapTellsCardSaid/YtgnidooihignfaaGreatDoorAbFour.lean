/- What a function answers: from its body, and at a call. -/
import Derived.ProofKit
import Derived.OpenShut
import Derived.RangeFuncRecord
import Derived.Lib.LaidTab
import Derived.Test.YtgnidooihignfaaGreatDoorAbThree
namespace Go.Ab
open Go.RowKit
section
variable {P : Program} {E : Env} {hp hp2 : HP} {ι : Nat → Nat} {dom im im2 : Nat → Prop} {w w' : World}
theorem HInv.step (h : HInv E hp ι dom im w) (hb : Below w.heap.size w w') (hsub : ∀ o ob, HP.get hp2 o = some ob → HP.get hp o = some ob) (him : ∀ b, im b → im2 b)
 (hn : ∀ o ob, HP.get hp2 o = some ob → ob.real → ¬ im2 (ι o)) (hlt : ∀ b, im2 b → b < w'.heap.size) (hs : ∀ b, im2 b → E.im0 b ∨ E.own0 b ∨ E.w0.heap.size ≤ b) :
 HInv E hp2 ι dom im2 w' ∧ Cx.Le ⟨ι, dom, im, w⟩ ⟨ι, dom, im2, w'⟩ := by
 have hle : Cx.Le ⟨ι, dom, im, w⟩ ⟨ι, dom, im2, w'⟩ := ⟨fun _ h => h, fun _ _ => rfl, him, fun b _ hlt => hb.block b hlt, hb.size, fun b s hs => by
  have hlt : b < w.heap.size := by
   rcases Nat.lt_or_ge b w.heap.size with h' | h'
   · exact h'
   · simp [World.shape?, Array.getElem?_eq_none h'] at hs
  have := hb.block b hlt
  simp only [World.shape?] at hs ⊢
  rw [this]; exact hs⟩
 refine ⟨⟨fun o ob hg => (h.own o ob (hsub o ob hg)).mono hle fun hr => hb.block _ (h.lt o ob (hsub o ob hg) hr), fun o ob hg => h.dm o ob (hsub o ob hg), fun o ob hg hr => Nat.lt_of_lt_of_le (h.lt o ob (hsub o ob hg) hr) hb.size, hn,
  fun o o' ob ob' hg hg' hr hr' he => h.inj o o' ob ob' (hsub _ _ hg) (hsub _ _ hg') hr hr' he, fun o ob hg hr => h.loc o ob (hsub _ _ hg) hr, hlt, hs, fun b hb' => him b (h.im0 b hb'), fun b hb' hno => ?_,
  Nat.le_trans h.size hb.size, hb.os.trans h.os, hb.tape.trans h.tape, hb.output.trans h.output, fun b s hs => hle.shape b s (h.sh b s hs), h.pin⟩, hle⟩
 exact (hb.block b (Nat.lt_of_lt_of_le hb' h.size)).trans (h.ext b hb' hno)
mutual
theorem flat_any {C C' : Cx} : ∀ (x : AV) (cs : List Value), x.flat = true → Rep C x cs → Rep C' x cs
 | .bool _, _, _, h => by simpa only [Rep] using h
 | .int _ _, _, _, h => by simpa only [Rep] using h
 | .str _, _, _, h => by simpa only [Rep] using h
 | .root _, _, _, h => by simpa only [Rep] using h
 | .st fs, cs, hf, h => by
   simp only [Rep] at h ⊢
   obtain ⟨css, h1, h2⟩ := h
   exact ⟨css, flatL_any fs css (by simpa [AV.flat] using hf) h1, h2⟩
 | .arr fs, cs, hf, h => by
   simp only [Rep] at h ⊢
   obtain ⟨css, h1, h2⟩ := h
   exact ⟨css, flatL_any fs css (by simpa [AV.flat] using hf) h1, h2⟩
 | .sl _ _, _, hf, _ => by simp [AV.flat] at hf
 | .ms _ _ _, _, hf, _ => by simp [AV.flat] at hf
 | .ref _, _, hf, _ => by simp [AV.flat] at hf
 | .ptr _ _ _, _, hf, _ => by simp [AV.flat] at hf
 | .nilp, _, _, h => by simpa only [Rep] using h
 | .mp _, _, hf, _ => by simp [AV.flat] at hf
 | .fn _ _ _, _, hf, _ => by simp [AV.flat] at hf
 | .nilf, _, _, h => by simpa only [Rep] using h
 | .tup _, _, _, h => by simp only [Rep] at h
 | .raw _, _, hf, _ => by simp [AV.flat] at hf
theorem flatL_any {C C' : Cx} : ∀ (xs : List AV) (css : List (List Value)), AV.flatL xs = true → RepL C xs css → RepL C' xs css
 | [], _, _, h => by simpa only [RepL] using h
 | x :: xs, css, hf, h => by
   simp only [AV.flatL, Bool.and_eq_true] at hf
   simp only [RepL] at h ⊢
   obtain ⟨c, r, h1, h2, h3⟩ := h
   exact ⟨c, r, h1, flat_any x c hf.1 h2, flatL_any xs r hf.2 h3⟩
end
theorem flatVs_any {C C' : Cx} : ∀ (xs : List AV) (vs : List Value), AV.flatL xs = true → RepVs C xs vs → RepVs C' xs vs
 | [], _, _, h => h
 | x :: xs, vs, hf, h => by
   simp only [AV.flatL, Bool.and_eq_true] at hf
   obtain ⟨v, r, h1, h2, h3⟩ := h
   exact ⟨v, r, h1, ⟨flat_any x _ hf.1 h2.1, h2.2⟩, flatVs_any xs r hf.2 h3⟩
theorem flatS_any {C C' : Cx} {x : AV} {v : Value} (hf : x.flat = true) (h : RepS C x v) : RepS C' x v := by
 cases x <;> first
  | exact ⟨flat_any _ _ hf h.1, h.2⟩
  | (obtain ⟨vs, h1, h2⟩ := h
     exact ⟨vs, h1, flatVs_any _ _ (by simpa [AV.flat] using hf) h2⟩)
theorem RepVs.idf {C : Cx} : ∀ (xs : List AV) (vs : List Value), AV.idfL xs = true → RepVs C xs vs → RepVs { C with dom := fun _ => False } xs vs
 | [], _, _, h => h
 | x :: xs, vs, hf, h => by
   simp only [AV.idfL, Bool.and_eq_true] at hf
   obtain ⟨v, r, h1, h2, h3⟩ := h
   exact ⟨v, r, h1, ⟨Rep.idf x _ hf.1 h2.1, h2.2⟩, RepVs.idf xs r hf.2 h3⟩
theorem RepS.idf {C : Cx} {x : AV} {v : Value} (hf : x.idfT = true) (h : RepS C x v) : RepS { C with dom := fun _ => False } x v := by
 cases x <;> first
  | exact ⟨Rep.idf _ _ hf h.1, h.2⟩
  | (obtain ⟨vs, h1, h2⟩ := h
     exact ⟨vs, h1, RepVs.idf _ _ hf h2⟩)
theorem Cx.Le.none (ι ι' : Nat → Nat) (dom' : Nat → Prop) (im : Nat → Prop) (w : World) : Cx.Le ⟨ι, fun _ => False, im, w⟩ ⟨ι', dom', im, w⟩ :=
 ⟨fun _ h => h.elim, fun _ h => h.elim, fun _ h => h, fun _ _ _ => rfl, Nat.le_refl _, fun _ _ h => h⟩
theorem RepS.frz (hi : HInv E hp ι dom im w) (hm : ∀ b, im b → im2 b) (ho : ∀ o ob, HP.get hp o = some ob → ob.real → im2 (ι o)) {x : AV} {v : Value} (h : RepS ⟨ι, dom, im, w⟩ x v) : RepS ⟨ι, dom, im2, w⟩ (x.frz hp) v := by
 cases x
 case tup xs =>
  obtain ⟨vs, h1, h2⟩ := h
  exact ⟨vs, h1, RepVs.frz hi hm ho _ _ h2⟩
 all_goals
  have hk := RepV.frz hi hm ho h
  have ht : ∀ y : AV, RepV ⟨ι, dom, im2, w⟩ y v → RepS ⟨ι, dom, im2, w⟩ y v := fun y hy => by
   cases y <;> first
    | exact hy
    | (have := hy.1; simp only [Rep] at this)
  exact ht _ hk
def resultK (P : Program) (s : S) (rv : ResultVar) (K : AV → Prop) : Prop :=
 match rv with
 | .tmp t => (s.fr.get t).ok = true ∧ K (s.fr.get t)
 | .cell a t => loadK P t s.hp (s.fr.get a) fun v _ => v.ok = true ∧ K v
def resultsK (P : Program) (s : S) : List ResultVar → (List AV → Prop) → Prop
 | [], K => K []
 | r :: rs, K => resultK P s r fun v => resultsK P s rs fun vs => K (v :: vs)
def mkR : List AV → AV
 | [x] => x
 | xs => .tup xs
def resRun (P : Program) (a : Act) (w : World) (rv : ResultVar) : Result Value :=
 (match rv with
 | .tmp t => (pure (a.tmps.getD t undef) : Sem Value)
 | .cell b t => do loadVar t (← asAddr (a.tmps.getD b undef))).run P w
theorem resultK_sound {s : S} {a : Act} {rv : ResultVar} {K : AV → Prop} (hi : HInv E s.hp ι dom im w) (hf : FrOK ⟨ι, dom, im, w⟩ s.fr a E.N) (h : resultK P s rv K) :
 ∃ x v, K x ∧ resRun P a w rv = .ok v w ∧ RepV ⟨ι, dom, im, w⟩ x v := by
 cases rv with
 | tmp t => exact ⟨_, _, h.2, rfl, (hf.2 t).ok h.1⟩
 | cell b t =>
   have h : loadK P t s.hp (s.fr.get b) fun v _ => v.ok = true ∧ K v := h
   obtain ⟨x, v, ⟨h1, h2⟩, h3, h4⟩ := load_sound (P := P) hi (hf.2 b) h
   refine ⟨x, v, h2, ?_, h4.ok h1⟩
   have hp : ∃ ad, a.tmps.getD b undef = .pointer (some ad) := by
    have hb := hf.2 b
    unfold loadK at h
    split at h
    · rename_i y hy
      rw [hy] at hb
      obtain ⟨b', off, c, e, _⟩ := hb.ref_of
      exact ⟨_, e⟩
    · rename_i o p off hy
      rw [hy] at hb
      exact ⟨_, hb.ptr_of.1⟩
    · exact h.elim
   obtain ⟨ad, he⟩ := hp
   rw [he] at h3
   unfold resRun
   simp only [he]
   simp only [Instr.loadAt, Instr.sureAddr, Sem.run_bind, Sem.run_pure, Result.andThen_ok] at h3
   simp only [asAddr, Sem.run_bind, Sem.run_pure, Result.andThen_ok]
   exact h3
noncomputable def resVal (P : Program) (a : Act) (w : World) (rv : ResultVar) : Value := by
 classical exact if h : ∃ v, resRun P a w rv = .ok v w then Classical.choose h else undef
theorem resVal_eq {a : Act} {rv : ResultVar} {v : Value} (h : resRun P a w rv = .ok v w) : resVal P a w rv = v := by
 have hex : ∃ v, resRun P a w rv = .ok v w := ⟨v, h⟩
 unfold resVal
 rw [dif_pos hex]
 have := (Classical.choose_spec hex).symm.trans h
 injection this
theorem resultsK_sound {s : S} {a : Act} (hi : HInv E s.hp ι dom im w) (hf : FrOK ⟨ι, dom, im, w⟩ s.fr a E.N) : ∀ (rs : List ResultVar) (K : List AV → Prop), resultsK P s rs K →
 ∃ xs, K xs ∧ (∀ r ∈ rs, resRun P a w r = .ok (resVal P a w r) w) ∧ RepVs ⟨ι, dom, im, w⟩ xs (rs.map (resVal P a w))
 | [], K, h => ⟨[], h, by simp, rfl⟩
 | r :: rs, K, h => by
   obtain ⟨x, v, h1, h2, h3⟩ := resultK_sound (P := P) hi hf h
   obtain ⟨xs, h4, h5, h6⟩ := resultsK_sound hi hf rs _ h1
   have e := resVal_eq h2
   refine ⟨x :: xs, h4, fun r' hr' => ?_, ?_⟩
   · rcases List.mem_cons.1 hr' with rfl | hr'
     · rw [e]; exact h2
     · exact h5 r' hr'
   · exact ⟨resVal P a w r, _, rfl, by rw [e]; exact h3, h6⟩
theorem mkR_rep {C : Cx} {xs : List AV} (vs : Array Value) (h : RepVs C xs vs.toList) : RepS C (mkR xs) (if h : vs.size = 1 then vs[0] else .tuple vs) := by
 obtain ⟨vs⟩ := vs
 simp only at h
 cases xs with
 | nil =>
   simp only [RepVs] at h
   subst h
   exact ⟨[], rfl, rfl⟩
 | cons x xs =>
   obtain ⟨v, r, rfl, k1, k2⟩ := h
   cases xs with
   | nil =>
     simp only [RepVs] at k2
     subst k2
     simp only [mkR, List.size_toArray, List.length_singleton, dif_pos, List.getElem_toArray, List.getElem_singleton]
     cases x <;> first
      | exact k1
      | (have := k1.1; simp only [Rep] at this)
   | cons y ys =>
     obtain ⟨v', r', rfl, k3, k4⟩ := k2
     simp only [List.size_toArray, List.length_cons]
     rw [dif_neg (by omega)]
     exact ⟨_, rfl, v, _, rfl, k1, v', _, rfl, k3, k4⟩
theorem results_run {s : S} {a : Act} {fn : Func} {K : List AV → Prop} (hi : HInv E s.hp ι dom im w) (hf : FrOK ⟨ι, dom, im, w⟩ s.fr a E.N) (h : resultsK P s fn.results.toList K) :
 ∃ xs v, K xs ∧ (results fn a.tmps).run P w = .ok v w ∧ RepS ⟨ι, dom, im, w⟩ (mkR xs) v := by
 obtain ⟨xs, h1, h2, h3⟩ := resultsK_sound (P := P) hi hf _ K h
 have hrun : (results fn a.tmps).run P w = .ok (if h : (fn.results.map (resVal P a w)).size = 1 then (fn.results.map (resVal P a w))[0] else .tuple (fn.results.map (resVal P a w))) w := by
  unfold results
  rw [Sem.run_bind, run_mapM_arr (h := resVal P a w) fn.results (fun r hr => by
   have := h2 r (by simpa using hr)
   unfold resRun at this
   cases r <;> exact this)]
  simp only [Result.andThen_ok, Sem.run_pure]
 exact ⟨xs, _, h1, hrun, mkR_rep _ (by simpa using h3)⟩
def frOf : Nat → List AV → FR
 | _, [] => []
 | k, x :: xs => (k, x) :: frOf (k + 1) xs
theorem frOf_get : ∀ (xs : List AV) (k t : Nat), (frOf k xs).get t = if k ≤ t then (xs[t - k]?).getD (.raw undef) else .raw undef
 | [], k, t => by simp [frOf, FR.get]
 | x :: xs, k, t => by
   rw [frOf, FR.get_cons, frOf_get xs (k + 1) t]
   by_cases h1 : k = t
   · subst h1; simp
   · by_cases h2 : k ≤ t
     · have h3 : k + 1 ≤ t := by omega
       have h4 : t - k = (t - (k + 1)) + 1 := by omega
       simp [h1, h2, h3, h4]
     · have h3 : ¬ k + 1 ≤ t := by omega
       simp [h1, h2, h3]
def endK (P : Program) (rs : List ResultVar) (R : List AV → HP → Prop) : Exit → S → Prop
 | .normal, s => s.df = [] ∧ resultsK P s rs fun xs => R xs s.hp
 | .ret, s => s.df = [] ∧ resultsK P s rs fun xs => R xs s.hp
 | _, _ => False
theorem RepVs.getD {C : Cx} {xs : List AV} {vs : List Value} (h : RepVs C xs vs) (t : Nat) : RepT C ((xs[t]?).getD (.raw undef)) ((vs[t]?).getD undef) := by
 induction xs generalizing vs t with
 | nil => simp only [RepVs] at h; subst h; exact .inl ⟨undef, by simp, .inl rfl⟩
 | cons x xs ih =>
   obtain ⟨v, r, rfl, h1, h2⟩ := h
   cases t with
   | zero => exact .inr (RepS.of h1)
   | succ t => simpa using ih h2 t
theorem RepVs.length_eq {C : Cx} : ∀ {xs : List AV} {vs : List Value}, RepVs C xs vs → vs.length = xs.length
 | [], _, h => by simp only [RepVs] at h; subst h; rfl
 | _ :: _, _, ⟨_, _, e, _, h⟩ => by subst e; simp [RepVs.length_eq h]
theorem pure_of_tr {f : FuncId} {fn : Func} {c : Code} {args : List AV} {r : AV} (hf : P.funcs[f]? = some fn) (hb : fn.body = some c) (hN : args.length ≤ fn.ntmps) (hr : r.idfT = true)
 (h : ∀ E : Env, E.N = fn.ntmps → E.pn = 0 → Tr P none E c ⟨frOf 0 args, [], 0, []⟩ (endK P fn.results.toList fun xs hp => (mkR xs).frz hp = r)) : Pure P f args r := by
 intro im w vals him hv
 have hlen := hv.length_eq
 let E : Env := ⟨fn.ntmps, w, fun _ => False, im, 0, id⟩
 refine callsIn_of_wp hf hb trivial ?_
 have hsz : (vals.toArray ++ Array.replicate (fn.ntmps - vals.toArray.size) undef).size = fn.ntmps := by simp; omega
 have habs : Abs E ⟨frOf 0 args, [], 0, []⟩ { tmps := vals.toArray ++ Array.replicate (fn.ntmps - vals.toArray.size) undef, defers := [] } w := by
  refine ⟨id, fun _ => False, im, fun _ h => h.elim, ⟨fun o ob h => (by cases h), fun o ob h => (by cases h), fun o ob h => (by cases h), fun o ob h => (by cases h), fun o o' ob ob' h => (by cases h), fun o ob h => (by cases h), him, fun b hb => .inl hb, fun b hb => hb, fun _ _ _ => rfl, Nat.le_refl _, rfl, rfl, rfl, fun _ _ h => h, fun o ho => absurd ho (Nat.not_lt_zero o)⟩,
   ⟨hsz, fun t => ?_⟩, (fun o ho => by cases ho), rfl⟩
  rw [frOf_get]
  simp only [Nat.zero_le, if_true, Nat.sub_zero]
  have := RepVs.getD hv t
  have e : (vals.toArray ++ Array.replicate (fn.ntmps - vals.toArray.size) undef).getD t undef = (vals[t]?).getD undef := by
   simp only [Array.getD_eq_getD_getElem?, Array.getElem?_append, List.size_toArray, List.getElem?_toArray]
   split
   · rfl
   · rename_i hge
     rw [List.getElem?_eq_none (by omega)]
     simp [Array.getElem?_replicate]
     split <;> rfl
  rw [e]
  exact this
 refine wpIn_mono (h E rfl rfl _ _ habs) ?_
 rintro e a' w' ⟨s', hk, ι', dom', im', _, hi, hfr, hdf⟩
 have fin : s'.df = [] → resultsK P s' fn.results.toList (fun xs => (mkR xs).frz s'.hp = r) → a'.defers = [] ∧ ∃ v, (results fn a'.tmps).run P w' = .ok v w' ∧
  ∃ v', Ending.returned v = .returned v' ∧ Below w.heap.size w w' ∧ RepS ⟨id, fun _ => False, fun b => im b ∨ (w.heap.size ≤ b ∧ b < w'.heap.size), w'⟩ r v' := by
  intro h0 h1
  refine ⟨by rw [hdf.2, h0]; rfl, ?_⟩
  obtain ⟨xs, v, h2, h3, h4⟩ := results_run (P := P) hi hfr h1
  refine ⟨v, h3, v, rfl, ⟨hi.os, hi.tape, hi.output, hi.size, fun k hk => hi.ext k hk (fun h => h)⟩, ?_⟩
  have hm : ∀ b, im' b → im b ∨ (w.heap.size ≤ b ∧ b < w'.heap.size) := fun b hb => by
   rcases hi.imsub b hb with h | h | h
   · exact .inl h
   · exact h.elim
   · exact .inr ⟨h, hi.imlt b hb⟩
  have ho : ∀ o ob, HP.get s'.hp o = some ob → ob.real → im (ι' o) ∨ (w.heap.size ≤ ι' o ∧ ι' o < w'.heap.size) := fun o ob hg hre => by
   rcases hi.loc o ob hg hre with h | h
   · exact h.elim
   · exact .inr ⟨h, hi.lt o ob hg hre⟩
  have h5 := RepS.frz hi (im2 := fun b => im b ∨ (w.heap.size ≤ b ∧ b < w'.heap.size)) hm ho h4
  rw [h2] at h5
  exact RepS.mono (Cx.Le.none ι' id _ _ _) (RepS.idf hr h5)
 cases e <;> first
  | exact hk.elim
  | exact fin hk.1 hk.2
mutual
def AV.idL : AV → List Nat
 | .ms o _ _ => [o]
 | .ptr o _ _ => [o]
 | .mp o => [o]
 | .st fs => AV.idLs fs
 | .arr xs => AV.idLs xs
 | .fn _ a b => AV.idLs a ++ AV.idLs b
 | .tup xs => AV.idLs xs
 | _ => []
def AV.idLs : List AV → List Nat
 | [] => []
 | x :: xs => x.idL ++ AV.idLs xs
end
def HP.drop (D : List Nat) (hp : HP) : HP := hp.filter fun p => !D.contains p.1
theorem HP.get_drop (D : List Nat) (hp : HP) (o : Nat) (x : AO) (h : HP.get (HP.drop D hp) o = some x) : HP.get hp o = some x ∧ D.contains o = false := by
 have hm := HP.get_mem h
 simp only [HP.drop, List.mem_filter, Bool.not_eq_true'] at hm
 refine ⟨?_, hm.2⟩
 have hd := hm.2
 clear hm
 induction hp with
 | nil => simp [HP.drop, HP.get] at h
 | cons p hp ih =>
   rw [HP.get_cons]
   by_cases h1 : p.1 = o
   · have e : HP.drop D (p :: hp) = p :: HP.drop D hp := by simp only [HP.drop, List.filter_cons, h1, hd, Bool.not_false, if_true]
     rw [e, HP.get_cons] at h
     simpa only [h1, if_true] using h
   · simp only [h1, if_false]
     apply ih
     by_cases h2 : D.contains p.1 = true
     · have e : HP.drop D (p :: hp) = HP.drop D hp := by simp only [HP.drop, List.filter_cons, h2, Bool.not_true, Bool.false_eq_true, if_false]
       rwa [e] at h
     · have e : HP.drop D (p :: hp) = p :: HP.drop D hp := by simp only [HP.drop, List.filter_cons, h2, Bool.not_false, if_true]
       rw [e, HP.get_cons] at h
       simpa only [h1, if_false] using h
mutual
theorem flat_ren (ρ : Nat → Nat) : ∀ x : AV, (x.ren ρ).flat = x.flat
 | .bool _ => rfl
 | .int _ _ => rfl
 | .str _ => rfl
 | .root _ => rfl
 | .st fs => by simp only [AV.ren, AV.flat]; exact flat_renL ρ fs
 | .arr fs => by simp only [AV.ren, AV.flat]; exact flat_renL ρ fs
 | .sl _ _ => rfl
 | .ms _ _ _ => rfl
 | .ref _ => rfl
 | .ptr _ _ _ => rfl
 | .nilp => rfl
 | .mp _ => rfl
 | .fn _ _ _ => rfl
 | .nilf => rfl
 | .tup fs => by simp only [AV.ren, AV.flat]; exact flat_renL ρ fs
 | .raw _ => rfl
theorem flat_renL (ρ : Nat → Nat) : ∀ xs : List AV, AV.flatL (AV.renL ρ xs) = AV.flatL xs
 | [] => rfl
 | x :: xs => by simp only [AV.renL, AV.flatL, flat_ren ρ x, flat_renL ρ xs]
end
mutual
theorem ren_idf (ρ : Nat → Nat) : ∀ x : AV, x.idf = true → x.ren ρ = x
 | .bool _, _ => rfl
 | .int _ _, _ => rfl
 | .str _, _ => rfl
 | .root _, _ => rfl
 | .st fs, h => by simp only [AV.ren]; rw [renL_idf ρ fs h]
 | .arr fs, h => by simp only [AV.ren]; rw [renL_idf ρ fs h]
 | .sl _ _, _ => rfl
 | .ms _ _ _, h => by cases h
 | .ref _, _ => rfl
 | .ptr _ _ _, h => by cases h
 | .nilp, _ => rfl
 | .mp _, h => by cases h
 | .fn f a b, h => by
   simp only [AV.idf, Bool.and_eq_true] at h
   simp only [AV.ren]
   rw [renL_idf ρ a h.1, renL_idf ρ b h.2]
 | .nilf, _ => rfl
 | .tup xs, h => by simp only [AV.ren]; rw [renL_idf ρ xs h]
 | .raw _, _ => rfl
theorem renL_idf (ρ : Nat → Nat) : ∀ xs : List AV, AV.idfL xs = true → AV.renL ρ xs = xs
 | [], _ => rfl
 | x :: xs, h => by
   simp only [AV.idfL, Bool.and_eq_true] at h
   simp only [AV.renL]
   rw [ren_idf ρ x h.1, renL_idf ρ xs h.2]
end
theorem ren_idfT (ρ : Nat → Nat) (x : AV) (h : x.idfT = true) : x.ren ρ = x := by
 cases x <;> first
  | exact ren_idf ρ _ h
  | (simp only [AV.ren]; rw [renL_idf ρ _ h])
theorem HP.keep_mem {D : List Nat} {hp : HP} {o : Nat} {x : AO} (h : HP.get (HP.keep D hp) o = some x) : D.contains o = true := by
 have := HP.get_mem h
 simp only [HP.keep, List.mem_filter] at this
 exact this.2
def Own (P : Program) (f : FuncId) (args : List AV) (r : AV) (ho : HP) : Prop :=
 ∀ (im : Nat → Prop) (w : World) (vals : List Value), (∀ b, im b → b < w.heap.size) → RepVs ⟨id, fun _ => False, im, w⟩ args vals →
   CallsIn Fence.wide 0 P f vals.toArray w fun e w' => ∃ v ι' dom' im', e = .returned v ∧ HInv ⟨0, w, fun _ => False, im, 0, _root_.id⟩ ho ι' dom' im' w' ∧ RepS ⟨ι', dom', im', w'⟩ r v ∧ ∀ o, dom' o → o < 16
theorem below_shape {w w' : World} (hb : Below w.heap.size w w') (b : Nat) (s : TypeId × Nat) (hs : w.shape? b = some s) : w'.shape? b = some s := by
 have hlt : b < w.heap.size := by
  rcases Nat.lt_or_ge b w.heap.size with h' | h'
  · exact h'
  · simp [World.shape?, Array.getElem?_eq_none h'] at hs
 have := hb.block b hlt
 simp only [World.shape?] at hs ⊢
 rw [this]; exact hs
theorem HInv.empty {im : Nat → Prop} {w w' : World} {im' : Nat → Prop} {ι : Nat → Nat} {dom : Nat → Prop} (hb : Below w.heap.size w w') (him : ∀ b, im b → im' b) (hlt : ∀ b, im' b → b < w'.heap.size) (hs : ∀ b, im' b → im b ∨ w.heap.size ≤ b) :
 HInv ⟨0, w, fun _ => False, im, 0, _root_.id⟩ [] ι dom im' w' :=
 ⟨fun o ob h => (by cases h), fun o ob h => (by cases h), fun o ob h => (by cases h), fun o ob h => (by cases h), fun o o' ob ob' h => (by cases h), fun o ob h => (by cases h), hlt, fun b hb => (hs b hb).imp_right .inr, him,
  fun b hlt _ => hb.block b hlt, hb.size, hb.os, hb.tape, hb.output, fun b s hs => below_shape hb b s hs, fun o ho => absurd ho (Nat.not_lt_zero o)⟩
theorem Pure.own {f : FuncId} {args : List AV} {r : AV} (h : Pure P f args r) : Own P f args r [] := by
 intro im w vals him hv
 refine CallsIn.mono (h im w vals him hv) ?_
 rintro e w' ⟨v, rfl, hb, hr⟩
 exact ⟨v, _root_.id, fun _ => False, _, rfl, HInv.empty hb (fun b h => .inl h) (fun b h => by rcases h with h | h; exact Nat.lt_of_lt_of_le (him b h) hb.size; exact h.2) (fun b h => h.imp_right And.left), hr, fun _ h => h.elim⟩
section
variable {C C' : Cx} {ρ : Nat → Nat}
mutual
theorem Rep.push (hd : ∀ o, C.dom o → C'.dom (ρ o) ∧ C'.ι (ρ o) = C.ι o) (him : C'.im = C.im) (hw : C'.w = C.w) : ∀ (x : AV) (cs : List Value), Rep C x cs → Rep C' (x.ren ρ) cs
 | .bool _, _, h => by simpa only [AV.ren, Rep] using h
 | .int _ _, _, h => by simpa only [AV.ren, Rep] using h
 | .str _, _, h => by simpa only [AV.ren, Rep] using h
 | .root _, _, h => by simpa only [AV.ren, Rep] using h
 | .st fs, cs, h => by
   simp only [AV.ren, Rep] at h ⊢
   obtain ⟨css, h1, h2⟩ := h
   exact ⟨css, RepL.push hd him hw fs css h1, h2⟩
 | .arr fs, cs, h => by
   simp only [AV.ren, Rep] at h ⊢
   obtain ⟨css, h1, h2⟩ := h
   exact ⟨css, RepL.push hd him hw fs css h1, h2⟩
 | .sl xs clip, cs, h => by
   have e : ∀ D, Cx.Le { C with dom := fun _ => False } ⟨C'.ι, D, C'.im, C'.w⟩ := fun D => ⟨fun _ h => h.elim, fun _ h => h.elim, fun _ h => by rw [him]; exact h, fun _ _ _ => by rw [hw], Nat.le_of_eq (by rw [hw]), fun _ _ h => by rw [hw]; exact h⟩
   exact Rep.mono (e C'.dom) _ _ (Rep.idf (.sl xs clip) _ rfl h)
 | .ms o sz n, cs, h => by
   simp only [AV.ren, Rep] at h ⊢
   obtain ⟨A, c, h1, h2, h3, h4, h5⟩ := h
   obtain ⟨k1, k2⟩ := hd o h2
   exact ⟨A, c, h1, k1, h3, h4, by rw [k2, hw]; exact h5⟩
 | .ref x, cs, h => by
   have e : ∀ D, Cx.Le { C with dom := fun _ => False } ⟨C'.ι, D, C'.im, C'.w⟩ := fun D => ⟨fun _ h => h.elim, fun _ h => h.elim, fun _ h => by rw [him]; exact h, fun _ _ _ => by rw [hw], Nat.le_of_eq (by rw [hw]), fun _ _ h => by rw [hw]; exact h⟩
   exact Rep.mono (e C'.dom) _ _ (Rep.idf (.ref x) _ rfl h)
 | .ptr o p off, cs, h => by
   simp only [AV.ren, Rep] at h ⊢
   obtain ⟨k1, k2⟩ := hd o h.2
   exact ⟨by rw [k2]; exact h.1, k1⟩
 | .nilp, _, h => by simpa only [AV.ren, Rep] using h
 | .mp o, cs, h => by
   simp only [AV.ren, Rep] at h ⊢
   obtain ⟨k1, k2⟩ := hd o h.2
   exact ⟨by rw [k2]; exact h.1, k1⟩
 | .fn f a b, cs, h => by
   simp only [AV.ren, Rep, agg_renL] at h ⊢
   obtain ⟨va, vb, h1, h2, h3, h4⟩ := h
   exact ⟨va, vb, h1, RepL.push hd him hw a _ h2, RepL.push hd him hw b _ h3, h4⟩
 | .nilf, _, h => by simpa only [AV.ren, Rep] using h
 | .tup _, _, h => by simp only [Rep] at h
 | .raw _, _, h => by simpa only [AV.ren, Rep] using h
theorem RepL.push (hd : ∀ o, C.dom o → C'.dom (ρ o) ∧ C'.ι (ρ o) = C.ι o) (him : C'.im = C.im) (hw : C'.w = C.w) : ∀ (xs : List AV) (css : List (List Value)), RepL C xs css → RepL C' (AV.renL ρ xs) css
 | [], _, h => by simpa only [AV.renL, RepL] using h
 | x :: xs, css, h => by
   simp only [AV.renL, RepL] at h ⊢
   obtain ⟨c, r, h1, h2, h3⟩ := h
   exact ⟨c, r, h1, Rep.push hd him hw x c h2, RepL.push hd him hw xs r h3⟩
end
theorem RepV.push (hd : ∀ o, C.dom o → C'.dom (ρ o) ∧ C'.ι (ρ o) = C.ι o) (him : C'.im = C.im) (hw : C'.w = C.w) {x : AV} {v : Value} (h : RepV C x v) : RepV C' (x.ren ρ) v :=
 ⟨Rep.push hd him hw x _ h.1, by rw [agg_ren]; exact h.2.1, h.2.2⟩
theorem RepVs.push (hd : ∀ o, C.dom o → C'.dom (ρ o) ∧ C'.ι (ρ o) = C.ι o) (him : C'.im = C.im) (hw : C'.w = C.w) : ∀ (xs : List AV) (vs : List Value), RepVs C xs vs → RepVs C' (AV.renL ρ xs) vs
 | [], _, h => h
 | x :: xs, vs, h => by
   obtain ⟨v, r, h1, h2, h3⟩ := h
   exact ⟨v, r, h1, h2.push hd him hw, RepVs.push hd him hw xs r h3⟩
theorem RepS.push (hd : ∀ o, C.dom o → C'.dom (ρ o) ∧ C'.ι (ρ o) = C.ι o) (him : C'.im = C.im) (hw : C'.w = C.w) {x : AV} {v : Value} (h : RepS C x v) : RepS C' (x.ren ρ) v := by
 cases x <;> first
  | exact RepV.push hd him hw h
  | (obtain ⟨vs, h1, h2⟩ := h
     exact ⟨vs, h1, RepVs.push hd him hw _ _ h2⟩)
theorem RepS.pull {n : Nat} {x : AV} {v : Value} (hb : x.idsB n = true) (h : RepS C (x.ren ρ) v) : RepS (C.pull ρ n) x v := by
 cases x <;> first
  | exact RepV.pull hb h
  | (obtain ⟨vs, h1, h2⟩ := h
     exact ⟨vs, h1, RepVs.pull _ _ hb h2⟩)
theorem Owns.push (hd : ∀ o, C.dom o → C'.dom (ρ o) ∧ C'.ι (ρ o) = C.ι o) (him : C'.im = C.im) (hw : C'.w = C.w) {b : Nat} {ob : AO} (h : Owns C b ob) : Owns C' b (ob.ren ρ) := by
 have e : Cx.Le { C with dom := fun _ => False } { C' with dom := fun _ => False } := ⟨fun _ h => h, fun _ h => h.elim, fun _ h => by rw [him]; exact h, fun _ _ _ => by rw [hw], Nat.le_of_eq (by rw [hw]), fun _ _ h => by rw [hw]; exact h⟩
 cases ob with
 | var x =>
   obtain ⟨cs, e, h1, h2⟩ := h
   exact ⟨cs, e, by rw [hw]; exact h1, Rep.push hd him hw x _ h2⟩
 | row sz xs =>
   rcases h with h | ⟨cs, el, css, h1, h2, h3⟩
   · exact .inl h
   · exact .inr ⟨cs, el, css, by rw [hw]; exact h1, RepL.mono e _ _ h2, h3⟩
 | amap es =>
   obtain ⟨ms, clock, h1, ks, vs, h2, h3, h4⟩ := h
   exact ⟨ms, clock, by rw [hw]; exact h1, ks, vs, RepL.mono e _ _ h2, RepL.mono e _ _ h3, h4⟩
 | obj ob =>
   show C'.w.heap[b]? = some ob
   rw [hw]; exact h
 | tab g x =>
   have h : Rep C (.ref x) [.pointer (some ⟨g, 0, none⟩)] := h
   show Rep C' (.ref x) [.pointer (some ⟨g, 0, none⟩)]
   simp only [Rep] at h ⊢
   obtain ⟨b, off, c, h1, h2, h3, h4, h5⟩ := h
   exact ⟨b, off, c, h1, by rw [him]; exact h2, by rw [hw]; exact h3, Rep.mono e x c h4, by rw [hw]; exact h5⟩
end
def shiftH (id : Nat) (ho : HP) : HP := ho.map fun p => (id + p.1, p.2.ren (id + ·))
theorem get_shift (id : Nat) (ho hp : HP) (o : Nat) (ob : AO) (h : HP.get (shiftH id ho ++ hp) o = some ob) : (∃ k ob', o = id + k ∧ HP.get ho k = some ob' ∧ ob = ob'.ren (id + ·)) ∨ HP.get hp o = some ob := by
 induction ho with
 | nil => exact .inr h
 | cons p ho ih =>
   have e : shiftH id (p :: ho) ++ hp = (id + p.1, p.2.ren (id + ·)) :: (shiftH id ho ++ hp) := rfl
   rw [e, HP.get_cons] at h
   by_cases hp : id + p.1 = o
   · simp only [hp, if_true, Option.some.injEq] at h
     exact .inl ⟨p.1, p.2, hp.symm, by rw [HP.get_cons]; simp, h.symm⟩
   · simp only [hp, if_false] at h
     rcases ih h with ⟨k, ob', h1, h2, h3⟩ | h
     · refine .inl ⟨k, ob', h1, ?_, h3⟩
       rw [HP.get_cons]
       have : ¬ p.1 = k := fun e => hp (by omega)
       simp only [this, if_false]
       exact h2
     · exact .inr h
def ownK (P : Program) : CallK := fun f args hp id K =>
 ∃ r ho, Own P f (AV.frzL (HP.keep (AV.idLs args) hp) args) r ho ∧ AV.idfL (AV.frzL (HP.keep (AV.idLs args) hp) args) = true ∧ K (r.ren (id + ·)) (if r.flat then hp else shiftH id ho ++ HP.drop (AV.idLs args) hp)
theorem ownK_sound {f : FuncId} {args : List AV} {id : Nat} {K : AV → HP → Prop} (h : ownK P f args hp id K) : funK P f args hp id K := by
 obtain ⟨r, ho, hp1, hid, hk⟩ := h
 intro E ι dom im w vals hi hdom hv
 have hA : HInv E (HP.keep (AV.idLs args) hp) ι dom im w := (hi.step (Below.refl _ _) (fun o ob hg => HP.get_keep _ _ _ _ hg) (fun _ h => h) (fun o ob hg => hi.nim o ob (HP.get_keep _ _ _ _ hg)) hi.imlt hi.imsub).1
 let imA : Nat → Prop := fun b => im b ∨ ∃ o ob, HP.get (HP.keep (AV.idLs args) hp) o = some ob ∧ ob.real ∧ ι o = b
 have hltA : ∀ b, imA b → b < w.heap.size := fun b hb => by
  rcases hb with hb | ⟨o, ob, h1, h2, rfl⟩
  · exact hi.imlt b hb
  · exact hA.lt o ob h1 h2
 have hvA := RepVs.frz (im' := imA) hA (fun b hb => .inl hb) (fun o ob hg hr => .inr ⟨o, ob, hg, hr, rfl⟩) _ _ hv
 have hvB : RepVs ⟨_root_.id, fun _ => False, imA, w⟩ (AV.frzL (HP.keep (AV.idLs args) hp) args) vals := RepVs.mono (Cx.Le.none ι _ _ _ _) _ _ (RepVs.idf _ _ hid hvA)
 refine CallsIn.mono (hp1 imA w vals hltA hvB) ?_
 rintro e w' ⟨v, ι', dom', im', rfl, hc, hrep, hd16⟩
 have hb : Below w.heap.size w w' := ⟨hc.os, hc.tape, hc.output, hc.size, fun k hk => hc.ext k hk (fun h => h)⟩
 have hs : ∀ b, imA b → E.im0 b ∨ E.own0 b ∨ E.w0.heap.size ≤ b := fun b hb => by
  rcases hb with hb | ⟨o, ob, h1, h2, rfl⟩
  · exact hi.imsub b hb
  · exact .inr (hA.loc o ob h1 h2)
 have hs' : ∀ b, im' b → imA b ∨ w.heap.size ≤ b := fun b hb => by
  rcases hc.imsub b hb with h | h | h
  · exact .inl h
  · exact h.elim
  · exact .inr h
 have hpush : ∀ (C' : Cx), C'.im = im' → C'.w = w' → (∀ o, dom' o → C'.dom (id + o) ∧ C'.ι (id + o) = ι' o) → RepS C' (r.ren (id + ·)) v := fun C' h1 h2 h3 => RepS.push (C := ⟨ι', dom', im', w'⟩) h3 h1 h2 hrep
 by_cases hflat : r.flat = true
 · rw [if_pos hflat] at hk
   obtain ⟨h1, h2⟩ := hi.step (hp2 := hp) (im2 := im) hb (fun _ _ h => h) (fun b h => h) hi.nim (fun b h => Nat.lt_of_lt_of_le (hi.imlt b h) hb.size) hi.imsub
   have hfl : RepS ⟨ι, dom, im, w'⟩ (r.ren (id + ·)) v := by
    have hf2 : (r.ren (id + ·)).flat = true := by rw [flat_ren]; exact hflat
    exact flatS_any hf2 (hpush ⟨fun o => ι' (o - id), fun _ => True, im', w'⟩ rfl rfl fun o _ => ⟨trivial, by simp⟩)
   exact ⟨v, _, hp, ι, dom, im, rfl, hk, h1, h2, hfl, fun _ h => .inl h⟩
 · rw [if_neg hflat] at hk
   let ιn : Nat → Nat := fun o => if id ≤ o ∧ o < id + 16 then ι' (o - id) else ι o
   let domn : Nat → Prop := fun o => dom o ∨ (id ≤ o ∧ o < id + 16 ∧ dom' (o - id))
   have hιold : ∀ o, dom o → ιn o = ι o := fun o ho => by
    simp only [ιn]
    rw [if_neg]
    rintro ⟨h1, h2⟩
    exact hdom (o - id) (by omega) (by rw [show id + (o - id) = o by omega]; exact ho)
   have hιnew : ∀ k, k < 16 → ιn (id + k) = ι' k := fun k hk => by
    simp only [ιn]
    rw [if_pos ⟨by omega, by omega⟩]
    congr 1
    omega
   have hdnew : ∀ k, dom' k → domn (id + k) ∧ ιn (id + k) = ι' k := fun k hk => ⟨.inr ⟨by omega, by have := hd16 k hk; omega, by rw [show id + k - id = k by omega]; exact hk⟩, hιnew k (hd16 k hk)⟩
   have hle : Cx.Le ⟨ι, dom, im, w⟩ ⟨ιn, domn, im', w'⟩ := ⟨fun o h => .inl h, hιold, fun b h => hc.im0 b (.inl h), fun b _ hlt => hb.block b hlt, hb.size, fun b s hs => by
    have hlt : b < w.heap.size := by
     rcases Nat.lt_or_ge b w.heap.size with h' | h'
     · exact h'
     · simp [World.shape?, Array.getElem?_eq_none h'] at hs
    have := hb.block b hlt
    simp only [World.shape?] at hs ⊢
    rw [this]; exact hs⟩
   have old : ∀ o ob, HP.get (HP.drop (AV.idLs args) hp) o = some ob → HP.get hp o = some ob ∧ ιn o = ι o ∧ (ob.real → ι o < w.heap.size ∧ ¬ im' (ι o)) := fun o ob hg => by
    obtain ⟨hg', hd⟩ := HP.get_drop _ _ _ _ hg
    refine ⟨hg', hιold o (hi.dm o ob hg'), fun hr => ⟨hi.lt o ob hg' hr, fun h => ?_⟩⟩
    rcases hs' _ h with (h | ⟨o', ob', k1, k2, k3⟩) | h
    · exact hi.nim o ob hg' hr h
    · have := hi.inj o' o ob' ob (HP.get_keep _ _ _ _ k1) hg' k2 hr k3
      subst this
      rw [HP.keep_mem k1] at hd; cases hd
    · have := hi.lt o ob hg' hr; omega
   have new : ∀ k ob, HP.get ho k = some ob → ιn (id + k) = ι' k ∧ (ob.real → w.heap.size ≤ ι' k) := fun k ob hg => by
    refine ⟨hιnew k (hd16 k (hc.dm k ob hg)), fun hr => ?_⟩
    rcases hc.loc k ob hg hr with h | h
    · exact h.elim
    · exact h
   refine ⟨v, _, _, ιn, domn, im', rfl, hk, ⟨fun o ob hg => ?_, fun o ob hg => ?_, fun o ob hg hr => ?_, fun o ob hg hr => ?_, fun o o' ob ob' hg hg' hr hr' he => ?_, fun o ob hg hr => ?_, hc.imlt, fun b h => ?_, fun b h => hc.im0 b (.inl (hi.im0 b h)), fun b h hno => ?_,
    Nat.le_trans hi.size hc.size, hc.os.trans hi.os, hc.tape.trans hi.tape, hc.output.trans hi.output, fun b s hs => hle.shape b s (hi.sh b s hs), fun o ho => ⟨.inl (hi.pin o ho).1, (hιold o (hi.pin o ho).1).trans (hi.pin o ho).2⟩⟩, hle, hpush ⟨ιn, domn, im', w'⟩ rfl rfl hdnew, fun o h => h.imp_right fun h => ⟨h.1, h.2.1⟩⟩
   · rcases get_shift _ _ _ _ _ hg with ⟨k, ob', rfl, h1, rfl⟩ | h1
     · rw [(new k ob' h1).1]
       exact Owns.push (C := ⟨ι', dom', im', w'⟩) (C' := ⟨ιn, domn, im', w'⟩) (ρ := (id + ·)) hdnew rfl rfl (hc.own k ob' h1)
     · obtain ⟨h2, h3, h4⟩ := old o ob h1
       rw [h3]
       exact (hi.own o ob h2).mono hle fun hr => hb.block _ (h4 hr).1
   · rcases get_shift _ _ _ _ _ hg with ⟨k, ob', rfl, h1, rfl⟩ | h1
     · exact (hdnew k (hc.dm k ob' h1)).1
     · exact .inl (hi.dm o ob (old o ob h1).1)
   · rcases get_shift _ _ _ _ _ hg with ⟨k, ob', rfl, h1, rfl⟩ | h1
     · rw [(new k ob' h1).1]
       exact hc.lt k ob' h1 ((real_ren _ ob').1 hr)
     · obtain ⟨h2, h3, h4⟩ := old o ob h1
       rw [h3]
       exact Nat.lt_of_lt_of_le (h4 hr).1 hb.size
   · rcases get_shift _ _ _ _ _ hg with ⟨k, ob', rfl, h1, rfl⟩ | h1
     · rw [(new k ob' h1).1]
       exact hc.nim k ob' h1 ((real_ren _ ob').1 hr)
     · obtain ⟨h2, h3, h4⟩ := old o ob h1
       rw [h3]
       exact (h4 hr).2
   · rcases get_shift _ _ _ _ _ hg with ⟨k, ob1, rfl, h1, rfl⟩ | h1 <;> rcases get_shift _ _ _ _ _ hg' with ⟨k', ob2, rfl, h2, rfl⟩ | h2
     · rw [(new k ob1 h1).1, (new k' ob2 h2).1] at he
       rw [hc.inj k k' ob1 ob2 h1 h2 ((real_ren _ ob1).1 hr) ((real_ren _ ob2).1 hr') he]
     · rw [(new k ob1 h1).1, (old o' ob' h2).2.1] at he
       have k1 := (new k ob1 h1).2 ((real_ren _ ob1).1 hr)
       have k2 := ((old o' ob' h2).2.2 hr').1
       omega
     · rw [(new k' ob2 h2).1, (old o ob h1).2.1] at he
       have k1 := (new k' ob2 h2).2 ((real_ren _ ob2).1 hr')
       have k2 := ((old o ob h1).2.2 hr).1
       omega
     · rw [(old o ob h1).2.1, (old o' ob' h2).2.1] at he
       exact hi.inj o o' ob ob' (old o ob h1).1 (old o' ob' h2).1 hr hr' he
   · rcases get_shift _ _ _ _ _ hg with ⟨k, ob', rfl, h1, rfl⟩ | h1
     · rw [(new k ob' h1).1]
       exact .inr (Nat.le_trans hi.size ((new k ob' h1).2 ((real_ren _ ob').1 hr)))
     · obtain ⟨h2, h3, h4⟩ := old o ob h1
       rw [h3]
       exact hi.loc o ob h2 hr
   · rcases hs' b h with h | h
     · exact hs b h
     · exact .inr (.inr (Nat.le_trans hi.size h))
   · exact (hb.block b (Nat.lt_of_lt_of_le h hi.size)).trans (hi.ext b h hno)
def frLe (ρ : Nat → Nat) (fr : FR) (n : Nat) : FR → Prop
 | [] => True
 | p :: r => (fr.get p.1 = p.2.ren ρ ∧ p.2.idsB n = true) ∧ frLe ρ fr n r
def hpLe (ρ : Nat → Nat) (hp : HP) (n : Nat) : HP → Prop
 | [] => True
 | p :: r => (HP.get hp (ρ p.1) = some (p.2.ren ρ) ∧ p.2.idsB n = true ∧ decide (p.1 < n) = true) ∧ hpLe ρ hp n r
theorem frLe_mem {ρ : Nat → Nat} {fr : FR} {n : Nat} : ∀ {r : FR}, frLe ρ fr n r → ∀ p ∈ r, fr.get p.1 = p.2.ren ρ ∧ p.2.idsB n = true
 | q :: r, h, p, hp => by
   rcases List.mem_cons.1 hp with rfl | hp
   · exact h.1
   · exact frLe_mem h.2 p hp
theorem hpLe_mem {ρ : Nat → Nat} {hp : HP} {n : Nat} : ∀ {r : HP}, hpLe ρ hp n r → ∀ p ∈ r, HP.get hp (ρ p.1) = some (p.2.ren ρ) ∧ p.2.idsB n = true ∧ p.1 < n
 | q :: r, h, p, hq => by
   rcases List.mem_cons.1 hq with rfl | hq
   · exact ⟨h.1.1, h.1.2.1, of_decide_eq_true h.1.2.2⟩
   · exact hpLe_mem h.2 p hq
def rhoInj (ρ : Nat → Nat) (ho : HP) : Bool := ho.all fun p => ho.all fun q => !(ρ p.1 == ρ q.1) || p.1 == q.1
def Eff (P : Program) (f : FuncId) (args : List AV) (n : Nat) (hin : HP) (r : AV) (ho : HP) : Prop :=
 ∀ (ι : Nat → Nat) (im : Nat → Prop) (w : World) (vals : List Value),
   HInv ⟨0, w, fun b => ∃ o ob, HP.get hin o = some ob ∧ ob.real ∧ ι o = b, im, n, ι⟩ hin ι (fun o => o < n) im w → RepVs ⟨ι, fun o => o < n, im, w⟩ args vals →
   CallsIn Fence.wide 0 P f vals.toArray w fun e w' => ∃ v ι' dom' im', e = .returned v ∧
    HInv ⟨0, w, fun b => ∃ o ob, HP.get hin o = some ob ∧ ob.real ∧ ι o = b, im, n, ι⟩ ho ι' dom' im' w' ∧ RepS ⟨ι', dom', im', w'⟩ r v ∧ ∀ o, dom' o → o < n + 16
def AV.frzS (hp : HP) : List Bool → List AV → List AV
 | b :: bs, x :: xs => (if b then x.frz hp else x) :: AV.frzS hp bs xs
 | _, xs => xs
theorem RepVs.frzS (hi : HInv E hp ι dom im w) (hm : ∀ b, im b → im2 b) (ho : ∀ o ob, HP.get hp o = some ob → ob.real → im2 (ι o)) : ∀ (bs : List Bool) (xs : List AV) (vs : List Value), RepVs ⟨ι, dom, im, w⟩ xs vs → RepVs ⟨ι, dom, im2, w⟩ (AV.frzS hp bs xs) vs
 | [], xs, vs, h => RepVs.mono (Cx.Le.grow ⟨ι, dom, im, w⟩ (fun _ h => h) (fun _ _ => rfl) hm) _ _ h
 | _ :: _, [], vs, h => h
 | b :: bs, x :: xs, vs, h => by
   obtain ⟨v, r, h1, h2, h3⟩ := h
   refine ⟨v, r, h1, ?_, RepVs.frzS hi hm ho bs xs r h3⟩
   cases b with
   | true => exact RepV.frz hi hm ho h2
   | false => exact h2.mono (Cx.Le.grow ⟨ι, dom, im, w⟩ (fun _ h => h) (fun _ _ => rfl) hm)
def effR (ρ : Nat → Nat) (n id o : Nat) : Nat := if o < n then ρ o else id + (o - n)
def renH (ρ : Nat → Nat) (ho : HP) : HP := ho.map fun p => (ρ p.1, p.2.ren ρ)
theorem get_renH (ρ : Nat → Nat) (ho hp : HP) (o : Nat) (ob : AO) (h : HP.get (renH ρ ho ++ hp) o = some ob) : (∃ k ob', o = ρ k ∧ HP.get ho k = some ob' ∧ ob = ob'.ren ρ) ∨ HP.get hp o = some ob := by
 induction ho with
 | nil => exact .inr h
 | cons p ho ih =>
   have e : renH ρ (p :: ho) ++ hp = (ρ p.1, p.2.ren ρ) :: (renH ρ ho ++ hp) := rfl
   rw [e, HP.get_cons] at h
   by_cases hp : ρ p.1 = o
   · simp only [hp, if_true, Option.some.injEq] at h
     exact .inl ⟨p.1, p.2, hp.symm, by rw [HP.get_cons]; simp, h.symm⟩
   · simp only [hp, if_false] at h
     rcases ih h with ⟨k, ob', h1, h2, h3⟩ | h
     · refine .inl ⟨k, ob', h1, ?_, h3⟩
       rw [HP.get_cons]
       have : ¬ p.1 = k := fun e => hp (by rw [e, h1])
       simp only [this, if_false]
       exact h2
     · exact .inr h
def covers (hin : HP) (n : Nat) : Bool := (List.range n).all fun o => (HP.get hin o).isSome
def effK (P : Program) : CallK := fun f args hp id K =>
 ∃ (args' : List AV) (n : Nat) (hin ho : HP) (r : AV) (ρ : Nat → Nat) (fl : List Bool) (F : List Nat), Eff P f args' n hin r ho ∧ AV.renL ρ args' = AV.frzS (HP.keep F hp) fl args ∧ AV.idsBL n args' = true ∧
   hpLe ρ hp n hin ∧ rhoInj ρ hin = true ∧ (hin.all fun p => !F.contains (ρ p.1)) = true ∧ covers hin n = true ∧
   K (r.ren (effR ρ n id)) (renH (effR ρ n id) ho ++ HP.drop (F ++ hin.map fun p => ρ p.1) hp)
theorem effK_sound {f : FuncId} {args : List AV} {id : Nat} {K : AV → HP → Prop} (h : effK P f args hp id K) : funK P f args hp id K := by
 obtain ⟨args', n, hin, ho, r, ρ, fl, F, heff, harg, hids, hin', hinj, hF, hcov, hk⟩ := h
 intro E ι dom im w vals hI hdom hv
 have hA : HInv E (HP.keep F hp) ι dom im w := (hI.step (Below.refl _ _) (fun o ob hg => HP.get_keep _ _ _ _ hg) (fun _ h => h) (fun o ob hg => hI.nim o ob (HP.get_keep _ _ _ _ hg)) hI.imlt hI.imsub).1
 let imA : Nat → Prop := fun b => im b ∨ ∃ o ob, HP.get (HP.keep F hp) o = some ob ∧ ob.real ∧ ι o = b
 have hltA : ∀ b, imA b → b < w.heap.size := fun b hb => by
  rcases hb with hb | ⟨o, ob, h1, h2, rfl⟩
  · exact hI.imlt b hb
  · exact hA.lt o ob h1 h2
 have hvA := RepVs.frzS (im2 := imA) hA (fun b hb => .inl hb) (fun o ob hg hr => .inr ⟨o, ob, hg, hr, rfl⟩) fl _ _ hv
 rw [← harg] at hvA
 have hvP := RepVs.pull _ _ hids hvA
 let ι0 : Nat → Nat := fun o => ι (ρ o)
 have hm : ∀ o ob, HP.get hin o = some ob → HP.get hp (ρ o) = some (ob.ren ρ) ∧ ob.idsB n = true ∧ o < n := fun o ob hg => hpLe_mem hin' (o, ob) (HP.get_mem hg)
 have hcov' : ∀ o, o < n → ∃ ob, HP.get hin o = some ob := fun o ho => by
  have := List.all_eq_true.1 hcov o (List.mem_range.2 ho)
  exact Option.isSome_iff_exists.1 this
 have hdn : ∀ o, o < n → dom (ρ o) := fun o ho => by
  obtain ⟨ob, hg⟩ := hcov' o ho
  exact hI.dm _ _ (hm o ob hg).1
 have hv0 : RepVs ⟨ι0, fun o => o < n, imA, w⟩ args' vals := RepVs.mono (Cx.Le.grow (Cx.pull ⟨ι, dom, imA, w⟩ ρ n) (fun o h => h.2) (fun _ _ => rfl) (fun _ h => h)) _ _ hvP
 have hnF : ∀ o ob, HP.get hin o = some ob → F.contains (ρ o) = false := fun o ob hg => by
  have := List.all_eq_true.1 hF (o, ob) (HP.get_mem hg)
  simpa using this
 have hleP : Cx.Le (Cx.pull ⟨ι, dom, im, w⟩ ρ n) ⟨ι0, fun o => o < n, imA, w⟩ := Cx.Le.grow (Cx.pull ⟨ι, dom, im, w⟩ ρ n) (fun o h => h.2) (fun _ _ => rfl) (fun _ h => .inl h)
 have hnimA : ∀ o ob, HP.get hin o = some ob → ob.real → ¬ imA (ι (ρ o)) := fun o ob hg hr => by
  obtain ⟨k1, k2, k3⟩ := hm o ob hg
  rintro (h | ⟨o', ob', l1, l2, l3⟩)
  · exact hI.nim _ _ k1 ((real_ren ρ ob).2 hr) h
  · have := hI.inj _ _ _ _ (HP.get_keep _ _ _ _ l1) k1 l2 ((real_ren ρ ob).2 hr) l3
    subst this
    have := HP.keep_mem l1
    rw [hnF o ob hg] at this; cases this
 have hI0 : HInv ⟨0, w, fun b => ∃ o ob, HP.get hin o = some ob ∧ ob.real ∧ ι0 o = b, imA, n, ι0⟩ hin ι0 (fun o => o < n) imA w := by
  refine ⟨fun o ob hg => ?_, fun o ob hg => (hm o ob hg).2.2, fun o ob hg hr => ?_, fun o ob hg hr => hnimA o ob hg hr, fun o o' ob ob' hg hg' hr hr' he => ?_, fun o ob hg hr => .inl ⟨o, ob, hg, hr, rfl⟩, hltA, fun b hb => .inl hb, fun b hb => hb, fun _ _ _ => rfl, Nat.le_refl _, rfl, rfl, rfl, fun _ _ h => h, fun o ho => ⟨ho, rfl⟩⟩
  · obtain ⟨k1, k2, k3⟩ := hm o ob hg
    exact (Owns.pull (C := ⟨ι, dom, im, w⟩) k2 (hI.own _ _ k1)).mono hleP (fun _ => rfl)
  · obtain ⟨k1, k2, k3⟩ := hm o ob hg
    exact hI.lt _ _ k1 ((real_ren ρ ob).2 hr)
  · obtain ⟨k1, k2, k3⟩ := hm o ob hg
    obtain ⟨l1, l2, l3⟩ := hm o' ob' hg'
    have hρ := hI.inj _ _ _ _ k1 l1 ((real_ren ρ ob).2 hr) ((real_ren ρ ob').2 hr') he
    have := List.all_eq_true.1 (List.all_eq_true.1 hinj (o, ob) (HP.get_mem hg)) (o', ob') (HP.get_mem hg')
    simpa [hρ] using this
 refine CallsIn.mono (heff ι0 imA w vals hI0 hv0) ?_
 rintro e w' ⟨v, ι', dom', im', rfl, hc, hrep, hd32⟩
 have hown : ∀ b, (∃ o ob, HP.get hin o = some ob ∧ ob.real ∧ ι0 o = b) → (E.own0 b ∨ E.w0.heap.size ≤ b) ∧ b < w.heap.size ∧ ¬ im b := fun b ⟨o, ob, hg, hr, e⟩ => by
  obtain ⟨k1, k2, k3⟩ := hm o ob hg
  have hr' := (real_ren ρ ob).2 hr
  subst e
  exact ⟨hI.loc _ _ k1 hr', hI.lt _ _ k1 hr', hI.nim _ _ k1 hr'⟩
 let ιn : Nat → Nat := fun o => if id ≤ o ∧ o < id + 16 then ι' (o - id + n) else ι o
 let domn : Nat → Prop := fun o => dom o ∨ (id ≤ o ∧ o < id + 16 ∧ dom' (o - id + n))
 have hιold : ∀ o, dom o → ιn o = ι o := fun o ho => by
  simp only [ιn]
  rw [if_neg]
  rintro ⟨h1, h2⟩
  exact hdom (o - id) (by omega) (by rw [show id + (o - id) = o by omega]; exact ho)
 have hmap : ∀ k, dom' k → domn (effR ρ n id k) ∧ ιn (effR ρ n id k) = ι' k := fun k hk => by
  have hd := hd32 k hk
  rcases Nat.lt_or_ge k n with h | h
  · have e : effR ρ n id k = ρ k := by unfold effR; rw [if_pos h]
    rw [e]
    refine ⟨.inl (hdn k h), ?_⟩
    rw [hιold _ (hdn k h)]
    exact ((hc.pin k h).2).symm
  · have e : effR ρ n id k = id + (k - n) := by unfold effR; rw [if_neg (by omega)]
    rw [e]
    refine ⟨.inr ⟨by omega, by omega, by rw [show id + (k - n) - id + n = k by omega]; exact hk⟩, ?_⟩
    simp only [ιn]
    rw [if_pos ⟨by omega, by omega⟩, show id + (k - n) - id + n = k by omega]
 have hle : Cx.Le ⟨ι, dom, im, w⟩ ⟨ιn, domn, im', w'⟩ := ⟨fun o h => .inl h, hιold, fun b h => hc.im0 b (.inl h), fun b hb hlt => hc.ext b hlt (fun h => (hown b h).2.2 hb), hc.size, hc.sh⟩
 have old : ∀ o ob, HP.get (HP.drop (F ++ hin.map fun p => ρ p.1) hp) o = some ob → HP.get hp o = some ob ∧ ιn o = ι o ∧ (ob.real → ι o < w.heap.size ∧ ¬ im' (ι o) ∧ (¬ ∃ o' ob', HP.get hin o' = some ob' ∧ ob'.real ∧ ι0 o' = ι o)) := fun o ob hg => by
  obtain ⟨hg', hd⟩ := HP.get_drop _ _ _ _ hg
  have hnh : ob.real → ¬ ∃ o' ob', HP.get hin o' = some ob' ∧ ob'.real ∧ ι0 o' = ι o := fun hr ⟨o', ob', l1, l2, l3⟩ => by
   obtain ⟨k1, k2, k3⟩ := hm o' ob' l1
   have := hI.inj _ _ _ _ k1 hg' ((real_ren ρ ob').2 l2) hr l3
   subst this
   have hc2 : (F ++ hin.map fun p => ρ p.1).contains (ρ o') = true := by
    rw [List.contains_iff_mem]
    exact List.mem_append_right _ (List.mem_map.2 ⟨(o', ob'), HP.get_mem l1, rfl⟩)
   rw [hc2] at hd; cases hd
  refine ⟨hg', hιold o (hI.dm o ob hg'), fun hr => ⟨hI.lt o ob hg' hr, fun h => ?_, hnh hr⟩⟩
  rcases hc.imsub _ h with (h | ⟨o', ob', k1, k2, k3⟩) | h | h
  · exact hI.nim o ob hg' hr h
  · have := hI.inj o' o ob' ob (HP.get_keep _ _ _ _ k1) hg' k2 hr k3
    subst this
    have hc2 : (F ++ hin.map fun p => ρ p.1).contains o' = true := by
     rw [List.contains_iff_mem]
     exact List.mem_append_left _ (List.contains_iff_mem.1 (HP.keep_mem k1))
    rw [hc2] at hd; cases hd
  · exact hnh hr h
  · have := hI.lt o ob hg' hr
    have h' : w.heap.size ≤ ι o := h
    omega
 have new : ∀ k ob, HP.get ho k = some ob → ιn (effR ρ n id k) = ι' k := fun k ob hg => (hmap k (hc.dm k ob hg)).2
 refine ⟨v, _, _, ιn, domn, im', rfl, hk, ⟨fun o ob hg => ?_, fun o ob hg => ?_, fun o ob hg hr => ?_, fun o ob hg hr => ?_, fun o o' ob ob' hg hg' hr hr' he => ?_, fun o ob hg hr => ?_, hc.imlt, fun b h => ?_, fun b h => hc.im0 b (.inl (hI.im0 b h)), fun b h hno => ?_,
  Nat.le_trans hI.size hc.size, hc.os.trans hI.os, hc.tape.trans hI.tape, hc.output.trans hI.output, fun b s hs => hc.sh b s (hI.sh b s hs), fun o ho => ⟨.inl (hI.pin o ho).1, (hιold o (hI.pin o ho).1).trans (hI.pin o ho).2⟩⟩, hle, RepS.push (C := ⟨ι', dom', im', w'⟩) (C' := ⟨ιn, domn, im', w'⟩) (ρ := effR ρ n id) hmap rfl rfl hrep, fun o h => h.imp_right fun h => ⟨h.1, h.2.1⟩⟩
 · rcases get_renH _ _ _ _ _ hg with ⟨k, ob', rfl, h1, rfl⟩ | h1
   · rw [new k ob' h1]
     exact Owns.push (C := ⟨ι', dom', im', w'⟩) (C' := ⟨ιn, domn, im', w'⟩) (ρ := effR ρ n id) hmap rfl rfl (hc.own k ob' h1)
   · obtain ⟨h2, h3, h4⟩ := old o ob h1
     rw [h3]
     exact (hI.own o ob h2).mono hle fun hr => hc.ext _ (h4 hr).1 (h4 hr).2.2
 · rcases get_renH _ _ _ _ _ hg with ⟨k, ob', rfl, h1, rfl⟩ | h1
   · exact (hmap k (hc.dm k ob' h1)).1
   · exact .inl (hI.dm o ob (old o ob h1).1)
 · rcases get_renH _ _ _ _ _ hg with ⟨k, ob', rfl, h1, rfl⟩ | h1
   · rw [new k ob' h1]
     exact hc.lt k ob' h1 ((real_ren _ ob').1 hr)
   · obtain ⟨h2, h3, h4⟩ := old o ob h1
     rw [h3]
     exact Nat.lt_of_lt_of_le (h4 hr).1 hc.size
 · rcases get_renH _ _ _ _ _ hg with ⟨k, ob', rfl, h1, rfl⟩ | h1
   · rw [new k ob' h1]
     exact hc.nim k ob' h1 ((real_ren _ ob').1 hr)
   · obtain ⟨h2, h3, h4⟩ := old o ob h1
     rw [h3]
     exact (h4 hr).2.1
 · rcases get_renH _ _ _ _ _ hg with ⟨k, ob1, rfl, h1, rfl⟩ | h1 <;> rcases get_renH _ _ _ _ _ hg' with ⟨k', ob2, rfl, h2, rfl⟩ | h2
   · rw [new k ob1 h1, new k' ob2 h2] at he
     rw [hc.inj k k' ob1 ob2 h1 h2 ((real_ren _ ob1).1 hr) ((real_ren _ ob2).1 hr') he]
   · rw [new k ob1 h1, (old o' ob' h2).2.1] at he
     have k2 := (old o' ob' h2).2.2 hr'
     rcases hc.loc k ob1 h1 ((real_ren _ ob1).1 hr) with h | h
     · rw [he] at h; exact absurd h k2.2.2
     · have h' : w.heap.size ≤ ι' k := h
       omega
   · rw [new k' ob2 h2, (old o ob h1).2.1] at he
     have k2 := (old o ob h1).2.2 hr
     rcases hc.loc k' ob2 h2 ((real_ren _ ob2).1 hr') with h | h
     · rw [← he] at h; exact absurd h k2.2.2
     · have h' : w.heap.size ≤ ι' k' := h
       omega
   · rw [(old o ob h1).2.1, (old o' ob' h2).2.1] at he
     exact hI.inj o o' ob ob' (old o ob h1).1 (old o' ob' h2).1 hr hr' he
 · rcases get_renH _ _ _ _ _ hg with ⟨k, ob', rfl, h1, rfl⟩ | h1
   · rw [new k ob' h1]
     rcases hc.loc k ob' h1 ((real_ren _ ob').1 hr) with h | h
     · exact (hown _ h).1
     · exact .inr (Nat.le_trans hI.size h)
   · obtain ⟨h2, h3, h4⟩ := old o ob h1
     rw [h3]
     exact hI.loc o ob h2 hr
 · rcases hc.imsub b h with (h | ⟨o', ob', k1, k2, rfl⟩) | h | h
   · exact hI.imsub b h
   · exact .inr (hA.loc o' ob' k1 k2)
   · exact .inr (hown b h).1
   · exact .inr (.inr (Nat.le_trans hI.size h))
 · refine (hc.ext b (Nat.lt_of_lt_of_le h hI.size) (fun h2 => ?_)).trans (hI.ext b h hno)
   rcases (hown b h2).1 with h3 | h3
   · exact hno h3
   · omega
def pureK (P : Program) : CallK := fun f args hp id K => ownK P f args hp id K ∨ effK P f args hp id K
theorem pureK_sound {f : FuncId} {args : List AV} {id : Nat} {K : AV → HP → Prop} (h : pureK P f args hp id K) : funK P f args hp id K := by
 rcases h with h | h
 · exact ownK_sound h
 · exact effK_sound h
theorem pureK_ok (P : Program) : CKok P (pureK P) where
 sound _ _ _ _ _ h := pureK_sound h
 mono _ _ _ _ _ _ hk h := by
  rcases h with ⟨r, ho, h1, h2, h3⟩ | ⟨a, n, hin, ho, r, ρ, fl, F, h1, h3, h4, h5, h6, h7, h8, h9⟩
  · exact .inl ⟨r, ho, h1, h2, hk _ _ h3⟩
  · exact .inr ⟨a, n, hin, ho, r, ρ, fl, F, h1, h3, h4, h5, h6, h7, h8, hk _ _ h9⟩
 strict _ _ _ _ h := by
  rcases h with ⟨_, _, _, _, h⟩ | ⟨_, _, _, _, _, _, _, _, _, _, _, _, _, _, _, h⟩
  · exact h
  · exact h
end
end Go.Ab
namespace Go.Ab
open Go.RowKit
def isRootT (P : Program) (m : Nat) (e : TypeId) : Bool := m == 32 && (match P.underlying e with | some (.int .u8) => true | _ => false)
theorem isRootT_spec {P : Program} {m : Nat} {e : TypeId} (h : isRootT P m e = true) : m = 32 ∧ P.underlying e = some (.int .u8) := by
 simp only [isRootT, Bool.and_eq_true, beq_iff_eq] at h
 refine ⟨h.1, ?_⟩
 have h7 := h.2
 split at h7
 · rename_i h8; exact h8
 · cases h7
def hasT (P : Program) : Nat → TypeId → AV → Prop
 | 0, _, _ => False
 | n + 1, t, x =>
   match P.underlying t with
   | some .bool => ∃ b, x = .bool b
   | some (.int k) => ∃ i, x = .int k i ∧ (Lit.int k i).wf = true
   | some .string => ∃ s : ByteArray, x = .str s ∧ s.size ≤ maxLen
   | some (.pointer e) => x = .nilp ∨ ∃ y, x = .ref y ∧ hasT P n e y
   | some (.slice e) => ∃ xs : List AV, x = .sl xs false ∧ (∀ y ∈ xs, hasT P n e y) ∧ xs.length ≤ maxLen
   | some (.struct fs) => ∃ xs : List AV, x = .st xs ∧ xs.length = fs.toList.length ∧ ∀ (i : Nat) (f : Field) (y : AV), fs.toList[i]? = some f → xs[i]? = some y → hasT P n f.type y
   | some (.array m e) => if isRootT P m e = true then ∃ r, x = .root r else ∃ xs : List AV, x = .arr xs ∧ xs.length = m ∧ ∀ y ∈ xs, hasT P n e y
   | _ => False
def goodT (P : Program) : Nat → TypeId → Bool
 | 0, _ => false
 | n + 1, t =>
   match P.underlying t with
   | some .bool => true
   | some (.int _) => true
   | some .string => true
   | some (.pointer e) => decide (0 < P.cellsOf e) && goodT P n e
   | some (.slice e) => decide (0 < P.cellsOf e) && goodT P n e
   | some (.struct fs) => fs.toList.all fun f => goodT P n f.type
   | some (.array m e) => isRootT P m e || goodT P n e
   | _ => false
section
variable {C : Cx} {w : World} {b off sz : Nat}
theorem cellsAt_append {cs ds : List Value} (h1 : cellsAt w b off cs) (h2 : cellsAt w b (off + cs.length) ds) : cellsAt w b off (cs ++ ds) := fun i v hv => by
 rcases Nat.lt_or_ge i cs.length with hl | hl
 · rw [List.getElem?_append_left hl] at hv; exact h1 i v hv
 · rw [List.getElem?_append_right hl] at hv
   have := h2 _ v hv
   rwa [show off + cs.length + (i - cs.length) = off + i by omega] at this
theorem cellsAt_flatten : ∀ (css : List (List Value)) (off : Nat), (∀ (i : Nat) (c : List Value), css[i]? = some c → c.length = sz ∧ cellsAt w b (off + i * sz) c) → cellsAt w b off css.flatten
 | [], _, _ => fun i v hv => by simp at hv
 | c :: r, off, h => by
   obtain ⟨h1, h2⟩ := h 0 c rfl
   rw [List.flatten_cons]
   refine cellsAt_append (by simpa using h2) (cellsAt_flatten r _ fun i c' hc => ?_)
   obtain ⟨h3, h4⟩ := h (i + 1) c' (by simpa using hc)
   refine ⟨h3, ?_⟩
   rw [h1, show off + sz + i * sz = off + (i + 1) * sz by rw [Nat.add_mul]; omega]
   exact h4
theorem RepL.of_get : ∀ (xs : List AV) (css : List (List Value)), xs.length = css.length → (∀ (i : Nat) x c, xs[i]? = some x → css[i]? = some c → Rep C x c) → RepL C xs css
 | [], css, hl, _ => by simp only [RepL]; exact List.eq_nil_of_length_eq_zero hl.symm
 | x :: xs, [], hl, _ => by simp at hl
 | x :: xs, c :: css, hl, h => by
   simp only [RepL]
   exact ⟨c, css, rfl, h 0 x c rfl rfl, RepL.of_get xs css (by simpa using hl) fun i x' c' h1 h2 => h (i + 1) x' c' (by simpa using h1) (by simpa using h2)⟩
theorem mapM_choose {α β γ δ : Type} {f : α → Option β} {R : α → γ → δ → Prop} : ∀ (l : List α) (r : List β), l.mapM f = some r → (∀ x ∈ l, ∀ y, f x = some y → ∃ c d, R x c d) →
 ∃ (xs : List γ) (ds : List δ), xs.length = l.length ∧ ds.length = l.length ∧ ∀ (i : Nat) x, l[i]? = some x → ∃ c d, xs[i]? = some c ∧ ds[i]? = some d ∧ R x c d
 | [], _, _, _ => ⟨[], [], rfl, rfl, fun i x h => by simp at h⟩
 | a :: l, r, h, hs => by
   simp only [List.mapM_cons, Option.bind_eq_bind, Option.bind_eq_some_iff] at h
   obtain ⟨y, h1, r', h2, _⟩ := h
   obtain ⟨c, d, hr⟩ := hs a (by simp) y h1
   obtain ⟨xs, ds, h3, h4, h5⟩ := mapM_choose l r' h2 fun x hx y hy => hs x (by simp [hx]) y hy
   refine ⟨c :: xs, d :: ds, by simp [h3], by simp [h4], fun i x hx => ?_⟩
   cases i with
   | zero => simp at hx; subst hx; exact ⟨c, d, rfl, rfl, hr⟩
   | succ i => simpa using h5 i x (by simpa using hx)
theorem cells_at {base : Nat} {a : Addr} {n : Nat} {l : List Value} (h : w.cells? base a n = some l) (hn : 0 < n) : a.spot = none ∧ a.block < w.heap.size ∧ l.length = n ∧ cellsAt w a.block a.off l := by
 obtain ⟨h1, h2, h3⟩ := World.cells?_some h
 have hs : a.spot = none := by
  have h0 := h3 0 hn
  have : ∃ v, l[0]? = some v := ⟨l[0]'(by omega), by simp [show 0 < l.length by omega]⟩
  obtain ⟨v, hv⟩ := this
  rw [hv] at h0
  simp only [Addr.add, if_true, World.cell?] at h0
  split at h0
  · split at h0
    · cases h0
    · rename_i hx; simpa using hx
  · cases h0
 refine ⟨hs, World.cells?_block h hn, h2, fun i v hv => ?_⟩
 have hi : i < l.length := (List.getElem?_eq_some_iff.1 hv).1
 have := h3 i (by omega)
 rw [hv] at this
 rw [← this]
 unfold Addr.add
 split
 · rename_i h0; subst h0
   cases a; simp_all
 · rfl
theorem pieces_flatten : ∀ (ls : List Nat) (cs : List Value) (css : List (List Value)), cs.length = ls.sum → css.length = ls.length → (∀ (i n : Nat), ls[i]? = some n → css[i]? = some ((cs.drop ((ls.take i).sum)).take n)) → cs = css.flatten
 | [], cs, css, hl, hc, _ => by
   have h1 : cs = [] := List.eq_nil_of_length_eq_zero (by simpa using hl)
   have h2 : css = [] := List.eq_nil_of_length_eq_zero (by simpa using hc)
   rw [h1, h2]; rfl
 | n :: ls, cs, css, hl, hc, h => by
   cases css with
   | nil => simp at hc
   | cons c css =>
     have h0 := h 0 n rfl
     simp at h0
     have := pieces_flatten ls (cs.drop n) css (by simp at hl ⊢; omega) (by simpa using hc) fun i m hm => by
      have := h (i + 1) m (by simpa using hm)
      simpa [List.drop_drop] using this
     rw [List.flatten_cons, ← this, h0, List.take_append_drop]
end
def rootOf (cs : List Value) : List UInt8 := cs.map fun | .int _ n => UInt8.ofNat n.toNat | _ => 0
theorem rep_root {C : Cx} {cs : List Value} (hl : cs.length = 32) (h : ∀ v ∈ cs, ∃ n : Int, v = .int .u8 n ∧ 0 ≤ n ∧ n < 256) : ∃ r, Rep C (.root r) cs := by
 refine ⟨⟨rootOf cs, by simp [rootOf, hl]⟩, ?_⟩
 simp only [Rep, rootCells, rootOf, List.map_map]
 clear hl
 induction cs with
 | nil => rfl
 | cons v cs ih =>
   obtain ⟨n, rfl, h0, h1⟩ := h v (by simp)
   rw [List.map_cons, ← ih fun v hv => h v (by simp [hv])]
   simp only [Function.comp_apply, List.cons.injEq, Value.int.injEq, true_and, and_true]
   rw [UInt8.toNat_ofNat']
   omega
section
variable {P : Program} {H : Type} {enc : TypeId × Value → H} {w : World} {im : Nat → Prop} {sp : Nat → Bool} {held : Bool} {base : Nat}
theorem trod_byte {fuel : Nat} {e : TypeId} {v : Value} {y : DataW H × List MemPlace} (hue : P.underlying e = some (.int .u8)) (h : DataW.trod enc P w base sp held fuel e [v] = some y) : ∃ k : Int, v = .int .u8 k ∧ 0 ≤ k ∧ k < 256 := by
 cases fuel with
 | zero => simp [DataW.trod] at h
 | succ fuel =>
   cases v with
   | int k n =>
     simp only [DataW.trod, hue] at h
     split at h
     · rename_i hw
       obtain ⟨rfl, hw⟩ := hw
       simp [Lit.wf, IntKind.min, IntKind.max, IntKind.signed, IntKind.bits] at hw
       exact ⟨n, rfl, by omega, by omega⟩
     · cases h
   | _ => simp [DataW.trod, hue] at h
theorem rep_of_trod (hl : laidOutB P = true) (him : ∀ b, b < w.heap.size → im b) : ∀ (fuel m : Nat) (t : TypeId) (cs : List Value) (d : DataW H) (ps : List MemPlace), t < P.types.size → goodT P m t = true →
 DataW.trod enc P w base sp held fuel t cs = some (d, ps) → ∃ x, hasT P m t x ∧ Rep ⟨id, fun _ => False, im, w⟩ x cs
 | 0, _, _, _, _, _, _, _, h => by simp [DataW.trod] at h
 | _ + 1, 0, _, _, _, _, _, hg, _ => by simp [goodT] at hg
 | fuel + 1, m + 1, t, cs, d, ps, ht, hg, h => by
   have IH := fun e (he : e < P.types.size) (hge : goodT P m e = true) cs d ps => rep_of_trod hl him fuel m e cs d ps he hge
   unfold DataW.trod at h
   unfold goodT at hg
   unfold hasT
   split at h
   · rename_i b hu; exact ⟨.bool b, by simp [hu], rfl⟩
   · rename_i hu
     split at h
     · rename_i hc
       obtain ⟨rfl, hw⟩ := hc
       exact ⟨.int _ _, by simp [hu, hw], rfl⟩
     · cases h
   · rename_i hu; simp [hu] at hg
   · rename_i s hu
     split at h
     · rename_i hs; exact ⟨.str s, by simp [hu, hs], rfl⟩
     · cases h
   · rename_i hu; exact ⟨.nilp, by simp [hu], rfl⟩
   · rename_i e a hu
     simp only [hu, Bool.and_eq_true, decide_eq_true_eq] at hg
     simp only [Option.map_eq_some_iff, Option.bind_eq_some_iff] at h
     obtain ⟨⟨d', p'⟩, ⟨l, h1, h2⟩, _⟩ := h
     obtain ⟨k1, k2, k3, k4⟩ := cells_at h1 hg.1
     obtain ⟨y, h3, h4⟩ := IH e (kid_pointer hl ht hu) hg.2 l d' p' h2
     refine ⟨.ref y, by simp only [hu]; exact .inr ⟨y, rfl, h3⟩, ?_⟩
     simp only [Rep]
     exact ⟨a.block, a.off, l, by rw [show a = ⟨a.block, a.off, none⟩ by cases a; simp_all], him _ k2, k2, h4, k4⟩
   · rename_i e hu
     refine ⟨.sl [] false, by simp only [hu]; exact ⟨[], rfl, by simp, by simp⟩, ?_⟩
     simp only [Rep]
     exact ⟨none, 0, rfl, by simp, by simp [maxLen], (fun e => by cases e), .inl trivial⟩
   · rename_i e a len cap hu
     simp only [hu, Bool.and_eq_true, decide_eq_true_eq] at hg
     split at h
     · rename_i hc
       obtain ⟨_, hlc, hcm⟩ := hc
       simp only [Option.bind_eq_some_iff] at h
       obtain ⟨elems, h1, _⟩ := h
       obtain ⟨xs, css, h3, h4, h5⟩ := mapM_choose (R := fun i y c => (hasT P m e y ∧ Rep ⟨id, fun _ => False, im, w⟩ y c) ∧ c.length = P.cellsOf e ∧ ∃ b, (a = ⟨a.block, a.off, none⟩ ∨ 0 < i) ∧ b = a.block ∧ b < w.heap.size ∧ cellsAt w b (a.off + i * P.cellsOf e) c) _ _ h1 (by
        intro i _ y hy
        simp only [Option.bind_eq_some_iff] at hy
        obtain ⟨l, k1, k2⟩ := hy
        obtain ⟨e1, e2, e3, e4⟩ := cells_at k1 hg.1
        obtain ⟨z, z1, z2⟩ := IH e (kid_slice hl ht hu) hg.2 l y.1 y.2 k2
        refine ⟨z, l, ⟨z1, z2⟩, e3, a.block, ?_, rfl, ?_, ?_⟩
        · by_cases hi : i = 0
          · subst hi
            simp [Addr.add] at e1
            exact .inl (by cases a; simp_all)
          · exact .inr (by omega)
        · by_cases hi : i * P.cellsOf e = 0
          · simpa [Addr.add, hi] using e2
          · simpa [Addr.add, hi] using e2
        · by_cases hi : i * P.cellsOf e = 0
          · simpa [Addr.add, hi] using e4
          · simpa [Addr.add, hi] using e4)
       simp only [List.length_range] at h3 h4
       have hget : ∀ i, i < len → (List.range len)[i]? = some i := fun i hi => by simp [hi]
       refine ⟨.sl xs false, by
        simp only [hu]
        refine ⟨xs, rfl, fun y hy => ?_, by omega⟩
        obtain ⟨i, hi, rfl⟩ := List.mem_iff_getElem.1 hy
        obtain ⟨c, d', k1, _, k2⟩ := h5 i i (hget i (by omega))
        rw [List.getElem?_eq_getElem hi] at k1
        cases k1
        exact k2.1.1, ?_⟩
       simp only [Rep]
       refine ⟨some a, cap, by rw [h3], by omega, hcm, (fun e => by cases e), ?_⟩
       by_cases hx : xs = []
       · exact .inl hx
       · have hlen : 0 < len := by
          rw [← h3]; exact List.length_pos_iff.2 hx
         obtain ⟨c0, d0, _, _, _, _, b, hb1, hb2, hb3, _⟩ := h5 0 0 (hget 0 hlen)
         have ha : a = ⟨a.block, a.off, none⟩ := by
          rcases hb1 with h | h
          · exact h
          · omega
         refine .inr ⟨a.block, a.off, css, by rw [← ha], him _ (hb2 ▸ hb3), hb2 ▸ hb3, RepL.of_get _ _ (by omega) fun i y c hy hc => ?_, ⟨P.cellsOf e, fun c hc => ?_⟩, cellsAt_flatten (sz := P.cellsOf e) css a.off fun i c hc => ?_⟩
         · have hi : i < len := by have := (List.getElem?_eq_some_iff.1 hy).1; omega
           obtain ⟨c', d', k1, k2, k3⟩ := h5 i i (hget i hi)
           rw [hy] at k1; rw [hc] at k2
           cases k1; cases k2
           exact k3.1.2
         · obtain ⟨i, hi, rfl⟩ := List.mem_iff_getElem.1 hc
           obtain ⟨c', d', k1, k2, k3⟩ := h5 i i (hget i (by omega))
           rw [List.getElem?_eq_getElem hi] at k2
           cases k2
           exact k3.2.1
         · have hi : i < len := by have := (List.getElem?_eq_some_iff.1 hc).1; omega
           obtain ⟨c', d', k1, k2, k3⟩ := h5 i i (hget i hi)
           rw [hc] at k2
           cases k2
           obtain ⟨_, k4, b', _, rfl, _, k5⟩ := k3
           exact ⟨k4, k5⟩
     · cases h
   · rename_i cs _ _ fs hu
     simp only [hu, List.all_eq_true] at hg
     obtain ⟨q1, q2, q3⟩ := kid_struct hl ht hu
     split at h
     · rename_i hlen
       simp only [Option.map_eq_some_iff] at h
       obtain ⟨r, h1, _⟩ := h
       obtain ⟨xs, css, h3, h4, h5⟩ := mapM_choose (R := fun f y c => (hasT P m f.type y ∧ Rep ⟨id, fun _ => False, im, w⟩ y c) ∧ c = (cs.drop f.offset).take (P.cellsOf f.type)) _ _ h1 (by
        intro f hf y hy
        obtain ⟨z, z1, z2⟩ := IH f.type (q1 f hf) (hg f hf) _ y.1 y.2 hy
        exact ⟨z, _, ⟨z1, z2⟩, rfl⟩)
       refine ⟨.st xs, by
        simp only [hu]
        refine ⟨xs, rfl, h3, fun i f y hf hy => ?_⟩
        obtain ⟨c, d', k1, _, k2⟩ := h5 i f hf
        rw [hy] at k1; cases k1
        exact k2.1.1, ?_⟩
       simp only [Rep]
       refine ⟨css, RepL.of_get _ _ (by omega) fun i y c hy hc => ?_, pieces_flatten (fs.toList.map fun f => P.cellsOf f.type) cs css (by rw [hlen, q2]) (by simp [h4]) fun i n hn => ?_⟩
       · have hi : i < fs.toList.length := by have := (List.getElem?_eq_some_iff.1 hy).1; omega
         obtain ⟨c', d', k1, k2, k3⟩ := h5 i _ (List.getElem?_eq_getElem hi)
         rw [hy] at k1; rw [hc] at k2
         cases k1; cases k2
         exact k3.1.2
       · simp only [List.getElem?_map, Option.map_eq_some_iff] at hn
         obtain ⟨f, hf, rfl⟩ := hn
         obtain ⟨c', d', k1, k2, k3⟩ := h5 i f hf
         rw [k2, k3.2, q3 i f hf, List.map_take]
     · cases h
   · rename_i cs _ _ n e hu
     obtain ⟨q1, q2⟩ := kid_array hl ht hu
     split at h
     · rename_i hlen
       simp only [Option.map_eq_some_iff] at h
       obtain ⟨r, h1, _⟩ := h
       simp only [hu]
       by_cases hr : isRootT P n e = true
       · obtain ⟨rfl, hue⟩ := isRootT_spec hr
         have hsz : P.cellsOf e = 1 := by
          have := rowFine_of hl q1
          simp [rowFine, isVar, q1, hue, kindOk] at this
          exact this
         have hall : ∀ v ∈ cs, ∃ k : Int, v = .int .u8 k ∧ 0 ≤ k ∧ k < 256 := by
          intro v hv
          obtain ⟨i, hi, rfl⟩ := List.mem_iff_getElem.1 hv
          have hi' : i < 32 := by rw [hlen, q2, hsz] at hi; omega
          have := mapM_some_get h1 i i (by simp [hi'])
          rw [hsz] at this
          have hri : ∃ y, r[i]? = some y := by
           have := mapM_some_length h1
           exact ⟨r[i]'(by simp at this; omega), by simp [show i < r.length by simp at this; omega]⟩
          obtain ⟨y, hy⟩ := hri
          rw [hy] at this
          have hd : (cs.drop (i * 1)).take 1 = [cs[i]] := by
           rw [Nat.mul_one, List.drop_eq_getElem_cons hi]; rfl
          rw [hd] at this
          exact trod_byte hue this
         obtain ⟨r0, h6⟩ := rep_root (C := ⟨id, fun _ => False, im, w⟩) (by rw [hlen, q2, hsz]) hall
         exact ⟨.root r0, by rw [if_pos hr]; exact ⟨r0, rfl⟩, h6⟩
       · have hge : goodT P m e = true := by
          simp only [hu, Bool.or_eq_true] at hg
          exact hg.resolve_left hr
         obtain ⟨xs, css, h3, h4, h5⟩ := mapM_choose (R := fun i y c => (hasT P m e y ∧ Rep ⟨id, fun _ => False, im, w⟩ y c) ∧ c = (cs.drop (i * P.cellsOf e)).take (P.cellsOf e)) _ _ h1 (by
          intro i hi y hy
          obtain ⟨z, z1, z2⟩ := IH e q1 hge _ y.1 y.2 hy
          exact ⟨z, _, ⟨z1, z2⟩, rfl⟩)
         simp only [List.length_range] at h3 h4
         have hget : ∀ i, i < n → (List.range n)[i]? = some i := fun i hi => by simp [hi]
         refine ⟨.arr xs, by
          rw [if_neg hr]
          refine ⟨xs, rfl, h3, fun y hy => ?_⟩
          obtain ⟨i, hi, rfl⟩ := List.mem_iff_getElem.1 hy
          obtain ⟨c, d', k1, _, k2⟩ := h5 i i (hget i (by omega))
          rw [List.getElem?_eq_getElem hi] at k1
          cases k1
          exact k2.1.1, ?_⟩
         · simp only [Rep]
           refine ⟨css, RepL.of_get _ _ (by omega) fun i y c hy hc => ?_, pieces_flatten (List.replicate n (P.cellsOf e)) cs css (by rw [hlen, q2]; simp) (by simp [h4]) fun i k hk => ?_⟩
           · have hi : i < n := by have := (List.getElem?_eq_some_iff.1 hy).1; omega
             obtain ⟨c', d', k1, k2, k3⟩ := h5 i i (hget i hi)
             rw [hy] at k1; rw [hc] at k2
             cases k1; cases k2
             exact k3.1.2
           · have hi : i < n := by have := (List.getElem?_eq_some_iff.1 hk).1; simpa using this
             simp only [List.getElem?_replicate, hi, if_true, Option.some.injEq] at hk
             subst hk
             obtain ⟨c', d', k1, k2, k3⟩ := h5 i i (hget i hi)
             rw [k2, k3.2]
             simp [List.take_replicate, Nat.min_eq_left (Nat.le_of_lt hi)]
     · cases h
   all_goals first
    | (rename_i hu; rw [hu] at hg; cases hg; done)
    | (rename_i hu _; rw [hu] at hg; cases hg; done)
    | (rename_i hu _ _; rw [hu] at hg; cases hg; done)
    | (cases h; done)
end
end Go.Ab
namespace Go.Ab
open Go.RowKit Go.ChangeShapes Go.WideShapes Go.ChangeAt
def hasTs (P : Program) (m : Nat) : List TypeId → List AV → Prop
 | [], xs => xs = []
 | t :: ts, xs => ∃ x r, xs = x :: r ∧ hasT P m t x ∧ hasTs P m ts r
section
variable {P : Program} {H : Type} {enc : TypeId × Value → H} {w : World} {im : Nat → Prop} {sp : Nat → Bool} {held : Bool} {base base' : Nat}
theorem cell_scalar {t : TypeId} {v : Value} (h : Cell.okWide P w .any base t v) : isAggV v = false ∧ isTupV v = false := by
 cases v with
 | agg cs => unfold Cell.okWide at h; split at h <;> first | (rename_i h1; cases h1; done) | (rename_i h1 h2; cases h2; done) | (unfold Cell.ok at h; split at h <;> first | exact h.elim | (rename_i h1; cases h1; done) | (rename_i h1 h2; cases h2; done))
 | tuple cs => unfold Cell.okWide at h; split at h <;> first | (rename_i h1; cases h1; done) | (rename_i h1 h2; cases h2; done) | (unfold Cell.ok at h; split at h <;> first | exact h.elim | (rename_i h1; cases h1; done) | (rename_i h1 h2; cases h2; done))
 | _ => exact ⟨rfl, rfl⟩
theorem form_of {m : Nat} {t : TypeId} {x : AV} {v : Value} (hok : Value.okWide P w .any base t v) (h : hasT P m t x) : isAggV v = x.agg ∧ isTupV v = false := by
 cases m with
 | zero => exact h.elim
 | succ m =>
   unfold hasT at h
   unfold Value.okWide at hok
   split at hok
   · rename_i fs hu
     rw [hu] at h
     obtain ⟨cs, rfl, _⟩ := hok
     obtain ⟨xs, rfl, _⟩ := h
     exact ⟨rfl, rfl⟩
   · rename_i n e hu
     rw [hu] at h
     obtain ⟨cs, rfl, _⟩ := hok
     simp only at h
     split at h
     · obtain ⟨r, rfl⟩ := h; exact ⟨rfl, rfl⟩
     · obtain ⟨xs, rfl, _⟩ := h; exact ⟨rfl, rfl⟩
   · rename_i h1 h2
     have hs := cell_scalar hok
     have hx : x.agg = false := by
      split at h
      · obtain ⟨b, rfl⟩ := h; rfl
      · obtain ⟨i, rfl, _⟩ := h; rfl
      · obtain ⟨s, rfl, _⟩ := h; rfl
      · rcases h with rfl | ⟨y, rfl, _⟩ <;> rfl
      · obtain ⟨xs, rfl, _⟩ := h; rfl
      · rename_i fs hu; exact absurd hu (h1 fs)
      · rename_i n e hu; exact absurd hu (h2 n e)
      · exact h.elim
     rw [hx]
     exact hs
theorem reps_of_trodAll (hl : laidOutB P = true) (him : ∀ b, b < w.heap.size → im b) {m : Nat} : ∀ (ts : List TypeId) (vs : List Value) (ds : List (DataW H)) (ps : List MemPlace), (∀ t ∈ ts, t < P.types.size ∧ goodT P m t = true) →
 (∀ (j : Nat) t v, ts[j]? = some t → vs[j]? = some v → Value.okWide P w .any base' t v) → DataW.TrodAll enc P w base sp held ts vs ds ps → ∃ xs, hasTs P m ts xs ∧ RepVs ⟨id, fun _ => False, im, w⟩ xs vs
 | [], vs, ds, ps, _, _, h => by
   obtain ⟨rfl, rfl, rfl⟩ := trodAll_nil h
   exact ⟨[], rfl, rfl⟩
 | t :: ts, vs, ds, ps, hg, hok, h => by
   obtain ⟨v, vs', d, ds', p, q, rfl, rfl, rfl, ⟨fuel, h1⟩, h2⟩ := trodAll_cons h
   obtain ⟨xs, h3, h4⟩ := reps_of_trodAll hl him ts vs' ds' q (fun t ht => hg t (by simp [ht])) (fun j t v h5 h6 => hok (j + 1) t v (by simpa using h5) (by simpa using h6)) h2
   obtain ⟨k1, k2⟩ := hg t (by simp)
   obtain ⟨x, h5, h6⟩ := rep_of_trod hl him fuel m t _ d p k1 k2 h1
   exact ⟨x :: xs, ⟨x, xs, rfl, h5, h3⟩, ⟨v, vs', rfl, ⟨h6, form_of (hok 0 t v rfl rfl) h5⟩, h4⟩⟩
theorem trodAll_stays (hl : laidOutB P = true) {W' : World} {sp' : Nat → Bool} : ∀ (ts : List TypeId) (vs : List Value) (ds : List (DataW H)) (ps : List MemPlace), (∀ t ∈ ts, t < P.types.size ∧ P.readableRec t = true) →
 DataW.TrodAll enc P w base (fun _ => true) true ts vs ds ps → (∀ p ∈ ps, w.sameAt W' p) → (∀ p ∈ ps, sp' p.block = true) → DataW.TrodAll enc P W' base sp' true ts vs ds ps
 | [], vs, ds, ps, _, h, _, _ => by
   obtain ⟨rfl, rfl, rfl⟩ := trodAll_nil h
   rfl
 | t :: ts, vs, ds, ps, hg, h, hs, hsp => by
   obtain ⟨v, vs', d, ds', p, q, rfl, rfl, rfl, h1, h2⟩ := trodAll_cons h
   obtain ⟨k1, k2⟩ := hg t (by simp)
   exact ⟨p, q, WideElems.Trod_stays hl k2 k1 h1 (fun x hx => hs x (by simp [hx])) (fun x hx => hsp x (by simp [hx])), trodAll_stays hl ts vs' ds' q (fun t ht => hg t (by simp [ht])) h2 (fun x hx => hs x (by simp [hx])) (fun x hx => hsp x (by simp [hx])), rfl⟩
theorem trodAll_len : ∀ {ts : List TypeId} {vs : List Value} {ds : List (DataW H)} {ps : List MemPlace}, DataW.TrodAll enc P w base sp held ts vs ds ps → ds.length = ts.length
 | [], _, _, _, h => by
   obtain ⟨rfl, rfl, _⟩ := trodAll_nil h
   rfl
 | _ :: _, _, _, _, h => by
   obtain ⟨v, vs1, d, ds1, a, b, rfl, rfl, rfl, _, h2⟩ := trodAll_cons h
   simp [trodAll_len h2]
theorem post_of_below {f : Func} {s : ChangeSpec} {apart fresh handsOn again : Bool} {W W' : World} {args : Array Value} {ds : List (DataW H)} {before : List MemPlace} {tb : TypeId} (hl : laidOutB P = true) (hv : s.vars = []) (hpar : ∀ t ∈ f.params.toList, t < P.types.size ∧ P.readableRec t = true)
 (hA : DataW.TrodAll enc P W 0 (fun _ => true) true f.params.toList args.toList ds before) (hW : DataW.Whole enc P f.params.toList s.vars apart W args.toList ds [] before)
 (hres : f.resultTypes = #[tb]) (htb : P.underlying tb = some .bool) (hspec : s.fn H ds = { results := [.lit (.bool true)], args := ds }) (hb : Below W.heap.size W W') :
 s.post enc P f apart fresh handsOn again W args (.bool true) W' := by
 have hlt : ∀ p ∈ before, p.block < W.heap.size := fun p hp => by simpa using hW.lt p hp
 have hargs : ∀ sp : Nat → Bool, (∀ p ∈ before, sp p.block = true) → DataW.TrodAll enc P W' 0 sp true f.params.toList args.toList ds before := fun sp hsp =>
  trodAll_stays hl _ _ _ _ hpar hA (fun p hp => hb.same (hlt p hp)) hsp
 have hr : ∀ (b : Nat) (sp : Nat → Bool) (hd : Bool), DataW.TrodAll enc P W' b sp hd f.resultTypes.toList ((Value.bool true).resultList f.resultTypes.size) [.lit (.bool true)] [] := fun b sp hd => by
  rw [hres]
  exact trodAll_mk1 (shut_bool htb true)
 have hold : ∀ p ∈ before, (fun b => decide (b < W.heap.size)) p.block = true := fun p hp => by simpa using hlt p hp
 refine ⟨ds, [], before, [], before, [], hW, ?_, ?_, ?_, World.keptBut_mono (fun p hp => ⟨hp, .inr (.inl hp)⟩) (hb.frame _), fun _ => ?_⟩
 · rw [List.append_nil, hspec]; exact hr _ _ _
 · rw [List.append_nil, hspec]; exact hargs _ hold
 · rw [List.append_nil, hspec, hv]; rfl
 · obtain ⟨_, _, _, _, _, hz, hn⟩ := hW
   refine ⟨ok_one hres rfl (okWide_bool_mk htb true), _, [], ([] ++ before) ++ [], ⟨[] ++ before, [], trodAll_append (hargs _ (fun _ _ => rfl)) (hr _ _ _), by rw [hv]; rfl, rfl, ?_, ?_⟩, ?_⟩
   · intro b off hp
     have hp : MemPlace.cell b off ∈ before := by simpa using hp
     rw [hb.frozen (hlt _ hp)]
     exact hz b off hp
   · intro ha
     simpa using hn ha
   · intro p hp _
     simpa using hp
end
end Go.Ab
namespace Go.Ab
open Go.RowKit
section
variable {P : Program} {CK : CallK} {ops : Array Oper} {o : Oper} {rest : List Oper} {s : S} {K : S → Prop} {E : Env} {ro : Option Nat}
theorem vc_nil (h : K s) : vcOps P CK ops [] s K := h
theorem vc_op (hg : o.guard = none) (h : opK P CK o s.nx s.ev s.hp fun v hp' => vcOps P CK ops rest ({ s with hp := hp', nx := s.nx + 16 }.put o.dst v) K) : vcOps P CK ops (o :: rest) s K := by
 simp only [vcOps, hg]; exact .inl h
theorem vc_go {j d : Nat} {want : Bool} (hg : o.guard = some (j, want)) (hd : guardSlot ops j = some d) (hb : s.fr.get d = .bool want)
 (h : opK P CK o s.nx (s.put (some d) (.bool want)).ev s.hp fun v hp' => vcOps P CK ops rest (({ s with hp := hp', nx := s.nx + 16 }.put (some d) (.bool want)).put o.dst v) K) : vcOps P CK ops (o :: rest) s K := by
 simp only [vcOps, hg, hd, hb]; exact ⟨fun _ => h, fun e => (by cases want <;> cases e)⟩
theorem vc_no {j d : Nat} {want : Bool} (hg : o.guard = some (j, want)) (hd : guardSlot ops j = some d) (hb : s.fr.get d = .bool (!want))
 (h : vcOps P CK ops rest ((s.put (some d) (.bool !want)).put o.dst (.tup [])) K) : vcOps P CK ops (o :: rest) s K := by
 simp only [vcOps, hg, hd, hb]; exact ⟨fun e => (by cases want <;> cases e), fun _ => h⟩
theorem vd_nil {hpD : HP} {D : List Nat} {nx k : Nat} (h : K { s with nx := nx + 16 * k }) : vcOpsD P CK [] [] ops hpD D nx [] k s K := h
theorem vd_q {hpD : HP} {D : List Nat} {nx k : Nat} (hg : o.guard = none) (hq : quietOp o = true) (h : opK P CK o (nx + 16 * k) s.evD hpD fun v _ => vcOpsD P CK [] [] ops hpD D nx rest (k + 1) ({ s with hp := s.hp }.put o.dst v) K) :
 vcOpsD P CK [] [] ops hpD D nx (o :: rest) k s K := by
 simp only [vcOpsD, hg, opD, hq, if_true]; exact h
theorem vd_x {hpD : HP} {D : List Nat} {nx k : Nat} (hg : o.guard = none) (hq : quietOp o = false) (h : opK P (pureK P) o (nx + 16 * k) s.evD s.hp fun v hp' => HP.keep D hp' = hpD ∧ vcOpsD P (pureK P) [] [] ops hpD D nx rest (k + 1) ({ s with hp := hp' }.put o.dst v) K) :
 vcOpsD P (pureK P) [] [] ops hpD D nx (o :: rest) k s K := by
 simp only [vcOpsD, hg, opD, hq, zcall_nil, Bool.false_eq_true, if_false]; exact opK_mono (pureK_ok P) (fun _ _ q => ⟨.inr q.1, q.2⟩) h
theorem vd_w {hpD : HP} {D : List Nat} {nx k : Nat} (hg : o.guard = none) (hq : quietOp o = false) (hl : lateD ops o = true) (h : opK P (pureK P) o (nx + 16 * k) s.evD s.hp fun v hp' => vcOpsD P (pureK P) [] [] ops hpD D nx rest (k + 1) ({ s with hp := hp' }.put o.dst v) K) :
 vcOpsD P (pureK P) [] [] ops hpD D nx (o :: rest) k s K := by
 simp only [vcOpsD, hg, opD, hq, zcall_nil, Bool.false_eq_true, if_false]; exact opK_mono (pureK_ok P) (fun _ _ q => ⟨.inl hl, q⟩) h
theorem vd_goq {hpD : HP} {D : List Nat} {nx k j d : Nat} {want : Bool} (hg : o.guard = some (j, want)) (hd : guardSlot ops j = some d) (hb : s.fr.get d = .bool want) (hq : quietOp o = true)
 (h : opK P CK o (nx + 16 * k) (s.put (some d) (.bool want)).evD hpD fun v _ => vcOpsD P CK [] [] ops hpD D nx rest (k + 1) (({ s with hp := s.hp }.put (some d) (.bool want)).put o.dst v) K) : vcOpsD P CK [] [] ops hpD D nx (o :: rest) k s K := by
 simp only [vcOpsD, hg, hd, hb, opD, hq, if_true]; exact ⟨fun _ => h, fun e => (by cases want <;> cases e)⟩
theorem vd_gox {hpD : HP} {D : List Nat} {nx k j d : Nat} {want : Bool} (hg : o.guard = some (j, want)) (hd : guardSlot ops j = some d) (hb : s.fr.get d = .bool want) (hq : quietOp o = false)
 (h : opK P (pureK P) o (nx + 16 * k) (s.put (some d) (.bool want)).evD s.hp fun v hp' => HP.keep D hp' = hpD ∧ vcOpsD P (pureK P) [] [] ops hpD D nx rest (k + 1) (({ s with hp := hp' }.put (some d) (.bool want)).put o.dst v) K) : vcOpsD P (pureK P) [] [] ops hpD D nx (o :: rest) k s K := by
 simp only [vcOpsD, hg, hd, hb, opD, hq, zcall_nil, Bool.false_eq_true, if_false]; exact ⟨fun _ => opK_mono (pureK_ok P) (fun _ _ q => ⟨.inr q.1, q.2⟩) h, fun e => (by cases want <;> cases e)⟩
theorem vd_no {hpD : HP} {D : List Nat} {nx k j d : Nat} {want : Bool} (hg : o.guard = some (j, want)) (hd : guardSlot ops j = some d) (hb : s.fr.get d = .bool (!want))
 (h : vcOpsD P CK [] [] ops hpD D nx rest (k + 1) ((s.put (some d) (.bool !want)).put o.dst (.tup [])) K) : vcOpsD P CK [] [] ops hpD D nx (o :: rest) k s K := by
 simp only [vcOpsD, hg, hd, hb]; exact ⟨fun e => (by cases want <;> cases e), fun _ => h⟩
theorem vd_skip {hpD : HP} {D : List Nat} {nx k j d : Nat} {want : Bool} (hg : o.guard = some (j, want)) (hd : guardSlot ops j = some d) (hb : s.fr.get d = .tup [])
 (h : vcOpsD P CK [] [] ops hpD D nx rest (k + 1) (s.put o.dst (.tup [])) K) : vcOpsD P CK [] [] ops hpD D nx (o :: rest) k s K := by
 simp only [vcOpsD, hg, hd, hb]; exact h
theorem vc_skip {j d : Nat} {want : Bool} (hg : o.guard = some (j, want)) (hd : guardSlot ops j = some d) (hb : s.fr.get d = .tup []) (h : vcOps P CK ops rest (s.put o.dst (.tup [])) K) : vcOps P CK ops (o :: rest) s K := by
 simp only [vcOps, hg, hd, hb]; exact h
theorem call_own {c : Call} {f : Operand} {fid : FuncId} {first cap args args' : List AV} {r : AV} {ho : HP} {id : Nat} {g : Operand → AV} {hp : HP} {L : AV → HP → Prop} (hc : c.callee = .value f) (hf : g f = .fn (.func fid) first cap)
 (ha : first ++ c.args.toList.map g ++ cap = args) (hok : args.all AV.ok = true) (hen : enters P fid) (hp1 : Own P fid args' r ho) (hfr : AV.frzL (HP.keep (AV.idLs args) hp) args = args') (hid : AV.idfL args' = true)
 (k : L (r.ren (id + ·)) (if r.flat then hp else shiftH id ho ++ HP.drop (AV.idLs args) hp)) : callK P (pureK P) c id g hp L := by
 unfold callK
 split
 · rename_i h1 _ _; rw [hc] at h1; cases h1
 · rename_i h1 _ _; rw [hc] at h1; cases h1
 · rename_i h1 _ _; rw [hc] at h1; cases h1
 · rename_i h1 _; rw [hc] at h1; cases h1
 · rename_i h1 _; rw [hc] at h1; cases h1
 · rename_i f' h1
   rw [hc] at h1; cases h1
   rw [hf]
   refine ⟨by rw [ha]; exact hok, hen, .inl ⟨r, ho, ?_, ?_, ?_⟩⟩
   · rw [ha, hfr]; exact hp1
   · rw [ha, hfr]; exact hid
   · rw [ha]; exact k
 · rename_i a1 a2 a3 a4 a5 a6
   first | exact (a6 _ hc).elim | exact (a1 _ hc).elim | exact (a2 _ hc).elim | exact (a3 _ hc).elim | exact (a4 _ hc).elim | exact (a5 _ hc).elim
theorem call_eff {c : Call} {f : Operand} {fid : FuncId} {first cap args args' : List AV} {n : Nat} {hin ho : HP} {r : AV} {id : Nat} {g : Operand → AV} {hp : HP} {L : AV → HP → Prop} (ρ : Nat → Nat) (fl : List Bool) (F : List Nat)
 (hc : c.callee = .value f) (hf : g f = .fn (.func fid) first cap) (ha : first ++ c.args.toList.map g ++ cap = args) (hok : args.all AV.ok = true) (hen : enters P fid) (he : Eff P fid args' n hin r ho)
 (harg : AV.renL ρ args' = AV.frzS (HP.keep F hp) fl args) (hids : AV.idsBL n args' = true) (hin' : hpLe ρ hp n hin) (hinj : rhoInj ρ hin = true) (hF : (hin.all fun p => !F.contains (ρ p.1)) = true) (hcov : covers hin n = true)
 (k : L (r.ren (effR ρ n id)) (renH (effR ρ n id) ho ++ HP.drop (F ++ hin.map fun p => ρ p.1) hp)) : callK P (pureK P) c id g hp L := by
 unfold callK
 split
 · rename_i h1 _ _; rw [hc] at h1; cases h1
 · rename_i h1 _ _; rw [hc] at h1; cases h1
 · rename_i h1 _ _; rw [hc] at h1; cases h1
 · rename_i h1 _; rw [hc] at h1; cases h1
 · rename_i h1 _; rw [hc] at h1; cases h1
 · rename_i f' h1
   rw [hc] at h1; cases h1
   rw [hf]
   exact ⟨by rw [ha]; exact hok, hen, .inr ⟨args', n, hin, ho, r, ρ, fl, F, he, by rw [ha]; exact harg, hids, hin', hinj, hF, hcov, k⟩⟩
 · rename_i a1 a2 a3 a4 a5 a6
   first | exact (a6 _ hc).elim | exact (a1 _ hc).elim | exact (a2 _ hc).elim | exact (a3 _ hc).elim | exact (a4 _ hc).elim | exact (a5 _ hc).elim
theorem call_fn {c : Call} {f : Operand} {fid : FuncId} {first cap args args' : List AV} {r : AV} {id : Nat} {g : Operand → AV} {hp : HP} {L : AV → HP → Prop} (hc : c.callee = .value f) (hf : g f = .fn (.func fid) first cap)
 (ha : first ++ c.args.toList.map g ++ cap = args) (hok : args.all AV.ok = true) (hen : enters P fid) (hp1 : Pure P fid args' r) (hfr : AV.frzL (HP.keep (AV.idLs args) hp) args = args') (hid : AV.idfL args' = true) (hri : r.idfT = true)
 (k : L r (if r.flat then hp else HP.drop (AV.idLs args) hp)) : callK P (pureK P) c id g hp L :=
 call_own hc hf ha hok hen hp1.own hfr hid (by rw [ren_idfT _ _ hri]; exact k)
theorem callK_len {P : Program} {CK : CallK} {id : Nat} {g : Operand → AV} {hp : HP} {L : AV → HP → Prop} (x : Operand) (t : TypeId) : callK P CK { callee := .builtin .len, args := #[x], argTypes := #[t] } id g hp L = lenK P t hp (g x) (fun v => L v hp) := rfl
theorem callK_append {P : Program} {CK : CallK} {id : Nat} {g : Operand → AV} {hp : HP} {L : AV → HP → Prop} (s x : Operand) (t t2 : TypeId) : callK P CK { callee := .builtin .append, args := #[s, x], argTypes := #[t, t2] } id g hp L = appendK P t t2 hp (g s) (g x) id L := rfl
theorem callK_copy {P : Program} {CK : CallK} {id : Nat} {g : Operand → AV} {hp : HP} {L : AV → HP → Prop} (d s : Operand) (t t2 : TypeId) : callK P CK { callee := .builtin .copy, args := #[d, s], argTypes := #[t, t2] } id g hp L = copyK P t hp (g d) (g s) L := rfl
theorem callK_min {P : Program} {CK : CallK} {id : Nat} {g : Operand → AV} {hp : HP} {L : AV → HP → Prop} (x y : Operand) (ts : Array TypeId) : callK P CK { callee := .builtin .min, args := #[x, y], argTypes := ts } id g hp L = minK (g x) (g y) (fun b a => decide (b < a)) (fun v => L v hp) := by
 rcases ts with ⟨_ | ⟨a, _ | ⟨b, ts⟩⟩⟩ <;> rfl
theorem callK_max {P : Program} {CK : CallK} {id : Nat} {g : Operand → AV} {hp : HP} {L : AV → HP → Prop} (x y : Operand) (ts : Array TypeId) : callK P CK { callee := .builtin .max, args := #[x, y], argTypes := ts } id g hp L = minK (g x) (g y) (fun b a => decide (a < b)) (fun v => L v hp) := by
 rcases ts with ⟨_ | ⟨a, _ | ⟨b, ts⟩⟩⟩ <;> rfl
theorem tr_region {id : Nat} {ops : Array Oper} {s : S} {K : Exit → S → Prop} (hd : dstOK E.N ops = true) (h : vcOps P (pureK P) ops ops.toList s (K .normal)) : Tr P ro E (.region id ops false) s K :=
 Tr.region (pureK_ok P).sound hd h
theorem tr_drawn (hm : P.follows .mixedOrders = true) {id : Nat} {ops : Array Oper} {s : S} {K : Exit → S → Prop} (D : List Nat) {hpD : HP} (he : HP.keep D s.hp = hpD) (hd : dstOK E.N ops = true) (hl : lexOK ops = true)
 (h : vcOpsD P (pureK P) [] [] ops hpD D s.nx ops.toList 0 s (K .normal)) : Tr P ro E (.region id ops true) s K := by
 subst he
 exact Tr.regionD (pureK_ok P) hm D hd hl h
theorem tr_seq_drawn (hm : P.follows .mixedOrders = true) {id : Nat} {ops : Array Oper} {y : Code} {s : S} {K : Exit → S → Prop} (D : List Nat) {hpD : HP} (he : HP.keep D s.hp = hpD) (hd : dstOK E.N ops = true) (hl : lexOK ops = true)
 (h : vcOpsD P (pureK P) [] [] ops hpD D s.nx ops.toList 0 s fun s' => Tr P ro E y s' K) : Tr P ro E (.seq (.region id ops true) y) s K := by
 subst he
 exact Tr.seq (Tr.regionD (pureK_ok P) hm D hd hl h)
theorem tr_seq_region {id : Nat} {ops : Array Oper} {y : Code} {s : S} {K : Exit → S → Prop} (hd : dstOK E.N ops = true) (h : vcOps P (pureK P) ops ops.toList s fun s' => Tr P ro E y s' K) : Tr P ro E (.seq (.region id ops false) y) s K :=
 Tr.seq (Tr.region (pureK_ok P).sound hd h)
end
theorem enters_of {P : Program} {f : FuncId} {fn : Func} (hf : P.funcs[f]? = some fn) (hn : (fn.name == "runtime.NumGoroutine") = false) (hb : fn.body.isNone = false) : enters P f := by
 intro args w
 have hn' : ¬ fn.name = "runtime.NumGoroutine" := by simpa using hn
 have hb' : ¬ fn.body = none := fun e => by rw [e] at hb; cases hb
 unfold callFunc
 simp [hf, hn', hb']
theorem pin_zero {E : Env} {ρ : Nat → Nat} {m : Nat} (h : E.pn = 0) : ∀ o, o < E.pn → ρ o = o ∧ o < m := fun o ho => by rw [h] at ho; exact absurd ho (Nat.not_lt_zero o)
theorem pin_some {E : Env} {ρ : Nat → Nat} {m n : Nat} (h : E.pn = n) (hb : ((List.range n).all fun o => (ρ o == o) && Nat.blt o m) = true) : ∀ o, o < E.pn → ρ o = o ∧ o < m := by
 rw [h]
 intro o ho
 have := List.all_eq_true.1 hb o (List.mem_range.2 ho)
 simp only [Bool.and_eq_true, beq_iff_eq] at this
 exact ⟨this.1, Nat.le_of_ble_eq_true this.2⟩
theorem wk_ren {E : Env} {s s' : S} (ρ : Nat → Nat) (hf : frLe ρ s.fr s'.nx s'.fr) (hh : hpLe ρ s.hp s'.nx s'.hp) (hinj : (s'.hp.all fun p => s'.hp.all fun q => !(ρ p.1 == ρ q.1) || p.1 == q.1) = true)
 (hd : s.df = []) (hd' : s'.df = []) (hpin : ∀ o, o < E.pn → ρ o = o ∧ o < s'.nx := by first | exact pin_zero (by assumption) | exact pin_some (by assumption) rfl) : Wk E s s' := by
 refine Wk.ren ρ (frLe_mem hf) (hpLe_mem hh) (fun p hp q hq h => ?_) (by rw [hd, hd']; exact ⟨rfl, fun _ h => by cases h⟩) hpin
 have := List.all_eq_true.1 (List.all_eq_true.1 hinj p hp) q hq
 simpa [h] using this
theorem own_of_tr {P : Program} {f : FuncId} {fn : Func} {c : Code} {args : List AV} {r : AV} {ho : HP} (hf : P.funcs[f]? = some fn) (hb : fn.body = some c) (hN : args.length ≤ fn.ntmps) (hids : r.idsB 16 = true)
 (h : ∀ E : Env, E.N = fn.ntmps → E.pn = 0 → Tr P none E c ⟨frOf 0 args, [], 0, []⟩ (endK P fn.results.toList fun xs hp => ∃ ρ : Nat → Nat, (mkR xs).frz (HP.drop (ho.map fun p => ρ p.1) hp) = r.ren ρ ∧ hpLe ρ hp 16 ho ∧ rhoInj ρ ho = true)) : Own P f args r ho := by
 intro im w vals him hv
 have hlen := hv.length_eq
 let E : Env := ⟨fn.ntmps, w, fun _ => False, im, 0, id⟩
 refine callsIn_of_wp hf hb trivial ?_
 have hsz : (vals.toArray ++ Array.replicate (fn.ntmps - vals.toArray.size) undef).size = fn.ntmps := by simp; omega
 have habs : Abs E ⟨frOf 0 args, [], 0, []⟩ { tmps := vals.toArray ++ Array.replicate (fn.ntmps - vals.toArray.size) undef, defers := [] } w := by
  refine ⟨id, fun _ => False, im, fun _ h => h.elim, ⟨fun o ob h => (by cases h), fun o ob h => (by cases h), fun o ob h => (by cases h), fun o ob h => (by cases h), fun o o' ob ob' h => (by cases h), fun o ob h => (by cases h), him, fun b hb => .inl hb, fun b hb => hb, fun _ _ _ => rfl, Nat.le_refl _, rfl, rfl, rfl, fun _ _ h => h, fun o ho => absurd ho (Nat.not_lt_zero o)⟩,
   ⟨hsz, fun t => ?_⟩, (fun o ho => by cases ho), rfl⟩
  rw [frOf_get]
  simp only [Nat.zero_le, if_true, Nat.sub_zero]
  have := RepVs.getD hv t
  have e : (vals.toArray ++ Array.replicate (fn.ntmps - vals.toArray.size) undef).getD t undef = (vals[t]?).getD undef := by
   simp only [Array.getD_eq_getD_getElem?, Array.getElem?_append, List.size_toArray, List.getElem?_toArray]
   split
   · rfl
   · rename_i hge
     rw [List.getElem?_eq_none (by omega)]
     simp [Array.getElem?_replicate]
     split <;> rfl
  rw [e]
  exact this
 refine wpIn_mono (h E rfl rfl _ _ habs) ?_
 rintro e a' w' ⟨s', hk, ι', dom', im', _, hi, hfr, hdf⟩
 have fin : s'.df = [] → resultsK P s' fn.results.toList (fun xs => ∃ ρ : Nat → Nat, (mkR xs).frz (HP.drop (ho.map fun p => ρ p.1) s'.hp) = r.ren ρ ∧ hpLe ρ s'.hp 16 ho ∧ rhoInj ρ ho = true) → a'.defers = [] ∧ ∃ v, (results fn a'.tmps).run P w' = .ok v w' ∧
  ∃ v' ι' dom' im', Ending.returned v = .returned v' ∧ HInv ⟨0, w, fun _ => False, im, 0, _root_.id⟩ ho ι' dom' im' w' ∧ RepS ⟨ι', dom', im', w'⟩ r v' ∧ ∀ o, dom' o → o < 16 := by
  intro h0 h1
  refine ⟨by rw [hdf.2, h0]; rfl, ?_⟩
  obtain ⟨xs, v, ⟨ρ, h2, hle, hinj⟩, h3, h4⟩ := results_run (P := P) hi hfr h1
  have hF : HInv E (HP.drop (ho.map fun p => ρ p.1) s'.hp) ι' dom' im' w' := (hi.step (Below.refl _ _) (fun o ob hg => (HP.get_drop _ _ _ _ hg).1) (fun _ h => h) (fun o ob hg => hi.nim o ob (HP.get_drop _ _ _ _ hg).1) hi.imlt hi.imsub).1
  let im2 : Nat → Prop := fun b => im' b ∨ ∃ o ob, HP.get (HP.drop (ho.map fun p => ρ p.1) s'.hp) o = some ob ∧ ob.real ∧ ι' o = b
  have h5 := RepS.frz hF (im2 := im2) (fun b hb => .inl hb) (fun o ob hg hr => .inr ⟨o, ob, hg, hr, rfl⟩) h4
  rw [h2] at h5
  have h6 := RepS.pull hids h5
  have hle' : Cx.Le ⟨ι', dom', im', w'⟩ ⟨ι', dom', im2, w'⟩ := Cx.Le.grow ⟨ι', dom', im', w'⟩ (fun _ h => h) (fun _ _ => rfl) (fun _ h => .inl h)
  have hm : ∀ o ob, HP.get ho o = some ob → HP.get s'.hp (ρ o) = some (ob.ren ρ) ∧ ob.idsB 16 = true ∧ o < 16 := fun o ob hg => hpLe_mem hle (o, ob) (HP.get_mem hg)
  refine ⟨v, h3, v, _, _, _, rfl, ⟨fun o ob hg => ?_, fun o ob hg => ?_, fun o ob hg hr => ?_, fun o ob hg hr => ?_, fun o o' ob ob' hg hg' hr hr' he => ?_, fun o ob hg hr => ?_, fun b hb => ?_, fun b hb => ?_, fun b hb => .inl (hi.im0 b hb), hi.ext, hi.size, hi.os, hi.tape, hi.output, hi.sh, fun o ho => absurd ho (Nat.not_lt_zero o)⟩, h6, fun o h => h.2⟩
  · obtain ⟨k1, k2, k3⟩ := hm o ob hg
    exact Owns.pull (C := ⟨ι', dom', im2, w'⟩) k2 ((hi.own _ _ k1).mono hle' (fun _ => rfl))
  · obtain ⟨k1, k2, k3⟩ := hm o ob hg
    exact ⟨hi.dm _ _ k1, k3⟩
  · obtain ⟨k1, k2, k3⟩ := hm o ob hg
    exact hi.lt _ _ k1 ((real_ren ρ ob).2 hr)
  · obtain ⟨k1, k2, k3⟩ := hm o ob hg
    rintro (h | ⟨o', ob', l1, l2, l3⟩)
    · exact hi.nim _ _ k1 ((real_ren ρ ob).2 hr) h
    · obtain ⟨m1, m2⟩ := HP.get_drop _ _ _ _ l1
      have := hi.inj _ _ _ _ m1 k1 l2 ((real_ren ρ ob).2 hr) l3
      subst this
      have hc : (ho.map fun p => ρ p.1).contains (ρ o) = true := by
       rw [List.contains_iff_mem]
       exact List.mem_map.2 ⟨(o, ob), HP.get_mem hg, rfl⟩
      rw [hc] at m2; cases m2
  · obtain ⟨k1, k2, k3⟩ := hm o ob hg
    obtain ⟨l1, l2, l3⟩ := hm o' ob' hg'
    have hρ := hi.inj _ _ _ _ k1 l1 ((real_ren ρ ob).2 hr) ((real_ren ρ ob').2 hr') he
    have := List.all_eq_true.1 (List.all_eq_true.1 hinj (o, ob) (HP.get_mem hg)) (o', ob') (HP.get_mem hg')
    simpa [hρ] using this
  · obtain ⟨k1, k2, k3⟩ := hm o ob hg
    exact hi.loc _ _ k1 ((real_ren ρ ob).2 hr)
  · rcases hb with h | ⟨o, ob, l1, l2, rfl⟩
    · exact hi.imlt b h
    · exact hi.lt o ob (HP.get_drop _ _ _ _ l1).1 l2
  · rcases hb with h | ⟨o, ob, l1, l2, rfl⟩
    · exact hi.imsub b h
    · exact .inr (hi.loc o ob (HP.get_drop _ _ _ _ l1).1 l2)
 cases e <;> first
  | exact hk.elim
  | exact fin hk.1 hk.2
theorem eff_of_tr {P : Program} {f : FuncId} {fn : Func} {c : Code} {args : List AV} {r : AV} {n : Nat} {hin ho : HP} (hf : P.funcs[f]? = some fn) (hb : fn.body = some c) (hN : args.length ≤ fn.ntmps) (hids : r.idsB (n + 16) = true)
 (h : ∀ E : Env, E.N = fn.ntmps → E.pn = n → Tr P none E c ⟨frOf 0 args, hin, n, []⟩ (endK P fn.results.toList fun xs hp => ∃ ρ : Nat → Nat, (mkR xs).frz (HP.drop (ho.map fun p => ρ p.1) hp) = r.ren ρ ∧ hpLe ρ hp (n + 16) ho ∧ rhoInj ρ ho = true ∧ ∀ o, o < n → ρ o = o)) : Eff P f args n hin r ho := by
 intro ι0 im w vals hI0 hv
 have hlen := hv.length_eq
 let own0 : Nat → Prop := fun b => ∃ o ob, HP.get hin o = some ob ∧ ob.real ∧ ι0 o = b
 let E : Env := ⟨fn.ntmps, w, own0, im, n, ι0⟩
 refine callsIn_of_wp hf hb trivial ?_
 have hsz : (vals.toArray ++ Array.replicate (fn.ntmps - vals.toArray.size) undef).size = fn.ntmps := by simp; omega
 have habs : Abs E ⟨frOf 0 args, hin, n, []⟩ { tmps := vals.toArray ++ Array.replicate (fn.ntmps - vals.toArray.size) undef, defers := [] } w := by
  refine ⟨ι0, fun o => o < n, im, fun _ h => h, ⟨hI0.own, hI0.dm, hI0.lt, hI0.nim, hI0.inj, hI0.loc, hI0.imlt, hI0.imsub, hI0.im0, hI0.ext, hI0.size, hI0.os, hI0.tape, hI0.output, hI0.sh, hI0.pin⟩,
   ⟨hsz, fun t => ?_⟩, (fun o ho => by cases ho), rfl⟩
  rw [frOf_get]
  simp only [Nat.zero_le, if_true, Nat.sub_zero]
  have := RepVs.getD hv t
  have e : (vals.toArray ++ Array.replicate (fn.ntmps - vals.toArray.size) undef).getD t undef = (vals[t]?).getD undef := by
   simp only [Array.getD_eq_getD_getElem?, Array.getElem?_append, List.size_toArray, List.getElem?_toArray]
   split
   · rfl
   · rename_i hge
     rw [List.getElem?_eq_none (by omega)]
     simp [Array.getElem?_replicate]
     split <;> rfl
  rw [e]
  exact this
 refine wpIn_mono (h E rfl rfl _ _ habs) ?_
 rintro e a' w' ⟨s', hk, ι', dom', im', _, hi, hfr, hdf⟩
 have fin : s'.df = [] → resultsK P s' fn.results.toList (fun xs => ∃ ρ : Nat → Nat, (mkR xs).frz (HP.drop (ho.map fun p => ρ p.1) s'.hp) = r.ren ρ ∧ hpLe ρ s'.hp (n + 16) ho ∧ rhoInj ρ ho = true ∧ ∀ o, o < n → ρ o = o) → a'.defers = [] ∧ ∃ v, (results fn a'.tmps).run P w' = .ok v w' ∧
  ∃ v' ι' dom' im', Ending.returned v = .returned v' ∧ HInv ⟨0, w, own0, im, n, ι0⟩ ho ι' dom' im' w' ∧ RepS ⟨ι', dom', im', w'⟩ r v' ∧ ∀ o, dom' o → o < n + 16 := by
  intro h0 h1
  refine ⟨by rw [hdf.2, h0]; rfl, ?_⟩
  obtain ⟨xs, v, ⟨ρ, h2, hle, hinj, hpρ⟩, h3, h4⟩ := results_run (P := P) hi hfr h1
  have hF : HInv E (HP.drop (ho.map fun p => ρ p.1) s'.hp) ι' dom' im' w' := (hi.step (Below.refl _ _) (fun o ob hg => (HP.get_drop _ _ _ _ hg).1) (fun _ h => h) (fun o ob hg => hi.nim o ob (HP.get_drop _ _ _ _ hg).1) hi.imlt hi.imsub).1
  let im2 : Nat → Prop := fun b => im' b ∨ ∃ o ob, HP.get (HP.drop (ho.map fun p => ρ p.1) s'.hp) o = some ob ∧ ob.real ∧ ι' o = b
  have h5 := RepS.frz hF (im2 := im2) (fun b hb => .inl hb) (fun o ob hg hr => .inr ⟨o, ob, hg, hr, rfl⟩) h4
  rw [h2] at h5
  have h6 := RepS.pull hids h5
  have hle' : Cx.Le ⟨ι', dom', im', w'⟩ ⟨ι', dom', im2, w'⟩ := Cx.Le.grow ⟨ι', dom', im', w'⟩ (fun _ h => h) (fun _ _ => rfl) (fun _ h => .inl h)
  have hm : ∀ o ob, HP.get ho o = some ob → HP.get s'.hp (ρ o) = some (ob.ren ρ) ∧ ob.idsB (n + 16) = true ∧ o < n + 16 := fun o ob hg => hpLe_mem hle (o, ob) (HP.get_mem hg)
  refine ⟨v, h3, v, _, _, _, rfl, ⟨fun o ob hg => ?_, fun o ob hg => ?_, fun o ob hg hr => ?_, fun o ob hg hr => ?_, fun o o' ob ob' hg hg' hr hr' he => ?_, fun o ob hg hr => ?_, fun b hb => ?_, fun b hb => ?_, fun b hb => .inl (hi.im0 b hb), hi.ext, hi.size, hi.os, hi.tape, hi.output, hi.sh, fun o ho => ⟨⟨by rw [hpρ o ho]; exact (hi.pin o ho).1, Nat.lt_of_lt_of_le ho (Nat.le_add_right n 16)⟩, by show ι' (ρ o) = _; rw [hpρ o ho]; exact (hi.pin o ho).2⟩⟩, h6, fun o h => h.2⟩
  · obtain ⟨k1, k2, k3⟩ := hm o ob hg
    exact Owns.pull (C := ⟨ι', dom', im2, w'⟩) k2 ((hi.own _ _ k1).mono hle' (fun _ => rfl))
  · obtain ⟨k1, k2, k3⟩ := hm o ob hg
    exact ⟨hi.dm _ _ k1, k3⟩
  · obtain ⟨k1, k2, k3⟩ := hm o ob hg
    exact hi.lt _ _ k1 ((real_ren ρ ob).2 hr)
  · obtain ⟨k1, k2, k3⟩ := hm o ob hg
    rintro (h | ⟨o', ob', l1, l2, l3⟩)
    · exact hi.nim _ _ k1 ((real_ren ρ ob).2 hr) h
    · obtain ⟨m1, m2⟩ := HP.get_drop _ _ _ _ l1
      have := hi.inj _ _ _ _ m1 k1 l2 ((real_ren ρ ob).2 hr) l3
      subst this
      have hc : (ho.map fun p => ρ p.1).contains (ρ o) = true := by
       rw [List.contains_iff_mem]
       exact List.mem_map.2 ⟨(o, ob), HP.get_mem hg, rfl⟩
      rw [hc] at m2; cases m2
  · obtain ⟨k1, k2, k3⟩ := hm o ob hg
    obtain ⟨l1, l2, l3⟩ := hm o' ob' hg'
    have hρ := hi.inj _ _ _ _ k1 l1 ((real_ren ρ ob).2 hr) ((real_ren ρ ob').2 hr') he
    have := List.all_eq_true.1 (List.all_eq_true.1 hinj (o, ob) (HP.get_mem hg)) (o', ob') (HP.get_mem hg')
    simpa [hρ] using this
  · obtain ⟨k1, k2, k3⟩ := hm o ob hg
    exact hi.loc _ _ k1 ((real_ren ρ ob).2 hr)
  · rcases hb with h | ⟨o, ob, l1, l2, rfl⟩
    · exact hi.imlt b h
    · exact hi.lt o ob (HP.get_drop _ _ _ _ l1).1 l2
  · rcases hb with h | ⟨o, ob, l1, l2, rfl⟩
    · exact hi.imsub b h
    · exact .inr (hi.loc o ob (HP.get_drop _ _ _ _ l1).1 l2)
 cases e <;> first
  | exact hk.elim
  | exact fin hk.1 hk.2
theorem FR.get_cons_eq (t : Nat) (x : AV) (fr : FR) : FR.get ((t, x) :: fr) t = x := by rw [FR.get_cons]; simp
theorem FR.get_cons_ne (t u : Nat) (x : AV) (fr : FR) (h : (t == u) = false) : FR.get ((t, x) :: fr) u = FR.get fr u := by
 rw [FR.get_cons]
 have : t ≠ u := by simpa using h
 simp [this]
theorem sub_nil (x : AV) : x.sub [] = some x := by cases x <;> rfl
theorem ok_bool (b : Bool) : (AV.bool b).ok = true := rfl
theorem ok_int (k : IntKind) (n : Int) : (AV.int k n).ok = true := rfl
theorem ok_str (s : ByteArray) : (AV.str s).ok = true := rfl
theorem ok_root (r : Root) : (AV.root r).ok = true := rfl
theorem ok_st (fs : List AV) : (AV.st fs).ok = true := rfl
theorem ok_arr (xs : List AV) : (AV.arr xs).ok = true := rfl
theorem ok_sl (xs : List AV) (c : Bool) : (AV.sl xs c).ok = true := rfl
theorem ok_ms (o sz n : Nat) : (AV.ms o sz n).ok = true := rfl
theorem ok_ref (x : AV) : (AV.ref x).ok = true := rfl
theorem ok_ptr (o : Nat) (p : List Nat) (off : Nat) : (AV.ptr o p off).ok = true := rfl
theorem ok_nilp  : (AV.nilp).ok = true := rfl
theorem ok_mp (o : Nat) : (AV.mp o).ok = true := rfl
theorem ok_fn (f : Fn) (a b : List AV) : (AV.fn f a b).ok = true := rfl
theorem ok_nilf  : (AV.nilf).ok = true := rfl
theorem ok_tup (xs : List AV) : (AV.tup xs).ok = false := rfl
theorem ok_raw (v : Value) : (AV.raw v).ok = false := rfl
theorem agg_bool (b : Bool) : (AV.bool b).agg = false := rfl
theorem agg_int (k : IntKind) (n : Int) : (AV.int k n).agg = false := rfl
theorem agg_str (s : ByteArray) : (AV.str s).agg = false := rfl
theorem agg_root (r : Root) : (AV.root r).agg = true := rfl
theorem agg_st (fs : List AV) : (AV.st fs).agg = true := rfl
theorem agg_arr (xs : List AV) : (AV.arr xs).agg = true := rfl
theorem agg_sl (xs : List AV) (c : Bool) : (AV.sl xs c).agg = false := rfl
theorem agg_ms (o sz n : Nat) : (AV.ms o sz n).agg = false := rfl
theorem agg_ref (x : AV) : (AV.ref x).agg = false := rfl
theorem agg_ptr (o : Nat) (p : List Nat) (off : Nat) : (AV.ptr o p off).agg = false := rfl
theorem agg_nilp  : (AV.nilp).agg = false := rfl
theorem agg_mp (o : Nat) : (AV.mp o).agg = false := rfl
theorem agg_fn (f : Fn) (a b : List AV) : (AV.fn f a b).agg = false := rfl
theorem agg_nilf  : (AV.nilf).agg = false := rfl
theorem agg_tup (xs : List AV) : (AV.tup xs).agg = false := rfl
theorem agg_raw (v : Value) : (AV.raw v).agg = false := rfl
theorem len_bool (b : Bool) : (AV.bool b).len = 1 := rfl
theorem len_int (k : IntKind) (n : Int) : (AV.int k n).len = 1 := rfl
theorem len_str (s : ByteArray) : (AV.str s).len = 1 := rfl
theorem len_root (r : Root) : (AV.root r).len = 32 := rfl
theorem len_st (fs : List AV) : (AV.st fs).len = AV.lens fs := rfl
theorem len_arr (xs : List AV) : (AV.arr xs).len = AV.lens xs := rfl
theorem len_sl (xs : List AV) (c : Bool) : (AV.sl xs c).len = 1 := rfl
theorem len_ms (o sz n : Nat) : (AV.ms o sz n).len = 1 := rfl
theorem len_ref (x : AV) : (AV.ref x).len = 1 := rfl
theorem len_ptr (o : Nat) (p : List Nat) (off : Nat) : (AV.ptr o p off).len = 1 := rfl
theorem len_nilp  : (AV.nilp).len = 1 := rfl
theorem len_mp (o : Nat) : (AV.mp o).len = 1 := rfl
theorem len_fn (f : Fn) (a b : List AV) : (AV.fn f a b).len = 1 := rfl
theorem len_nilf  : (AV.nilf).len = 1 := rfl
theorem len_tup (xs : List AV) : (AV.tup xs).len = 1 := rfl
theorem len_raw (v : Value) : (AV.raw v).len = 1 := rfl
theorem idf_bool (b : Bool) : (AV.bool b).idf = true := rfl
theorem idf_int (k : IntKind) (n : Int) : (AV.int k n).idf = true := rfl
theorem idf_str (s : ByteArray) : (AV.str s).idf = true := rfl
theorem idf_root (r : Root) : (AV.root r).idf = true := rfl
theorem idf_st (fs : List AV) : (AV.st fs).idf = AV.idfL fs := rfl
theorem idf_arr (xs : List AV) : (AV.arr xs).idf = AV.idfL xs := rfl
theorem idf_sl (xs : List AV) (c : Bool) : (AV.sl xs c).idf = true := rfl
theorem idf_ms (o sz n : Nat) : (AV.ms o sz n).idf = false := rfl
theorem idf_ref (x : AV) : (AV.ref x).idf = true := rfl
theorem idf_ptr (o : Nat) (p : List Nat) (off : Nat) : (AV.ptr o p off).idf = false := rfl
theorem idf_nilp  : (AV.nilp).idf = true := rfl
theorem idf_mp (o : Nat) : (AV.mp o).idf = false := rfl
theorem idf_fn (f : Fn) (a b : List AV) : (AV.fn f a b).idf = (AV.idfL a && AV.idfL b) := rfl
theorem idf_nilf  : (AV.nilf).idf = true := rfl
theorem idf_tup (xs : List AV) : (AV.tup xs).idf = AV.idfL xs := rfl
theorem idf_raw (v : Value) : (AV.raw v).idf = true := rfl
theorem flat_bool (b : Bool) : (AV.bool b).flat = true := rfl
theorem flat_int (k : IntKind) (n : Int) : (AV.int k n).flat = true := rfl
theorem flat_str (s : ByteArray) : (AV.str s).flat = true := rfl
theorem flat_root (r : Root) : (AV.root r).flat = true := rfl
theorem flat_st (fs : List AV) : (AV.st fs).flat = AV.flatL fs := rfl
theorem flat_arr (xs : List AV) : (AV.arr xs).flat = AV.flatL xs := rfl
theorem flat_sl (xs : List AV) (c : Bool) : (AV.sl xs c).flat = false := rfl
theorem flat_ms (o sz n : Nat) : (AV.ms o sz n).flat = false := rfl
theorem flat_ref (x : AV) : (AV.ref x).flat = false := rfl
theorem flat_ptr (o : Nat) (p : List Nat) (off : Nat) : (AV.ptr o p off).flat = false := rfl
theorem flat_nilp  : (AV.nilp).flat = true := rfl
theorem flat_mp (o : Nat) : (AV.mp o).flat = false := rfl
theorem flat_fn (f : Fn) (a b : List AV) : (AV.fn f a b).flat = false := rfl
theorem flat_nilf  : (AV.nilf).flat = true := rfl
theorem flat_tup (xs : List AV) : (AV.tup xs).flat = AV.flatL xs := rfl
theorem flat_raw (v : Value) : (AV.raw v).flat = false := rfl
theorem idfT_tup (xs : List AV) : (AV.tup xs).idfT = AV.idfL xs := rfl
theorem bin_add (P : Program) (t : TypeId) (k : IntKind) (a b : Int) (K : AV → Prop) : binK P .add t (.int k a) (.int k b) K = K (.int k (k.wrap (a + b))) := propext ⟨fun h => h.2, fun h => ⟨rfl, h⟩⟩
theorem bin_sub (P : Program) (t : TypeId) (k : IntKind) (a b : Int) (K : AV → Prop) : binK P .sub t (.int k a) (.int k b) K = K (.int k (k.wrap (a - b))) := propext ⟨fun h => h.2, fun h => ⟨rfl, h⟩⟩
theorem bin_mul (P : Program) (t : TypeId) (k : IntKind) (a b : Int) (K : AV → Prop) : binK P .mul t (.int k a) (.int k b) K = K (.int k (k.wrap (a * b))) := propext ⟨fun h => h.2, fun h => ⟨rfl, h⟩⟩
theorem bin_and (P : Program) (t : TypeId) (k : IntKind) (a b : Int) (K : AV → Prop) : binK P .and t (.int k a) (.int k b) K = K (.int k (bitsI .and k a b)) := propext ⟨fun h => h.2, fun h => ⟨rfl, h⟩⟩
theorem bin_or (P : Program) (t : TypeId) (k : IntKind) (a b : Int) (K : AV → Prop) : binK P .or t (.int k a) (.int k b) K = K (.int k (bitsI .or k a b)) := propext ⟨fun h => h.2, fun h => ⟨rfl, h⟩⟩
theorem bin_xor (P : Program) (t : TypeId) (k : IntKind) (a b : Int) (K : AV → Prop) : binK P .xor t (.int k a) (.int k b) K = K (.int k (bitsI .xor k a b)) := propext ⟨fun h => h.2, fun h => ⟨rfl, h⟩⟩
theorem bin_andNot (P : Program) (t : TypeId) (k : IntKind) (a b : Int) (K : AV → Prop) : binK P .andNot t (.int k a) (.int k b) K = K (.int k (bitsI .andNot k a b)) := propext ⟨fun h => h.2, fun h => ⟨rfl, h⟩⟩
theorem bin_eql (P : Program) (t : TypeId) (k : IntKind) (a b : Int) (K : AV → Prop) : binK P .eql t (.int k a) (.int k b) K = K (.bool (a == b)) := propext ⟨fun h => h.2, fun h => ⟨rfl, h⟩⟩
theorem bin_neq (P : Program) (t : TypeId) (k : IntKind) (a b : Int) (K : AV → Prop) : binK P .neq t (.int k a) (.int k b) K = K (.bool (a != b)) := propext ⟨fun h => h.2, fun h => ⟨rfl, h⟩⟩
theorem bin_lss (P : Program) (t : TypeId) (k : IntKind) (a b : Int) (K : AV → Prop) : binK P .lss t (.int k a) (.int k b) K = K (.bool (decide (a < b))) := propext ⟨fun h => h.2, fun h => ⟨rfl, h⟩⟩
theorem bin_leq (P : Program) (t : TypeId) (k : IntKind) (a b : Int) (K : AV → Prop) : binK P .leq t (.int k a) (.int k b) K = K (.bool (decide (a ≤ b))) := propext ⟨fun h => h.2, fun h => ⟨rfl, h⟩⟩
theorem bin_gtr (P : Program) (t : TypeId) (k : IntKind) (a b : Int) (K : AV → Prop) : binK P .gtr t (.int k a) (.int k b) K = K (.bool (decide (b < a))) := propext ⟨fun h => h.2, fun h => ⟨rfl, h⟩⟩
theorem bin_geq (P : Program) (t : TypeId) (k : IntKind) (a b : Int) (K : AV → Prop) : binK P .geq t (.int k a) (.int k b) K = K (.bool (decide (b ≤ a))) := propext ⟨fun h => h.2, fun h => ⟨rfl, h⟩⟩
theorem bin_shl (P : Program) (t : TypeId) (k k' : IntKind) (a b : Int) (K : AV → Prop) : binK P .shl t (.int k a) (.int k' b) K = (0 ≤ b ∧ K (.int k (k.wrap (a * 2 ^ (min b.toNat k.bits))))) := rfl
theorem bin_shr (P : Program) (t : TypeId) (k k' : IntKind) (a b : Int) (K : AV → Prop) : binK P .shr t (.int k a) (.int k' b) K = (0 ≤ b ∧ K (.int k (a.fdiv (2 ^ (min b.toNat k.bits))))) := rfl
theorem bin_quo (P : Program) (t : TypeId) (k : IntKind) (a b : Int) (K : AV → Prop) : binK P .quo t (.int k a) (.int k b) K = (b ≠ 0 ∧ K (.int k (k.wrap (a.tdiv b)))) := propext ⟨fun h => h.2, fun h => ⟨rfl, h⟩⟩
theorem bin_rem (P : Program) (t : TypeId) (k : IntKind) (a b : Int) (K : AV → Prop) : binK P .rem t (.int k a) (.int k b) K = (b ≠ 0 ∧ K (.int k (a.tmod b))) := propext ⟨fun h => h.2, fun h => ⟨rfl, h⟩⟩
theorem bin_str_eql (P : Program) (t : TypeId) (a b : ByteArray) (K : AV → Prop) : binK P .eql t (.str a) (.str b) K = K (.bool (a.toList == b.toList)) := rfl
theorem bin_str_neq (P : Program) (t : TypeId) (a b : ByteArray) (K : AV → Prop) : binK P .neq t (.str a) (.str b) K = K (.bool !(a.toList == b.toList)) := rfl
theorem bin_eql_of {P : Program} {t : TypeId} {x y : AV} {e : Bool} (hx : ∀ k n, x ≠ .int k n) (hs : ∀ s, x ≠ .str s) (h1 : fits P x t = true) (h2 : fits P y t = true) (h3 : x.depth ≤ 9999) (h4 : P.eqGuardType P.depth t = false) (he : x.eqb y = e) (K : AV → Prop) (ha : ∀ xs, x ≠ .arr xs := by intro _ h; cases h) :
 binK P .eql t x y K = K (.bool e) := by
 subst he
 unfold binK
 split
 · exact absurd rfl (hx _ _)
 · exact absurd rfl (hs _)
 · exact absurd rfl (ha _)
 · exact propext ⟨fun h => h.2.2.2.2, fun h => ⟨h1, h2, h3, h4, h⟩⟩
theorem bin_neq_of {P : Program} {t : TypeId} {x y : AV} {e : Bool} (hx : ∀ k n, x ≠ .int k n) (hs : ∀ s, x ≠ .str s) (h1 : fits P x t = true) (h2 : fits P y t = true) (h3 : x.depth ≤ 9999) (h4 : P.eqGuardType P.depth t = false) (he : x.eqb y = e) (K : AV → Prop) (ha : ∀ xs, x ≠ .arr xs := by intro _ h; cases h) :
 binK P .neq t x y K = K (.bool !e) := by
 subst he
 unfold binK
 split
 · exact absurd rfl (hx _ _)
 · exact absurd rfl (hs _)
 · exact absurd rfl (ha _)
 · exact propext ⟨fun h => h.2.2.2.2, fun h => ⟨h1, h2, h3, h4, h⟩⟩
attribute [go_sem] bin_add bin_sub bin_mul bin_and bin_or bin_xor bin_andNot bin_eql bin_neq bin_lss bin_leq bin_gtr bin_geq bin_shl bin_shr bin_quo bin_rem bin_str_eql bin_str_neq
theorem keep_nil (D : List Nat) : HP.keep D [] = [] := rfl
theorem keep_cons (D : List Nat) (p : Nat × AO) (hp : HP) : HP.keep D (p :: hp) = if D.contains p.1 = true then p :: HP.keep D hp else HP.keep D hp := by
 simp only [HP.keep, List.filter_cons]
theorem drop_nil (D : List Nat) : HP.drop D [] = [] := rfl
theorem drop_cons (D : List Nat) (p : Nat × AO) (hp : HP) : HP.drop D (p :: hp) = if D.contains p.1 = true then HP.drop D hp else p :: HP.drop D hp := by
 simp only [HP.drop, List.filter_cons]
 cases D.contains p.1 <;> simp
theorem shift_nil (id : Nat) : shiftH id [] = [] := rfl
theorem shift_cons (id : Nat) (p : Nat × AO) (ho : HP) : shiftH id (p :: ho) = (id + p.1, p.2.ren (id + ·)) :: shiftH id ho := rfl
theorem ren_row (ρ : Nat → Nat) (sz : Nat) (xs : List AV) : (AO.row sz xs).ren ρ = .row sz xs := rfl
theorem ren_var (ρ : Nat → Nat) (x : AV) : (AO.var x).ren ρ = .var (x.ren ρ) := rfl
structure MO where
 dst : Option Tmp
 op : Op
 g : Option (Option Nat × Bool)
def mo (ops : Array Oper) (o : Oper) : MO := ⟨o.dst, o.op, o.guard.map fun p => (guardSlot ops p.1, p.2)⟩
def opO (op : Op) : Oper := { dst := none, op := op, type := 0, pos := "", after := #[], guard := none }
theorem opK_op {P : Program} {CK : CallK} {o o' : Oper} (h : o.op = o'.op) (id : Nat) (g : Operand → AV) (hp : HP) (K : AV → HP → Prop) : opK P CK o id g hp K = opK P CK o' id g hp K := by
 unfold opK; rw [h]
def vcM (P : Program) (CK : CallK) : List MO → S → (S → Prop) → Prop
 | [], s, K => K s
 | m :: rest, s, K =>
   match m.g with
   | none => (opK P CK (opO m.op) s.nx s.ev s.hp fun v hp' => vcM P CK rest ({ s with hp := hp', nx := s.nx + 16 }.put m.dst v) K) ∨ (extOp P (opO m.op) s.ev s.hp fun v hp' => vcM P CK rest ({ s with hp := hp', nx := s.nx + 16 }.put m.dst v) K)
   | some (some d, want) => match s.fr.get d with
    | .bool b =>
      (b = want → opK P CK (opO m.op) s.nx (s.put (some d) (.bool want)).ev s.hp fun v hp' => vcM P CK rest (({ s with hp := hp', nx := s.nx + 16 }.put (some d) (.bool want)).put m.dst v) K) ∧
      (b = !want → vcM P CK rest ((s.put (some d) (.bool !want)).put m.dst (.tup [])) K)
    | .tup [] => vcM P CK rest (s.put m.dst (.tup [])) K
    | _ => False
   | some (none, _) => False
theorem vcM_sound {P : Program} {CK : CallK} (hC : CKok P CK) {ops : Array Oper} {K : S → Prop} : ∀ (l : List Oper) (s : S), vcM P CK (l.map (mo ops)) s K → vcOps P CK ops l s K
 | [], _, h => h
 | o :: l, s, h => by
   simp only [List.map_cons, vcM, mo] at h
   cases hg : o.guard with
   | none =>
     simp only [hg, Option.map_none] at h
     rw [opK_op (o := opO o.op) (o' := o) rfl] at h
     simp only [vcOps, hg]
     rcases h with h | ⟨c, f, fid, first, cap, r, h1, h2, h3, h4, h5, h6⟩
     · exact .inl (opK_mono hC (fun v hp' k => vcM_sound hC l _ k) h)
     · exact .inr ⟨c, f, fid, first, cap, r, h1, h2, h3, h4, h5, vcM_sound hC l _ h6⟩
   | some p =>
     obtain ⟨j, want⟩ := p
     simp only [hg, Option.map_some] at h
     cases hs : guardSlot ops j with
     | none => simp only [hs] at h
     | some d =>
       simp only [hs] at h
       split at h
       · rename_i b hb
         simp only [vcOps, hg, hs, hb]
         refine ⟨fun e => ?_, fun e => vcM_sound hC l _ (h.2 e)⟩
         have h := h.1 e
         rw [opK_op (o := opO o.op) (o' := o) rfl] at h
         exact opK_mono hC (fun v hp' k => vcM_sound hC l _ k) h
       · rename_i hb
         simp only [vcOps, hg, hs, hb]
         exact vcM_sound hC l _ h
       · exact h.elim
section
variable {P : Program} {CK : CallK} {E : Env} {ro : Option Nat} {s s' : S} {K : S → Prop} {rest : List MO} {dst : Option Tmp} {op : Op}
theorem vm_op (h : ∀ r, r = rest → opK P CK (opO op) s.nx s.ev s.hp fun v hp' => vcM P CK r ({ s with hp := hp', nx := s.nx + 16 }.put dst v) K) : vcM P CK (⟨dst, op, none⟩ :: rest) s K := .inl (h rest rfl)
theorem vm_ext {c : Call} {f : Operand} {fid : FuncId} {first cap xs : List AV} {v : AV} (hx : extR P fid xs v) (hop : op = .call c) (hc : c.callee = .value f) (hf : s.ev f = .fn (.func fid) first cap) (ha : first ++ c.args.toList.map s.ev ++ cap = xs) (hok : xs.all AV.ok = true)
 (h : ∀ r, r = rest → vcM P CK r ({ s with hp := s.hp, nx := s.nx + 16 }.put dst v) K) : vcM P CK (⟨dst, op, none⟩ :: rest) s K :=
 .inr ⟨c, f, fid, first, cap, v, hop, hc, hf, by rw [ha]; exact hok, by rw [ha]; exact hx, h rest rfl⟩
theorem vm_if {d : Nat} {want : Bool} (hb : s.fr.get d = .bool want) (h : ∀ r, r = rest → opK P CK (opO op) s.nx (s.put (some d) (.bool want)).ev s.hp fun v hp' => vcM P CK r (({ s with hp := hp', nx := s.nx + 16 }.put (some d) (.bool want)).put dst v) K) :
 vcM P CK (⟨dst, op, some (some d, want)⟩ :: rest) s K := by
 simp only [vcM, hb]; exact ⟨fun _ => h rest rfl, fun e => (by cases want <;> cases e)⟩
theorem vm_no {d : Nat} {want : Bool} (hb : s.fr.get d = .bool (!want)) (h : ∀ r, r = rest → vcM P CK r ((s.put (some d) (.bool !want)).put dst (.tup [])) K) : vcM P CK (⟨dst, op, some (some d, want)⟩ :: rest) s K := by
 simp only [vcM, hb]; exact ⟨fun e => (by cases want <;> cases e), fun _ => h rest rfl⟩
theorem vm_skip {d : Nat} {want : Bool} (hb : s.fr.get d = .tup []) (h : ∀ r, r = rest → vcM P CK r (s.put dst (.tup [])) K) : vcM P CK (⟨dst, op, some (some d, want)⟩ :: rest) s K := by
 simp only [vcM, hb]; exact h rest rfl
theorem tr_m {id : Nat} {ops : Array Oper} {y : Code} {K : Exit → S → Prop} (hd : dstOK E.N ops = true) (h : ∀ Q : S → Prop, Q s' → vcM P (pureK P) (ops.toList.map (mo ops)) s Q) (k : Tr P ro E y s' K) : Tr P ro E (.seq (.region id ops false) y) s K :=
 Tr.seq (Tr.region (pureK_ok P).sound hd (vcM_sound (pureK_ok P) _ _ (h _ k)))
end
def opD0 (P : Program) (CK : CallK) (hpD : HP) (D : List Nat) (o : Oper) (id : Nat) (g : Operand → AV) (hp : HP) (K : AV → HP → Prop) : Prop :=
 if quietOp o then opK P CK o id g hpD fun v _ => K v hp else opK P CK o id g hp fun v hp' => HP.keep D hp' = hpD ∧ K v hp'
theorem opD_op {P : Program} {CK : CallK} (hC : CKok P CK) {ops : Array Oper} {hpD : HP} {D : List Nat} {o o' : Oper} (h : o.op = o'.op) {id : Nat} {g : Operand → AV} {hp : HP} {K : AV → HP → Prop} (k : opD0 P CK hpD D o id g hp K) : opD P CK [] [] ops hpD D o' id g hp K := by
 have hq' : quietOp o = quietOp o' := by unfold quietOp; rw [h]
 unfold opD0 at k
 unfold opD
 rw [hq'] at k
 simp only [opK_op h] at k
 split
 · rename_i hq
   rw [if_pos hq] at k
   exact k
 · rename_i hq
   rw [if_neg hq] at k
   rw [if_neg (by rw [zcall_nil]; exact Bool.false_ne_true)]
   exact opK_mono hC (fun _ _ q => ⟨.inr q.1, q.2⟩) k
def vcMD (P : Program) (CK : CallK) (hpD : HP) (D : List Nat) (nx : Nat) : List MO → Nat → S → (S → Prop) → Prop
 | [], k, s, K => K { s with nx := nx + 16 * k }
 | m :: rest, k, s, K =>
   match m.g with
   | none => opD0 P CK hpD D (opO m.op) (nx + 16 * k) s.evD s.hp fun v hp' => vcMD P CK hpD D nx rest (k + 1) ({ s with hp := hp' }.put m.dst v) K
   | some (some d, want) => match s.fr.get d with
    | .bool b =>
      (b = want → opD0 P CK hpD D (opO m.op) (nx + 16 * k) (s.put (some d) (.bool want)).evD s.hp fun v hp' => vcMD P CK hpD D nx rest (k + 1) (({ s with hp := hp' }.put (some d) (.bool want)).put m.dst v) K) ∧
      (b = !want → vcMD P CK hpD D nx rest (k + 1) ((s.put (some d) (.bool !want)).put m.dst (.tup [])) K)
    | .tup [] => vcMD P CK hpD D nx rest (k + 1) (s.put m.dst (.tup [])) K
    | _ => False
   | some (none, _) => False
theorem vcMD_sound {P : Program} {CK : CallK} (hC : CKok P CK) {ops : Array Oper} {K : S → Prop} {hpD : HP} {D : List Nat} {nx : Nat} : ∀ (l : List Oper) (k : Nat) (s : S), vcMD P CK hpD D nx (l.map (mo ops)) k s K → vcOpsD P CK [] [] ops hpD D nx l k s K
 | [], _, _, h => h
 | o :: l, k, s, h => by
   simp only [List.map_cons, vcMD, mo] at h
   cases hg : o.guard with
   | none =>
     simp only [hg, Option.map_none] at h
     simp only [vcOpsD, hg]
     exact opD_mono hC (fun v hp' q => vcMD_sound hC l _ _ q) (opD_op (o := opO o.op) (o' := o) hC rfl h)
   | some p =>
     obtain ⟨j, want⟩ := p
     simp only [hg, Option.map_some] at h
     cases hs : guardSlot ops j with
     | none => simp only [hs] at h
     | some d =>
       simp only [hs] at h
       split at h
       · rename_i b hb
         simp only [vcOpsD, hg, hs, hb]
         refine ⟨fun e => ?_, fun e => vcMD_sound hC l _ _ (h.2 e)⟩
         have h := h.1 e
         exact opD_mono hC (fun v hp' q => vcMD_sound hC l _ _ q) (opD_op (o := opO o.op) (o' := o) hC rfl h)
       · rename_i hb
         simp only [vcOpsD, hg, hs, hb]
         exact vcMD_sound hC l _ _ h
       · exact h.elim
section
variable {P : Program} {CK : CallK} {E : Env} {ro : Option Nat} {s s' : S} {K : S → Prop} {rest : List MO} {dst : Option Tmp} {op : Op} {hpD : HP} {D : List Nat} {nx k d : Nat} {want : Bool}
theorem vd2_q (hq : quietOp (opO op) = true) (h : ∀ r, r = rest → opK P CK (opO op) (nx + 16 * k) s.evD hpD fun v _ => vcMD P CK hpD D nx r (k + 1) ({ s with hp := s.hp }.put dst v) K) : vcMD P CK hpD D nx (⟨dst, op, none⟩ :: rest) k s K := by
 simp only [vcMD, opD0, hq, if_true]; exact h rest rfl
theorem vd2_x (hq : quietOp (opO op) = false) (h : ∀ r, r = rest → opK P CK (opO op) (nx + 16 * k) s.evD s.hp fun v hp' => HP.keep D hp' = hpD ∧ vcMD P CK hpD D nx r (k + 1) ({ s with hp := hp' }.put dst v) K) : vcMD P CK hpD D nx (⟨dst, op, none⟩ :: rest) k s K := by
 simp only [vcMD, opD0, hq, Bool.false_eq_true, if_false]; exact h rest rfl
theorem vd2_goq (hb : s.fr.get d = .bool want) (hq : quietOp (opO op) = true) (h : ∀ r, r = rest → opK P CK (opO op) (nx + 16 * k) (s.put (some d) (.bool want)).evD hpD fun v _ => vcMD P CK hpD D nx r (k + 1) (({ s with hp := s.hp }.put (some d) (.bool want)).put dst v) K) :
 vcMD P CK hpD D nx (⟨dst, op, some (some d, want)⟩ :: rest) k s K := by
 simp only [vcMD, hb, opD0, hq, if_true]; exact ⟨fun _ => h rest rfl, fun e => (by cases want <;> cases e)⟩
theorem vd2_gox (hb : s.fr.get d = .bool want) (hq : quietOp (opO op) = false) (h : ∀ r, r = rest → opK P CK (opO op) (nx + 16 * k) (s.put (some d) (.bool want)).evD s.hp fun v hp' => HP.keep D hp' = hpD ∧ vcMD P CK hpD D nx r (k + 1) (({ s with hp := hp' }.put (some d) (.bool want)).put dst v) K) :
 vcMD P CK hpD D nx (⟨dst, op, some (some d, want)⟩ :: rest) k s K := by
 simp only [vcMD, hb, opD0, hq, Bool.false_eq_true, if_false]; exact ⟨fun _ => h rest rfl, fun e => (by cases want <;> cases e)⟩
theorem vd2_no (hb : s.fr.get d = .bool (!want)) (h : ∀ r, r = rest → vcMD P CK hpD D nx r (k + 1) ((s.put (some d) (.bool !want)).put dst (.tup [])) K) : vcMD P CK hpD D nx (⟨dst, op, some (some d, want)⟩ :: rest) k s K := by
 simp only [vcMD, hb]; exact ⟨fun e => (by cases want <;> cases e), fun _ => h rest rfl⟩
theorem vd2_skip (hb : s.fr.get d = .tup []) (h : ∀ r, r = rest → vcMD P CK hpD D nx r (k + 1) (s.put dst (.tup [])) K) : vcMD P CK hpD D nx (⟨dst, op, some (some d, want)⟩ :: rest) k s K := by
 simp only [vcMD, hb]; exact h rest rfl
theorem tr_md (hm : P.follows .mixedOrders = true) {id : Nat} {ops : Array Oper} {y : Code} {L : Exit → S → Prop} (D : List Nat) {hpD : HP} (he : HP.keep D s.hp = hpD) (hd : dstOK E.N ops = true) (hl : lexOK ops = true)
 (h : ∀ Q : S → Prop, Q s' → vcMD P (pureK P) hpD D s.nx (ops.toList.map (mo ops)) 0 s Q) (k : Tr P ro E y s' L) : Tr P ro E (.seq (.region id ops true) y) s L := by
 subst he
 exact Tr.seq (Tr.regionD (pureK_ok P) hm D hd hl (vcMD_sound (pureK_ok P) _ _ _ (h _ k)))
theorem tr_mdl (hm : P.follows .mixedOrders = true) {id : Nat} {ops : Array Oper} {L : Exit → S → Prop} (D : List Nat) {hpD : HP} (he : HP.keep D s.hp = hpD) (hd : dstOK E.N ops = true) (hl : lexOK ops = true)
 (h : ∀ Q : S → Prop, Q s' → vcMD P (pureK P) hpD D s.nx (ops.toList.map (mo ops)) 0 s Q) (k : L .normal s') : Tr P ro E (.region id ops true) s L := by
 subst he
 exact Tr.regionD (pureK_ok P) hm D hd hl (vcMD_sound (pureK_ok P) _ _ _ (h _ k))
theorem tr_ml {id : Nat} {ops : Array Oper} {L : Exit → S → Prop} (hd : dstOK E.N ops = true) (h : ∀ Q : S → Prop, Q s' → vcM P (pureK P) (ops.toList.map (mo ops)) s Q) (k : L .normal s') : Tr P ro E (.region id ops false) s L :=
 Tr.region (pureK_ok P).sound hd (vcM_sound (pureK_ok P) _ _ (h _ k))
end
theorem sliceHK_sl {P : Program} {t : TypeId} {hp : HP} (xs : List AV) (c : Bool) (lo hi mx : Option AV) (K : AV → Prop) : sliceHK P t hp (.sl xs c) lo hi mx K = sliceK P t (.sl xs c) lo hi mx K := rfl
theorem sliceHK_ref {P : Program} {t : TypeId} {hp : HP} (x : AV) (lo hi mx : Option AV) (K : AV → Prop) : sliceHK P t hp (.ref x) lo hi mx K = sliceK P t (.ref x) lo hi mx K := rfl
theorem renH_nil (ρ : Nat → Nat) : renH ρ [] = [] := rfl
theorem renH_cons (ρ : Nat → Nat) (p : Nat × AO) (ho : HP) : renH ρ (p :: ho) = (ρ p.1, p.2.ren ρ) :: renH ρ ho := rfl
theorem sliceHK_ptr {P : Program} {t : TypeId} {hp : HP} (o : Nat) (K : AV → Prop) : sliceHK P t hp (.ptr o [] 0) none none none K = (match tArr P t, HP.get hp o with
 | some (n, e), some (.var (.root _)) => n = 32 ∧ tSize P e = some 1 ∧ K (.ms o 1 32)
 | _, _ => False) := rfl
attribute [go_sem] sliceHK_sl sliceHK_ref sliceHK_ptr Option.map_none
def fieldsOK (P : Program) (zs : List AV) (fs : Array Field) : Bool := (List.range fs.size).all fun i => match fs[i]? with
 | some f => decide (AV.lens (zs.take i) = f.offset) && decide (tSize P f.type = (zs[i]?).map AV.len)
 | none => true
theorem build_struct {P : Program} {t : TypeId} {fs : Array Field} {zs xs : List AV} {ps : List (Nat × AV)} (hu : P.underlying t = some (.struct fs)) (hz : tZero P t = some (.st zs)) (hs : fs.size = zs.length) (hf : fieldsOK P zs fs = true) (hp : setParts zs ps = some xs) (K : AV → Prop) :
 buildK P t ps K = K (.st xs) := by
 unfold buildK
 rw [hu, hz]
 simp only [hp]
 refine propext ⟨fun h => h.2.2, fun h => ⟨hs, fun i f hif => ?_, h⟩⟩
 have hlt : i < fs.size := (Array.getElem?_eq_some_iff.1 hif).1
 have := List.all_eq_true.1 hf i (List.mem_range.2 hlt)
 simp only [hif, Bool.and_eq_true, decide_eq_true_eq] at this
 exact this
theorem fieldAddr_ptr {P : Program} {t : TypeId} {f off' sz : Nat} {ag : Bool} (h : tFieldI P t f = some (off', sz, ag)) (hs : sz ≠ 0) (o : Nat) (p : List Nat) (off : Nat) (K : AV → Prop) : fieldAddrK P t (.ptr o p off) f K = K (.ptr o (p ++ [f]) (off + off')) := by
 unfold fieldAddrK
 rw [h]
 exact propext ⟨fun h => h.2, fun h => ⟨hs, h⟩⟩
theorem fieldAddr_ref {P : Program} {t : TypeId} {f off' sz : Nat} {ag : Bool} {fs : List AV} {y : AV} (h : tFieldI P t f = some (off', sz, ag)) (hs : sz ≠ 0) (hy : fs[f]? = some y) (hl : AV.lens (fs.take f) = off') (K : AV → Prop) : fieldAddrK P t (.ref (.st fs)) f K = K (.ref y) := by
 unfold fieldAddrK
 rw [h]
 simp only [hy]
 exact propext ⟨fun h => h.2.2, fun h => ⟨hs, hl, h⟩⟩
theorem take_next {α : Type} {l : List α} {i : Nat} {a : α} (h : i < l.length) (ha : l[i] = a) : l.take (i + 1) = l.take i ++ [a] := by
 rw [← ha]; simp
theorem wrap_small {n : Nat} (h : n ≤ 1000000) : IntKind.i64.wrap (n : Int) = n := wrap64_id (by omega) (by omega)
theorem wrap_next {n : Nat} (h : n < 1000000) : IntKind.i64.wrap ((n : Int) + 1) = ((n + 1 : Nat) : Int) := by
 rw [show ((n : Int) + 1) = ((n + 1 : Nat) : Int) by omega]; exact wrap_small (by omega)
theorem nth_map_lt {α : Type} (f : α → AV) (l : List α) (i : Nat) (h : i < l.length) : nth (l.map f) (i : Int) = some (f l[i]) := by
 simp [nth, h]
theorem offs_nil (x : AV) : x.offs [] = some 0 := by cases x <;> rfl
theorem upd_nil (x y : AV) : x.upd [] y = some y := by cases x <;> rfl
theorem int_beq (a b : Int) : (a == b) = decide (a = b) := rfl
theorem int_bne (a b : Int) : (a != b) = !decide (a = b) := rfl
attribute [go_sem] int_beq int_bne
attribute [go_sem] ok_bool ok_int ok_str ok_root ok_st ok_arr ok_sl ok_ms ok_ref ok_ptr ok_nilp ok_mp ok_fn ok_nilf ok_tup ok_raw agg_bool agg_int agg_str agg_root agg_st agg_arr agg_sl agg_ms agg_ref agg_ptr agg_nilp agg_mp agg_fn agg_nilf agg_tup agg_raw len_bool len_int len_str len_root len_st len_arr len_sl len_ms len_ref len_ptr len_nilp len_mp len_fn len_nilf len_tup len_raw idf_bool idf_int idf_str idf_root idf_st idf_arr idf_sl idf_ms idf_ref idf_ptr idf_nilp idf_mp idf_fn idf_nilf idf_tup idf_raw flat_bool flat_int flat_str flat_root flat_st flat_arr flat_sl flat_ms flat_ref flat_ptr flat_nilp flat_mp flat_fn flat_nilf flat_tup flat_raw idfT_tup
attribute [go_sem] List.mem_cons List.not_mem_nil or_false forall_eq forall_eq_or_imp decide_true Bool.and_true Bool.true_and Bool.and_self decide_false Bool.not_true Bool.not_false imp_false false_implies implies_true List.length_append List.length_singleton Nat.le_refl
attribute [go_sem] List.all_cons List.all_nil nilEqK lenOf not_true_eq_false forall_const ne_eq
attribute [go_sem] keep_nil keep_cons drop_nil drop_cons List.contains_cons List.contains_nil Bool.or_false Bool.false_or Bool.true_or Bool.or_true Bool.false_eq_true
attribute [go_sem] shift_nil shift_cons ren_row ren_var AV.ren AV.renL Nat.add_zero
attribute [go_sem] opO
attribute [go_sem] offs_nil upd_nil List.length_map appendK elemsOf buildSliceK inOrder makeSliceK List.map_cons List.map_nil List.toList_toArray
attribute [go_sem] opK S.ev S.evD evF S.put FR.get_cons_eq FR.get_cons_ne frOf constAV isNilSl fieldK loadK storeK unK callK_len callK_append callK_copy callK_min callK_max lenK extractK allocK indexAddrK HP.get_cons thenK blockK endK resultsK resultK AV.sub AV.subL AV.offs AV.offsL AV.upd AV.updL AV.lens AV.idfL sub_nil List.nil_append List.cons_append Option.map_some AV.frz AV.frzL AV.idL AV.idLs mkR HP.set HP.del AV.flatL nilCheckK true_and and_true ne_eq not_false_eq_true Nat.zero_add List.length_nil List.length_cons HP.get_nil
end Go.Ab
namespace Go.Ab
open Go.RowKit
theorem drop_none (hp : HP) : HP.drop [] hp = hp := by
 induction hp with
 | nil => rfl
 | cons p hp ih => rw [drop_cons, ih]; rfl
section
variable {P : Program} {CK : CallK} {F : List FuncId} {Z : ZT} {E : Env} {ro : Option Nat} {s s' : S} {K : S → Prop} {rest : List MO} {dst : Option Tmp} {op : Op} {hpD : HP} {D : List Nat} {nx k d : Nat} {want : Bool}
end
end Go.Ab
namespace Go.Ab
open Go.RowKit
section
variable {P : Program} {E : Env} {hp : HP} {ι : Nat → Nat} {dom im : Nat → Prop} {w : World}
def ownOf (hp : HP) (ι : Nat → Nat) : Nat → Prop := fun b => ∃ o ob, HP.get hp o = some ob ∧ ob.real ∧ ι o = b
def inner (N : Nat) (hp : HP) (ι : Nat → Nat) (im : Nat → Prop) (w : World) (pn : Nat) : Env := ⟨N, w, ownOf hp ι, im, pn, ι⟩
theorem HInv.enter (h : HInv E hp ι dom im w) (N pn : Nat) (hd : ∀ o, dom o → o < pn) : HInv (inner N hp ι im w pn) hp ι (· < pn) im w := by
 have hle : Cx.Le ⟨ι, dom, im, w⟩ ⟨ι, (· < pn), im, w⟩ := Cx.Le.grow ⟨ι, dom, im, w⟩ hd (fun _ _ => rfl) (fun _ h => h)
 exact ⟨fun o ob hg => (h.own o ob hg).mono hle (fun _ => rfl), fun o ob hg => hd o (h.dm o ob hg), h.lt, h.nim, h.inj, fun o ob hg hr => .inl ⟨o, ob, hg, hr, rfl⟩,
  h.imlt, fun b hb => .inl hb, fun b hb => hb, fun _ _ _ => rfl, Nat.le_refl _, rfl, rfl, rfl, fun _ _ h => h, fun o ho => ⟨ho, rfl⟩⟩
theorem HInv.leave (h : HInv E hp ι dom im w) {N pn : Nat} (hd : ∀ o, dom o → o < pn) {hp2 : HP} {ι2 : Nat → Nat} {dom2 im2 : Nat → Prop} {w2 : World}
 (h2 : HInv (inner N hp ι im w pn) hp2 ι2 dom2 im2 w2) : HInv E hp2 ι2 dom2 im2 w2 ∧ Cx.Le ⟨ι, dom, im, w⟩ ⟨ι2, dom2, im2, w2⟩ := by
 have hown : ∀ b, ownOf hp ι b → (E.own0 b ∨ E.w0.heap.size ≤ b) ∧ ¬ im b := fun b ⟨o, ob, hg, hr, e⟩ => by
  subst e
  exact ⟨h.loc o ob hg hr, h.nim o ob hg hr⟩
 have hsz : w.heap.size ≤ w2.heap.size := h2.size
 have hext : ∀ b, b < w.heap.size → ¬ ownOf hp ι b → w2.heap[b]? = w.heap[b]? := h2.ext
 refine ⟨⟨h2.own, h2.dm, h2.lt, h2.nim, h2.inj, fun o ob hg hr => ?_, h2.imlt, fun b hb => ?_, fun b hb => h2.im0 b (h.im0 b hb), fun b hb hn => ?_, Nat.le_trans h.size hsz, h2.os.trans h.os, h2.tape.trans h.tape, h2.output.trans h.output,
  fun b s hs => h2.sh b s (h.sh b s hs), fun o ho => ?_⟩,
  fun o ho => (h2.pin o (hd o ho)).1, fun o ho => (h2.pin o (hd o ho)).2, fun b hb => h2.im0 b hb, fun b hb hlt => hext b hlt (fun hn => (hown b hn).2 hb), hsz, h2.sh⟩
 · rcases h2.loc o ob hg hr with k | k
   · exact (hown _ k).1
   · exact .inr (Nat.le_trans h.size k)
 · rcases h2.imsub b hb with k | k | k
   · exact h.imsub b k
   · exact .inr (hown b k).1
   · exact .inr (.inr (Nat.le_trans h.size k))
 · rw [hext b (Nat.lt_of_lt_of_le hb h.size) (fun hn' => ?_)]
   · exact h.ext b hb hn
   · rcases (hown b hn').1 with k | k
     · exact hn k
     · omega
 · obtain ⟨k1, k2⟩ := h.pin o ho
   obtain ⟨k3, k4⟩ := h2.pin o (hd o k1)
   exact ⟨k3, k4.trans k2⟩
structure LB where
 fn : FuncId
 tmps : Array Value
 params : Array Tmp
 assign : Code
 body : Code
 defers : Nat
def LB.at (b : LB) (st : LoopState) (p : Option Code) : Loop := ⟨st, p, b.fn, b.tmps, b.params, b.assign, b.body, b.defers⟩
def AO.lp (b : LB) (st : LoopState) (p : Option Code) : AO := .obj (.loop (b.at st p))
def AO.dfr : AO := .obj (.deferred (some []))
theorem HInv.putObj (h : HInv E hp ι dom im w) {o : Nat} {ob ob' : Obj} (hg : HP.get hp o = some (.obj ob)) (hn : ∀ s, w.shape? (ι o) ≠ some s) :
 HInv E (HP.set hp o (.obj ob')) ι dom im (w.putObj (ι o) ob') ∧ Cx.Le ⟨ι, dom, im, w⟩ ⟨ι, dom, im, w.putObj (ι o) ob'⟩ :=
 h.write hg trivial World.putObj_size rfl rfl rfl (fun _ hb => World.putObj_heap_other hb) (fun s hs => absurd hs (hn s))
  (fun _ => World.putObj_heap_same (h.lt o _ hg trivial))
theorem shape_loop {b : Nat} {r : Loop} (h : w.heap[b]? = some (.loop r)) (s : TypeId × Nat) : w.shape? b ≠ some s := by simp [World.shape?, h]
theorem shape_dfr {b : Nat} {d : Option (List Deferred)} (h : w.heap[b]? = some (.deferred d)) (s : TypeId × Nat) : w.shape? b ≠ some s := by simp [World.shape?, h]
structure Side (E : Env) (L l : Nat) (b : LB) (ps : Array Tmp) (assign body : Code) (fr0 : FR) (N0 : Nat) : Prop where
 blk : E.blk L = l
 lt : L < E.pn
 params : b.params = ps
 assign : b.assign = assign
 body : b.body = body
 fr : FrOK ⟨E.blk, (· < E.pn), E.im0, E.w0⟩ fr0 { tmps := b.tmps, defers := [] } N0
 out : ∀ b, E.im0 b → ¬ E.own0 b
theorem Side.now {L l : Nat} {b : LB} {ps : Array Tmp} {assign body : Code} {fr0 : FR} {N0 : Nat} (sd : Side E L l b ps assign body fr0 N0) (h : HInv E hp ι dom im w) :
 FrOK ⟨ι, dom, im, w⟩ fr0 { tmps := b.tmps, defers := [] } N0 :=
 sd.fr.mono ⟨fun o ho => (h.pin o ho).1, fun o ho => (h.pin o ho).2, h.im0, fun b hb hlt => h.ext b hlt (sd.out b hb), h.size, h.sh⟩
def frPut (ps : List Tmp) (xs : List AV) (fr : FR) : FR := (ps.zip xs).foldl (fun fr p => p :: fr) fr
theorem frPut_ok {C : Cx} {N : Nat} : ∀ (ps : List Tmp) (xs : List AV) (vs : List Value) (fr : FR) (tm : Array Value), RepVs C xs vs → (∀ t ∈ ps, t < N) → FrOK C fr { tmps := tm, defers := [] } N →
 FrOK C (frPut ps xs fr) { tmps := (ps.zip vs).foldl (fun tmps (p : Tmp × Value) => tmps.setIfInBounds p.1 p.2) tm, defers := [] } N
 | [], _, _, _, _, _, _, hf => by simpa [frPut] using hf
 | _ :: _, [], vs, fr, tm, hv, _, hf => by simp only [RepVs] at hv; subst hv; simpa [frPut] using hf
 | t :: ps, x :: xs, _, fr, tm, ⟨v, r, rfl, h1, h2⟩, hN, hf => by
   have h3 := hf.putT (d := t) (.inr (RepS.of h1)) (hN t (by simp))
   exact frPut_ok ps xs r ((t, x) :: fr) (tm.setIfInBounds t v) h2 (fun t ht => hN t (by simp [ht])) h3
def roundEnd (b : LB) (L : Nat) (K : Bool → HP → Nat → Prop) : Exit → S → Prop
 | .normal, s => HP.get s.hp L = some (.lp b .busy none) ∧ K true (HP.set s.hp L (.lp b .ready none)) s.nx
 | .ret, s => HP.get s.hp L = some (.lp b .busy none) ∧ K false (HP.set s.hp L (.lp b .done (some .ret))) s.nx
 | .exit i, s => HP.get s.hp L = some (.lp b .busy none) ∧ K false (HP.set s.hp L (.lp b .done (some (.exit i)))) s.nx
 | _, _ => False
def bodyK (P : Program) (E : Env) (L l : Nat) (b : LB) (body : Code) (K : Bool → HP → Nat → Prop) : Exit → S → Prop
 | .normal, s => HP.get s.hp L = some (.lp b .ready none) ∧ Tr P (some l) E body { s with hp := HP.set s.hp L (.lp b .busy none) } (roundEnd b L K)
 | _, _ => False
def roundK (P : Program) (L l : Nat) (b : LB) (assign body : Code) (fr : FR) (N0 : Nat) (hp : HP) (nx : Nat) (K : Bool → HP → Nat → Prop) : Prop :=
 ∀ E : Env, E.N = N0 → E.pn = nx → Tr P (some l) E assign ⟨fr, hp, nx, []⟩ (bodyK P E L l b body K)
theorem roundEnd_sound {Er : Env} {L l : Nat} {b : LB} {K : Bool → HP → Nat → Prop} {s : S} {a : Act} {e : Exit} (hL : L < Er.pn) (hl : Er.blk L = l) (h : roundEnd b L K e s) (ha : Abs Er s a w)
 {R : Ending → World → Prop} (hR : ∀ v hp' nx' ι' dom' im' w', K v hp' nx' → HInv Er hp' ι' dom' im' w' → (∀ o, dom' o → o < nx') → R (.returned (.bool v)) w') : roundPost P l R e a w := by
 obtain ⟨ι, dom, im, hdom, hi, _, _⟩ := ha
 have hιL : ι L = l := (hi.pin L hL).2.trans hl
 have fin : ∀ (j : Option Code) (st : LoopState), (if j.isNone then .ready else .done) = st → HP.get s.hp L = some (.lp b .busy none) → K j.isNone (HP.set s.hp L (.lp b st j)) s.nx →
  ∃ v w', (Instr.endRound l j).run P w = .ok v w' ∧ R (.returned v) w' := by
  intro j st hst hg hk
  have hb : w.heap[ι L]? = some (.loop (b.at .busy none)) := hi.own L _ hg
  rw [hιL] at hb
  have hp := hi.putObj (ob' := .loop (b.at st j)) hg (by rw [hιL]; exact shape_loop hb)
  rw [hιL] at hp
  refine ⟨_, _, run_endRound j hb, hR _ _ _ ι dom im _ hk ?_ hdom⟩
  rw [hst]
  exact hp.1
 cases e with
 | normal => exact fin none _ rfl h.1 h.2
 | ret => exact fin (some .ret) _ rfl h.1 h.2
 | exit i => exact fin (some (.exit i)) _ rfl h.1 h.2
 | goto t => exact h.elim
 | panic c => exact h.elim
 | outgrown => exact h.elim
theorem yield_wp {L l : Nat} {b : LB} {ps : Array Tmp} {assign body : Code} {fr0 : FR} {N0 : Nat} (sd : Side E L l b ps assign body fr0 N0) {o : Oper} {c : Call} {f : Operand} {s : S} {a : Act}
 {next : Act → World → Prop} {Q : Exit → Act → World → Prop} {K : Bool → HP → Nat → Prop} {g : Operand → AV} {xs : List AV}
 (hi : HInv E s.hp ι dom im w) (hdom : ∀ o, dom o → o < s.nx) (hg : ∀ x, RepT ⟨ι, dom, im, w⟩ (g x) (a.eval x))
 (hop : o.op = .call c) (hcal : c.callee = .value f) (hf : g f = .fn (.yield l) [] []) (hxs : c.args.toList.map g = xs) (hok : xs.all AV.ok = true) (hsz : xs.length = ps.size) (hps : ps.toList.all (fun t => decide (t < N0)) = true)
 (hrec : HP.get s.hp L = some (.lp b .ready none)) (hk : roundK P L l b assign body (frPut ps.toList xs fr0) N0 s.hp s.nx K)
 (hn : ∀ v hp' nx' ι' dom' im' w', K v hp' nx' → HInv E hp' ι' dom' im' w' → Cx.Le ⟨ι, dom, im, w⟩ ⟨ι', dom', im', w'⟩ → (∀ o, dom' o → o < nx') → next (a.put o.dst (.bool v)) w') :
 o.wpIn (fence none) 0 P a w next Q := by
 subst hxs
 have hsem : o.semAt (fence none).round a.eval = execOp a.eval o := Oper.semAt_eq _ _ o (fun c hc => by rw [hop] at hc; cases hc)
 refine ⟨fun _ _ => trivial, ?_⟩
 rw [hsem]
 have hιL : ι L = l := (hi.pin L sd.lt).2.trans sd.blk
 have hb : w.heap[ι L]? = some (.loop (b.at .ready none)) := hi.own L _ hrec
 rw [hιL] at hb
 have hfv := hg f
 rw [hf] at hfv
 obtain ⟨va, vb, hv, ra, rb⟩ := hfv.fn_of
 simp only [RepVs] at ra rb
 subst ra; subst rb
 have rargs := RepVs.of hg c.args.toList hok
 have e1 : c.args.map a.eval = (c.args.toList.map a.eval).toArray := by apply Array.ext'; simp
 have hlen : (c.args.map a.eval).size = b.params.size := by rw [sd.params, ← hsz]; simp
 have hrun : (execOp a.eval o).run P w = .ok (.round l b.fn ((b.params.zip (c.args.map a.eval)).foldl (fun tmps (t, a) => tmps.setIfInBounds t a) b.tmps) b.assign b.body) w := by
  have := run_yield (P := P) (args := c.args.map a.eval) hb hlen
  simp only [execOp, hop, resolve, hcal, Sem.run_bind, Deferred.ofValue, hv, Sem.run_pure, Result.andThen_ok, invoke]
  simpa [LB.at] using this
 rw [hrun]
 show (_ → _) ∧ RoundIn (fence none) 0 P l _ _ _ _ w _
 refine ⟨fun h => (by cases h), roundIn_of_wpIn trivial ?_⟩
 have hI := hi.enter N0 s.nx hdom
 have hLx : L < s.nx := hdom L (hi.dm L _ hrec)
 have hfr : FrOK ⟨ι, (· < s.nx), im, w⟩ (frPut ps.toList (c.args.toList.map g) fr0) { tmps := (b.params.zip (c.args.map a.eval)).foldl (fun tmps (t, a) => tmps.setIfInBounds t a) b.tmps, defers := [] } N0 := by
  have hle : Cx.Le ⟨ι, dom, im, w⟩ ⟨ι, (· < s.nx), im, w⟩ := Cx.Le.grow ⟨ι, dom, im, w⟩ hdom (fun _ _ => rfl) (fun _ h => h)
  have := frPut_ok (N := N0) ps.toList _ _ fr0 b.tmps (rargs.mono hle) (fun t ht => by simpa using List.all_eq_true.1 hps t ht) ((sd.now hi).mono hle)
  rw [sd.params]
  have e2 : (ps.zip (c.args.map a.eval)).foldl (fun tmps (p : Tmp × Value) => tmps.setIfInBounds p.1 p.2) b.tmps = (ps.toList.zip (c.args.toList.map a.eval)).foldl (fun tmps (p : Tmp × Value) => tmps.setIfInBounds p.1 p.2) b.tmps := by
   rw [← Array.foldl_toList]; simp
  rw [← e2] at this
  exact this
 rw [sd.assign, sd.body]
 have h1 := hk (inner N0 s.hp ι im w s.nx) rfl rfl _ w ⟨ι, (· < s.nx), im, fun _ h => h, hI, hfr, (fun o ho => by cases ho), rfl⟩
 refine wpIn_mono (F := fence (some l)) h1 ?_
 rintro e a1 w1 ⟨s1, hk1, ha1⟩
 cases e with
 | normal =>
   obtain ⟨hg1, hbody⟩ := hk1
   obtain ⟨ι1, dom1, im1, hdom1, hi1, hfr1, hdf1⟩ := ha1
   have hι1 : ι1 L = l := (hi1.pin L hLx).2.trans hιL
   have hb1 : w1.heap[ι1 L]? = some (.loop (b.at .ready none)) := hi1.own L _ hg1
   rw [hι1] at hb1
   have hp1 := hi1.putObj (ob' := .loop (b.at .busy none)) hg1 (by rw [hι1]; exact shape_loop hb1)
   rw [hι1] at hp1
   refine ⟨_, run_beginRound hb1 rfl, ?_⟩
   refine wpIn_mono (F := fence (some l)) (hbody a1 _ ⟨ι1, dom1, im1, hdom1, hp1.1, hfr1.mono hp1.2, hdf1⟩) ?_
   rintro e3 a3 w3 ⟨s3, hk3, ha3⟩
   refine roundEnd_sound (Er := inner N0 s.hp ι im w s.nx) hLx hιL hk3 ha3 ?_
   intro v hp' nx' ι' dom' im' w' hK hi' hd'
   obtain ⟨hi4, hle4⟩ := hi.leave hdom hi'
   exact hn v hp' nx' ι' dom' im' w' hK hi4 hle4 hd'
 | exit i => exact hk1.elim
 | goto i => exact hk1.elim
 | ret => exact hk1.elim
 | panic i => exact hk1.elim
 | outgrown => exact hk1.elim
def vcYield (P : Program) (CK : CallK) (ops : Array Oper) (L l : Nat) (b : LB) (ps : Array Tmp) (assign body : Code) (fr0 : FR) (N0 : Nat) (o : Oper) (c : Call) (f : Operand) (post : List Oper) (K : S → Prop) (s : S) : Prop :=
 ∃ xs, s.ev f = .fn (.yield l) [] [] ∧ c.args.toList.map s.ev = xs ∧ xs.all AV.ok = true ∧ xs.length = ps.size ∧ ps.toList.all (fun t => decide (t < N0)) = true ∧ HP.get s.hp L = some (.lp b .ready none) ∧
   roundK P L l b assign body (frPut ps.toList xs fr0) N0 s.hp s.nx fun v hp' nx' => vcOps P CK ops post ({ s with hp := hp', nx := nx' }.put o.dst (.bool v)) K
def guardY (P : Program) (CK : CallK) (ops : Array Oper) (o : Oper) (post : List Oper) (Y : S → Prop) (K : S → Prop) (s : S) : Prop :=
 match o.guard with
 | none => Y s
 | some (j, want) => match guardSlot ops j with
   | some d => match s.fr.get d with
     | .bool b => (b = want → Y (s.put (some d) (.bool want))) ∧ (b = !want → vcOps P CK ops post ((s.put (some d) (.bool !want)).put o.dst (.tup [])) K)
     | _ => False
   | none => False
theorem Tr.regionY {CK : CallK} (hCK : ∀ f args hp id K, CK f args hp id K → funK P f args hp id K) {L l : Nat} {b : LB} {ps : Array Tmp} {assign body : Code} {fr0 : FR} {N0 : Nat} (sd : Side E L l b ps assign body fr0 N0)
 {id : Nat} {ops : Array Oper} {s : S} {K : Exit → S → Prop} {pre post : List Oper} {o : Oper} {c : Call} {f : Operand} (hd : dstOK E.N ops = true) (hops : ops.toList = pre ++ o :: post) (hop : o.op = .call c) (hcal : c.callee = .value f)
 (h : vcOps P CK ops pre s (guardY P CK ops o post (vcYield P CK ops L l b ps assign body fr0 N0 o c f post (K .normal)) (K .normal))) : Tr P none E (.region id ops false) s K := by
 intro a w ha
 refine wpIn_region ?_
 have hidx : List.range ops.size = List.range pre.length ++ (pre.length :: (List.range post.length).map (pre.length + 1 + ·)) := by
  have e : ops.size = pre.length + (1 + post.length) := by rw [← Array.length_toList, hops]; simp; omega
  rw [e, List.range_add, List.range_add]
  simp [List.range_succ, Function.comp_def, Nat.add_assoc]
 rw [hidx]
 have hget : ∀ i : Nat, ops[i]? = (pre ++ o :: post)[i]? := fun i => by rw [← hops]; simp
 have hmd : ∀ t, o.dst = some t → t < E.N := by
  intro t ht
  have hm : o ∈ ops.toList := by rw [hops]; simp
  have := List.all_eq_true.1 hd o hm
  rw [ht] at this
  simpa using this
 have hpre : (List.range pre.length).map (fun i => ops[i]?) = pre.map some := by
  apply List.ext_getElem (by simp)
  intro i h1 h2
  simp at h1
  simp only [List.getElem_map, List.getElem_range, hget]
  rw [List.getElem?_append_left h1, List.getElem?_eq_getElem h1]
 have hpost : ((List.range post.length).map (pre.length + 1 + ·)).map (fun i => ops[i]?) = post.map some := by
  apply List.ext_getElem (by simp)
  intro i h1 h2
  simp at h1
  simp only [List.map_map, List.getElem_map, List.getElem_range, Function.comp_apply, hget]
  rw [List.getElem?_append_right (by omega), show pre.length + 1 + i - pre.length = i + 1 by omega, List.getElem?_cons_succ]
  simp [h1]
 refine vcOps_sound_tl hCK hd (Q := fun e a' w' => ∃ s', K e s' ∧ Abs E s' a' w') ?_ pre (List.range pre.length) s a w hpre h ha
 intro s1 a1 w1 hk ha1
 obtain ⟨ι, dom, im, hdom, hi, hf, hdf⟩ := ha1
 have ho : ops[pre.length]? = some o := by rw [hget]; simp
 have cont : ∀ s' a' w', vcOps P CK ops post s' (K .normal) → Abs E s' a' w' → wpOpsIn (fence none) 0 P ops (fun e a' w' => ∃ s', K e s' ∧ Abs E s' a' w') ((List.range post.length).map (pre.length + 1 + ·)) a' w' := fun s' a' w' hv ha' =>
  vcOps_sound hCK hd (fun s _ _ hk ha => ⟨s, hk, ha⟩) post _ s' a' w' hpost hv ha'
 have done : ∀ s0 : S, s0.hp = s1.hp → s0.nx = s1.nx → s0.df = s1.df → FrOK ⟨ι, dom, im, w1⟩ s0.fr a1 E.N → vcYield P CK ops L l b ps assign body fr0 N0 o c f post (K .normal) s0 →
  o.wpIn (fence none) 0 P a1 w1 (wpOpsIn (fence none) 0 P ops (fun e a' w' => ∃ s', K e s' ∧ Abs E s' a' w') ((List.range post.length).map (pre.length + 1 + ·))) (fun e a' w' => ∃ s', K e s' ∧ Abs E s' a' w') := by
  rintro s0 e1 e2 e3 hf0 ⟨xs, h1, h2, h3, h4, h5, h6, h7⟩
  refine yield_wp (s := s0) sd (by rw [e1]; exact hi) (by rw [e2]; exact hdom) (fun x => ev_rep (by rw [e1]; exact hi) hf0 x) hop hcal h1 h2 h3 h4 h5 h6 h7 ?_
  intro v hp' nx' ι' dom' im' w' hv hi' hle hd'
  refine cont _ _ _ hv (abs_put (ι := ι') (dom := dom') (im := im') (s := { s0 with hp := hp', nx := nx' }) hd' hi' (hf0.mono hle) ?_ (repS_bool v) hmd)
  simp only [e3]
  refine ⟨fun x hx => hle.dom x (hdf.1 x hx), ?_⟩
  rw [hdf.2]
  apply List.map_congr_left
  intro x hx
  rw [show ι' x = ι x from hle.ι x (hdf.1 x hx)]
 simp only [wpOpsIn, ho]
 unfold guardY at hk
 split at hk
 · rename_i hgd
   have hw : Region.wanted o (yielded ops a1.tmps) = true := by simp [Region.wanted, hgd]
   rw [if_pos hw]
   exact done s1 rfl rfl rfl hf hk
 · rename_i j want hgd
   split at hk
   · rename_i d hgs
     have hy1 : ∀ b, a1.tmps[d]? = some (.bool b) → yielded ops a1.tmps j = some b := fun b h => by
      unfold guardSlot at hgs
      simp [yielded, hgs, h]
     split at hk
     · rename_i b0 hgb
       have hb := hf.2 d
       rw [hgb] at hb
       have hbv := hb.bool_of
       have hdN : a1.tmps[d]? = some (.bool b0) := by
        simp only [Array.getD_eq_getD_getElem?] at hbv
        cases hh : a1.tmps[d]? with
        | none => rw [hh] at hbv; simp [undef] at hbv
        | some v => rw [hh] at hbv; simp at hbv; rw [hbv]
       by_cases hbw : b0 = want
       · have hw : Region.wanted o (yielded ops a1.tmps) = true := by simp [Region.wanted, hgd, hy1 _ hdN, hbw]
         rw [if_pos hw]
         exact done (s1.put (some d) (.bool want)) rfl rfl rfl (hf.same (by rw [← hbw]; exact hb)) (hk.1 hbw)
       · have hw : Region.wanted o (yielded ops a1.tmps) = false := by simp [Region.wanted, hgd, hy1 _ hdN, hbw]
         rw [if_neg (by simp [hw])]
         have hbn : b0 = !want := by cases b0 <;> cases want <;> simp_all
         exact ⟨fun _ _ => trivial, cont _ _ _ (hk.2 hbn) (abs_put (ι := ι) (dom := dom) (im := im) (s := s1.put (some d) (.bool !want)) hdom hi (hf.same (by rw [← hbn]; exact hb)) hdf (.inr ⟨[], rfl, rfl⟩) hmd)⟩
     · exact hk.elim
   · exact hk.elim
def goOn (K : Exit → S → Prop) (p : Option Code) (s : S) : Prop :=
 match p with
 | none => K .normal s
 | some .ret => K .ret s
 | some (.exit i) => K (.exit i) s
 | _ => False
def itEnd (b : LB) (L D : Nat) (fr0 : FR) (df0 : List Nat) (K : Exit → S → Prop) : Exit → S → Prop
 | .normal, s | .ret, s => s.df = [] ∧ ∃ st p, HP.get s.hp L = some (.lp b st p) ∧ st ≠ .busy ∧ HP.get s.hp D = some .dfr ∧ goOn K p ⟨fr0, HP.del s.hp L, s.nx, D :: df0⟩
 | _, _ => False
theorem goOn_sound {p : Option Code} {s : S} {a : Act} {K : Exit → S → Prop} (h : goOn K p s) (ha : Abs E s a w) :
 (p = none → ∃ s', K .normal s' ∧ Abs E s' a w) ∧ ∀ c, p = some c → c.wpIn (fence none) 0 P (fun e a' w' => ∃ s', K e s' ∧ Abs E s' a' w') a w := by
 unfold goOn at h
 split at h
 · exact ⟨fun _ => ⟨s, h, ha⟩, fun c hc => by cases hc⟩
 · exact ⟨fun hc => by (cases hc), fun c hc => by cases hc; exact wpIn_ret ⟨s, h, ha⟩⟩
 · exact ⟨fun hc => by (cases hc), fun c hc => by cases hc; exact wpIn_exit ⟨s, h, ha⟩⟩
 · exact h.elim
theorem Tr.range {g : Operand} {ps : Array Tmp} {assign body : Code} {s : S} {K : Exit → S → Prop} {fid : FuncId} {fn : Func} {c : Code} {first cap : List AV} (hg : s.ev g = .fn (.func fid) first cap)
 (hen : enters P fid) (hf : P.funcs[fid]? = some fn) (hb : fn.body = some c) (hr : fn.results = #[]) (hN : (first ++ .nilf :: cap).length ≤ fn.ntmps)
 (h : ∀ (E' : Env) (l : Nat) (b : LB), E'.N = fn.ntmps → E'.pn = s.nx + 2 → Side E' (s.nx + 1) l b ps assign body s.fr E.N →
  Tr P none E' c ⟨frOf 0 (first ++ .fn (.yield l) [] [] :: cap), (s.nx + 1, .lp b .ready none) :: (s.nx, .dfr) :: s.hp, s.nx + 16, []⟩ (itEnd b (s.nx + 1) s.nx s.fr s.df K)) :
 Tr P none E (.rangeFunc g ps assign body) s K := by
 intro a w ha
 obtain ⟨ι, dom, im, hdom, hi, hfr, hdf⟩ := ha
 refine wpIn_rangeFunc fun fn0 _ => ?_
 let b : LB := ⟨fn0, a.tmps, ps, assign, body, w.heap.size⟩
 have hD : ¬ dom s.nx := fun hd => by have := hdom _ hd; omega
 have hi1 := hi.allocOwn (id := s.nx) hD (ob := .deferred (some [])) (ao := .dfr) (World.alloc_heap_new w _)
 have hL : ¬ (fun o => dom o ∨ o = s.nx) (s.nx + 1) := fun hd => by
  rcases hd with hd | hd
  · have := hdom _ hd; omega
  · omega
 have hi2 := hi1.allocOwn (id := s.nx + 1) hL (ob := .loop (b.at .ready none)) (ao := .lp b .ready none) (World.alloc_heap_new _ _)
 have hle1 : Cx.Le ⟨ι, dom, im, w⟩ ⟨updι ι s.nx w.heap.size, fun o => dom o ∨ o = s.nx, im, w.alloc (.deferred (some []))⟩ :=
  (Cx.Le.alloc ⟨ι, dom, im, w⟩ _).trans (Cx.Le.upd hD)
 have hle2 := hle1.trans ((Cx.Le.alloc ⟨updι ι s.nx w.heap.size, fun o => dom o ∨ o = s.nx, im, w.alloc (.deferred (some []))⟩ (.loop (b.at .ready none))).trans (Cx.Le.upd (b := w.heap.size + 1) hL))
 rw [World.size_alloc] at hi2
 generalize hw2 : (w.alloc (.deferred (some []))).alloc (.loop (b.at .ready none)) = w2 at hi2 hle2
 have hι2 : ∀ ι2, updι (updι ι s.nx w.heap.size) (s.nx + 1) (w.heap.size + 1) = ι2 → ι2 (s.nx + 1) = w.heap.size + 1 ∧ ι2 s.nx = w.heap.size := by
  rintro _ rfl
  simp [updι]
 generalize hιe : updι (updι ι s.nx w.heap.size) (s.nx + 1) (w.heap.size + 1) = ι2 at hi2 hle2
 obtain ⟨hιL, hιD⟩ := hι2 ι2 hιe
 have hdom2 : ∀ o, (dom o ∨ o = s.nx) ∨ o = s.nx + 1 → o < s.nx + 2 := fun o ho => by
  rcases ho with (ho | ho) | ho
  · have := hdom o ho; omega
  · omega
  · omega
 have hgv := ev_rep hi hfr g
 rw [hg] at hgv
 obtain ⟨va, vb, hv, ra, rb⟩ := hgv.fn_of
 let l := w.heap.size + 1
 have hgl : a.eval (.const (.func (.yield l) #[] #[])) = .func (.yield l) #[] #[] := rfl
 have hres : (resolve a.eval (rangeCall g l) 0).run P w2 = .ok { target := .fn (.func fid) vb.toArray, args := va.toArray ++ #[.func (.yield l) #[] #[]] } w2 := by
  simp only [resolve, Deferred.ofValue, hv, Sem.run_pure]
  simp [hgl]
 have hinv : (invoke (.fn (.func fid) vb.toArray) (va.toArray ++ #[.func (.yield l) #[] #[]])).run P w2 = .ok (.enter fid (va ++ (.func (.yield l) #[] #[]) :: vb).toArray) w2 := by
  simp only [invoke]
  have := hen (va ++ (.func (.yield l) #[] #[]) :: vb).toArray w2
  simpa using this
 refine ⟨l, [{ target := .collected w.heap.size, args := #[] }], w2, _, w2, fid, _, w2, by rw [← hw2]; exact run_enterLoop_outer fn0 a.tmps ps assign body, hres, fun _ _ => trivial, hinv, fun h => (by cases h), ?_⟩
 refine CallsIn.mono (F := Fence.wide) (R := rangePost (fence none) 0 P l (fun e a' w' => ∃ s', K e s' ∧ Abs E s' a' w') { a with defers := [{ target := .collected w.heap.size, args := #[] }] ++ a.defers }) ?_ (fun _ _ h => h)
 refine callsIn_of_wp hf hb trivial ?_
 have hI := hi2.enter fn.ntmps (s.nx + 2) hdom2
 have hleE : Cx.Le ⟨ι2, fun o => (dom o ∨ o = s.nx) ∨ o = s.nx + 1, im, w2⟩ ⟨ι2, (· < s.nx + 2), im, w2⟩ := Cx.Le.grow ⟨ι2, fun o => (dom o ∨ o = s.nx) ∨ o = s.nx + 1, im, w2⟩ hdom2 (fun _ _ => rfl) (fun _ h => h)
 have hle3 := hle2.trans hleE
 let E' : Env := inner fn.ntmps ((s.nx + 1, .lp b .ready none) :: (s.nx, .dfr) :: s.hp) ι2 im w2 (s.nx + 2)
 have sd : Side E' (s.nx + 1) l b ps assign body s.fr E.N := by
  refine ⟨hιL, Nat.lt_succ_self _, rfl, rfl, rfl, ?_, ?_⟩
  · have := hfr.mono hle3
    exact ⟨this.1, this.2⟩
  · rintro b' hb' ⟨o, ob, h1, h2, h3⟩
    subst h3
    exact hi2.nim o ob h1 h2 hb'
 have hvs : RepVs ⟨ι2, (· < s.nx + 2), im, w2⟩ (first ++ .fn (.yield l) [] [] :: cap) (va ++ (.func (.yield l) #[] #[]) :: vb) := by
  refine RepVs.append (ra.mono hle3) ⟨_, _, rfl, ⟨?_, rfl, rfl⟩, rb.mono hle3⟩
  simp [Rep, RepL, Value.cells]
  exact ⟨[], [], ⟨rfl, rfl⟩, rfl, rfl, rfl, rfl, by simp, by simp⟩
 have hlen := hvs.length_eq
 have hsz : ((va ++ (.func (.yield l) #[] #[]) :: vb).toArray ++ Array.replicate (fn.ntmps - (va ++ (.func (.yield l) #[] #[]) :: vb).toArray.size) undef).size = fn.ntmps := by
  simp only [List.length_append, List.length_cons] at hN hlen
  simp; omega
 have hfr0 : FrOK ⟨ι2, (· < s.nx + 2), im, w2⟩ (frOf 0 (first ++ .fn (.yield l) [] [] :: cap)) { tmps := (va ++ (.func (.yield l) #[] #[]) :: vb).toArray ++ Array.replicate (fn.ntmps - (va ++ (.func (.yield l) #[] #[]) :: vb).toArray.size) undef, defers := [] } fn.ntmps := by
  refine ⟨hsz, fun t => ?_⟩
  rw [frOf_get]
  simp only [Nat.zero_le, if_true, Nat.sub_zero]
  have := RepVs.getD hvs t
  generalize va ++ (.func (.yield l) #[] #[]) :: vb = vals at *
  have e : (vals.toArray ++ Array.replicate (fn.ntmps - vals.toArray.size) undef).getD t undef = (vals[t]?).getD undef := by
   simp only [Array.getD_eq_getD_getElem?, Array.getElem?_append, List.size_toArray, List.getElem?_toArray]
   split
   · rfl
   · rename_i hge
     rw [List.getElem?_eq_none (by omega)]
     simp [Array.getElem?_replicate]
     split <;> rfl
  rw [e]
  exact this
 have hwalk := h E' l b rfl rfl sd _ w2 ⟨ι2, (· < s.nx + 2), im, fun o ho => Nat.lt_of_lt_of_le ho (Nat.add_le_add_left (by omega) _), hI, hfr0, (fun o ho => by cases ho), rfl⟩
 refine wpIn_mono hwalk ?_
 rintro e a3 w3 ⟨s3, hk, ι3, dom3, im3, hdom3, hi3, hfr3, hdf3⟩
 have fin : (s3.df = [] ∧ ∃ st p, HP.get s3.hp (s.nx + 1) = some (.lp b st p) ∧ st ≠ .busy ∧ HP.get s3.hp s.nx = some .dfr ∧ goOn K p ⟨s.fr, HP.del s3.hp (s.nx + 1), s3.nx, s.nx :: s.df⟩) →
  a3.defers = [] ∧ ∃ v, (results fn a3.tmps).run P w3 = .ok v w3 ∧ rangePost (fence none) 0 P l (fun e a' w' => ∃ s', K e s' ∧ Abs E s' a' w') { a with defers := [{ target := .collected w.heap.size, args := #[] }] ++ a.defers } (.returned v) w3 := by
  rintro ⟨h0, st, p, h1, h2, h3, h4⟩
  refine ⟨by rw [hdf3.2, h0]; rfl, .tuple #[], by simp [results, hr], ?_⟩
  have hι3L : ι3 (s.nx + 1) = l := (hi3.pin (s.nx + 1) (Nat.lt_succ_self _)).2.trans hιL
  have hb3 : w3.heap[ι3 (s.nx + 1)]? = some (.loop (b.at st p)) := hi3.own _ _ h1
  rw [hι3L] at hb3
  have hp3 := hi3.putObj (ob' := .loop { b.at st p with state := .exhausted }) h1 (by rw [hι3L]; exact shape_loop hb3)
  rw [hι3L] at hp3
  obtain ⟨hi4, hle4⟩ := hi2.leave hdom2 hp3.1
  have hi5 := hi4.del (s.nx + 1)
  have e5 : HP.del (HP.set s3.hp (s.nx + 1) (.obj (.loop { b.at st p with state := .exhausted }))) (s.nx + 1) = HP.del s3.hp (s.nx + 1) := by
   unfold HP.del HP.set
   rw [List.filter_map]
   induction s3.hp with
   | nil => rfl
   | cons q r ih =>
     by_cases hq : q.1 = s.nx + 1
     · simpa [List.filter_cons, hq] using ih
     · simpa [List.filter_cons, hq] using ih
  rw [e5] at hi5
  have hle := hle2.trans hle4
  refine ⟨p, _, run_endLoop hb3 h2, ?_⟩
  have hA : Abs E ⟨s.fr, HP.del s3.hp (s.nx + 1), s3.nx, s.nx :: s.df⟩ { a with defers := [{ target := .collected w.heap.size, args := #[] }] ++ a.defers } (w3.putObj l (.loop { b.at st p with state := .exhausted })) := ⟨ι3, dom3, im3, hdom3, hi5, ?_, ?_, ?_⟩
  · cases p with
    | none => exact (goOn_sound (P := P) h4 hA).1 rfl
    | some c => exact (goOn_sound h4 hA).2 c rfl
  · have := hfr.mono hle
    exact ⟨this.1, this.2⟩
  · intro o ho
    rcases List.mem_cons.1 ho with rfl | ho
    · exact hi3.dm _ _ h3
    · exact hle.dom o (hdf.1 o ho)
  · show [_] ++ a.defers = _
    rw [hdf.2, List.map_cons]
    have : ι3 s.nx = w.heap.size := (hi3.pin s.nx (show s.nx < s.nx + 2 by omega)).2.trans hιD
    rw [this]
    refine congrArg (List.cons _) ?_
    apply List.map_congr_left
    intro x hx
    rw [show ι3 x = ι x from hle.ι x (hdf.1 x hx)]
 cases e <;> first
  | exact hk.elim
  | exact fin hk
end
end Go.Ab
namespace Go
variable {P : Program} {F : Fence} {n : Nat}
section
variable {b : Frame} {a : Act} {k : List Item} {cs : List Frame} {w : World} {Q : Exit → Act → World → Prop}
theorem stepR_scope {c : Code} : step P (lone (b.atR a (.code (.scope c) :: k)) cs w) = .next (lone (b.atR a (.code c :: .inScope c :: k)) cs w) :=
 step_lone_go (by simp [stepG, stepG.exec, Frame.atR])
theorem stepR_inScope {c : Code} : step P (lone (b.atR a (.inScope c :: k)) cs w) = .next (lone (b.atR a k) cs w) :=
 step_lone_go (by simp [stepG, stepG.exec, Frame.atR])
theorem wpIn_scope {c : Code} (h : c.wpIn F n P (fun e a w => (∀ l, e ≠ .goto l) ∧ Q e a w) a w) : (Code.scope c).wpIn F n P Q a w := by
 intro b k cs hro hb hr
 have h0 : (lone (b.atR a (.code (.scope c) :: k)) cs w).fenced P F := fenced_calm hb hr rfl
 obtain ⟨e, a₁, w₁, ⟨hg, hq⟩, harr⟩ := h b (.inScope c :: k) cs hro hb hr
 cases e with
 | normal => exact ⟨.normal, a₁, w₁, hq, .head h0 stepR_scope (StepsIn.trans harr (.one (fenced_calm hb hr rfl) stepR_inScope))⟩
 | exit id =>
   have hx : exitTo id (.inScope c :: k) = exitTo id k := by simp [exitTo]
   exact ⟨_, a₁, w₁, hq, fun k' hk => .head h0 stepR_scope (harr.1 k' (by rw [hx]; exact hk)),
    fun hr' hk => let ⟨k₁, h1, h2⟩ := harr.2 hr' (by rw [hx]; exact hk); ⟨k₁, h1, .head h0 stepR_scope h2⟩⟩
 | goto l => exact absurd rfl (hg l)
 | ret => exact ⟨_, a₁, w₁, hq, .of_steps (.one h0 stepR_scope) harr⟩
 | panic ch => exact ⟨_, a₁, w₁, hq, .of_steps (.one h0 stepR_scope) harr⟩
 | outgrown => exact ⟨_, a₁, w₁, hq, .of_steps (.one h0 stepR_scope) harr⟩
end
end Go
namespace Go.Ab
open Go.RowKit
section
variable {P : Program} {E : Env} {ro : Option Nat} {hp : HP} {ι : Nat → Nat} {dom im : Nat → Prop} {w : World}
def noGoto (K : Exit → S → Prop) : Exit → S → Prop
 | .goto _, _ => False
 | e, s => K e s
theorem Tr.scope {c : Code} {s : S} {K : Exit → S → Prop} (h : Tr P ro E c s (noGoto K)) : Tr P ro E (.scope c) s K := by
 intro a w ha
 refine wpIn_scope (wpIn_mono (h a w ha) ?_)
 rintro e a' w' ⟨s', h1, h2⟩
 cases e <;> first
  | exact ⟨fun l hl => by (cases hl), s', h1, h2⟩
  | exact h1.elim
def endKM (P : Program) (rs : List ResultVar) (R : List AV → HP → Prop) : Exit → S → Prop
 | .normal, s | .ret, s => s.df.Nodup ∧ (∀ o ∈ s.df, HP.get s.hp o = some .dfr) ∧ resultsK P ⟨s.fr, HP.drop s.df s.hp, s.nx, []⟩ rs fun xs => R xs (HP.drop s.df s.hp)
 | _, _ => False
theorem drop_cons' (D : Nat) (df : List Nat) (hp : HP) : HP.drop (D :: df) hp = HP.drop df (HP.del hp D) := by
 simp only [HP.drop, HP.del, List.filter_filter]
 apply List.filter_congr
 intro p _
 by_cases h : p.1 = D <;> simp [h]
theorem leaves_df {fn : Func} {tm : Array Value} {R : Ending → World → Prop} : ∀ (df : List Nat) (hp : HP) (w : World), df.Nodup → (∀ o ∈ df, HP.get hp o = some .dfr) → HInv E hp ι dom im w →
 (∀ w', HInv E (HP.drop df hp) ι dom im w' → Cx.Le ⟨ι, dom, im, w⟩ ⟨ι, dom, im, w'⟩ → LeavesIn Fence.wide 0 P fn tm R [] .returning w') →
 LeavesInM Fence.wide 0 P fn tm R (df.map fun o => ({ target := .collected (ι o), args := #[] } : Deferred)) .returning w
 | [], hp, w, _, _, hi, h => by
   have e : HP.drop [] hp = hp := by simp [HP.drop]
   exact h w (by rw [e]; exact hi) (Cx.Le.refl _)
 | D :: df, hp, w, hn, hg, hi, h => by
   have hgD := hg D (by simp)
   have hb : w.heap[ι D]? = some (.deferred (some [])) := hi.own D _ hgD
   have hp1 := hi.putObj (ob' := .deferred none) hgD (shape_dfr hb)
   refine ⟨by simp, .inl ⟨ι D, _, rfl, run_takeDeferred hb, ?_⟩⟩
   have hi2 := hp1.1.del D
   have e5 : HP.del (HP.set hp D (.obj (.deferred none))) D = HP.del hp D := by
    unfold HP.del HP.set
    rw [List.filter_map]
    clear hg hgD h hi hb hp1 hi2
    induction hp with
    | nil => rfl
    | cons q r ih =>
      by_cases hq : q.1 = D
      · simpa [List.filter_cons, hq] using ih
      · simpa [List.filter_cons, hq] using ih
   rw [e5] at hi2
   obtain ⟨hn1, hn2⟩ := List.nodup_cons.1 hn
   refine leaves_df df (HP.del hp D) _ hn2 (fun o ho => ?_) hi2 (fun w' hi3 hle => h w' (by rw [drop_cons']; exact hi3) (hp1.2.trans hle))
   rw [HP.get_del]
   have hne : o ≠ D := fun e => hn1 (e ▸ ho)
   rw [if_neg hne]
   exact hg o (by simp [ho])
theorem endKM_leaves {fn : Func} {s : S} {a : Act} {T : List AV → HP → Prop} {R : Ending → World → Prop} {e : Exit} (h : endKM P fn.results.toList T e s) (ha : Abs E s a w)
 (hR : ∀ ι dom im w' xs v, HInv E (HP.drop s.df s.hp) ι dom im w' → T xs (HP.drop s.df s.hp) → RepS ⟨ι, dom, im, w'⟩ (mkR xs) v → R (.returned v) w') : bodyPostM Fence.wide 0 P fn R e a w := by
 obtain ⟨ι, dom, im, _, hi, hfr, hdf⟩ := ha
 have fin : (s.df.Nodup ∧ (∀ o ∈ s.df, HP.get s.hp o = some .dfr) ∧ resultsK P ⟨s.fr, HP.drop s.df s.hp, s.nx, []⟩ fn.results.toList fun xs => T xs (HP.drop s.df s.hp)) → LeavesInM Fence.wide 0 P fn a.tmps R a.defers .returning w := by
  rintro ⟨h1, h2, h3⟩
  rw [hdf.2]
  refine leaves_df s.df s.hp w h1 h2 hi fun w' hi' hle => ?_
  obtain ⟨xs, v, k1, k2, k3⟩ := results_run (P := P) (s := ⟨s.fr, HP.drop s.df s.hp, s.nx, []⟩) (a := a) hi' (hfr.mono hle) h3
  exact ⟨v, k2, hR ι dom im w' xs v hi' k1 k3⟩
 cases e <;> first
  | exact h.elim
  | exact fin h
theorem pure_of_trM {f : FuncId} {fn : Func} {c : Code} {args : List AV} {r : AV} (hf : P.funcs[f]? = some fn) (hb : fn.body = some c) (hN : args.length ≤ fn.ntmps) (hr : r.idfT = true)
 (h : ∀ E : Env, E.N = fn.ntmps → E.pn = 0 → Tr P none E c ⟨frOf 0 args, [], 0, []⟩ (endKM P fn.results.toList fun xs hp => (mkR xs).frz hp = r)) : Pure P f args r := by
 intro im w vals him hv
 have hlen := hv.length_eq
 let E : Env := ⟨fn.ntmps, w, fun _ => False, im, 0, id⟩
 refine callsIn_of_wp_marks hf hb trivial ?_
 have hsz : (vals.toArray ++ Array.replicate (fn.ntmps - vals.toArray.size) undef).size = fn.ntmps := by simp; omega
 have habs : Abs E ⟨frOf 0 args, [], 0, []⟩ { tmps := vals.toArray ++ Array.replicate (fn.ntmps - vals.toArray.size) undef, defers := [] } w := by
  refine ⟨id, fun _ => False, im, fun _ h => h.elim, ⟨fun o ob h => (by cases h), fun o ob h => (by cases h), fun o ob h => (by cases h), fun o ob h => (by cases h), fun o o' ob ob' h => (by cases h), fun o ob h => (by cases h), him, fun b hb => .inl hb, fun b hb => hb, fun _ _ _ => rfl, Nat.le_refl _, rfl, rfl, rfl, fun _ _ h => h, fun o ho => absurd ho (Nat.not_lt_zero o)⟩,
   ⟨hsz, fun t => ?_⟩, (fun o ho => by cases ho), rfl⟩
  rw [frOf_get]
  simp only [Nat.zero_le, if_true, Nat.sub_zero]
  have := RepVs.getD hv t
  have e : (vals.toArray ++ Array.replicate (fn.ntmps - vals.toArray.size) undef).getD t undef = (vals[t]?).getD undef := by
   simp only [Array.getD_eq_getD_getElem?, Array.getElem?_append, List.size_toArray, List.getElem?_toArray]
   split
   · rfl
   · rename_i hge
     rw [List.getElem?_eq_none (by omega)]
     simp [Array.getElem?_replicate]
     split <;> rfl
  rw [e]
  exact this
 refine wpIn_mono (h E rfl rfl _ _ habs) ?_
 rintro e a' w' ⟨s', hk, ha⟩
 refine endKM_leaves hk ha ?_
 intro ι' dom' im' w'' xs v hi h2 h4
 refine ⟨v, rfl, ⟨hi.os, hi.tape, hi.output, hi.size, fun k hk => hi.ext k hk (fun h => h)⟩, ?_⟩
 have hm : ∀ b, im' b → im b ∨ (w.heap.size ≤ b ∧ b < w''.heap.size) := fun b hb => by
  rcases hi.imsub b hb with h | h | h
  · exact .inl h
  · exact h.elim
  · exact .inr ⟨h, hi.imlt b hb⟩
 have ho : ∀ o ob, HP.get (HP.drop s'.df s'.hp) o = some ob → ob.real → im (ι' o) ∨ (w.heap.size ≤ ι' o ∧ ι' o < w''.heap.size) := fun o ob hg hre => by
  rcases hi.loc o ob hg hre with h | h
  · exact h.elim
  · exact .inr ⟨h, hi.lt o ob hg hre⟩
 have h5 := RepS.frz hi (im2 := fun b => im b ∨ (w.heap.size ≤ b ∧ b < w''.heap.size)) hm ho h4
 rw [h2] at h5
 exact RepS.mono (Cx.Le.none ι' id _ _ _) (RepS.idf hr h5)
theorem tr_y {L l : Nat} {b : LB} {ps : Array Tmp} {assign body : Code} {fr0 : FR} {N0 : Nat} (k : Nat) (sd : Side E L l b ps assign body fr0 N0)
 {id : Nat} {ops : Array Oper} {s : S} {K : Exit → S → Prop} {o : Oper} {post : List Oper} {c : Call} {f : Operand} (hd : dstOK E.N ops = true) (hops : ops.toList.drop k = o :: post) (hop : o.op = .call c) (hcal : c.callee = .value f)
 (h : vcOps P (pureK P) ops (ops.toList.take k) s (guardY P (pureK P) ops o post (vcYield P (pureK P) ops L l b ps assign body fr0 N0 o c f post (K .normal)) (K .normal))) : Tr P none E (.region id ops false) s K := by
 refine Tr.regionY (pureK_ok P).sound sd hd ?_ hop hcal h
 rw [← hops, List.take_append_drop]
theorem tr_seq_y {L l : Nat} {b : LB} {ps : Array Tmp} {assign body : Code} {fr0 : FR} {N0 : Nat} (k : Nat) (sd : Side E L l b ps assign body fr0 N0)
 {id : Nat} {ops : Array Oper} {y : Code} {s : S} {K : Exit → S → Prop} {o : Oper} {post : List Oper} {c : Call} {f : Operand} (hd : dstOK E.N ops = true) (hops : ops.toList.drop k = o :: post) (hop : o.op = .call c) (hcal : c.callee = .value f)
 (h : vcOps P (pureK P) ops (ops.toList.take k) s (guardY P (pureK P) ops o post (vcYield P (pureK P) ops L l b ps assign body fr0 N0 o c f post fun s' => Tr P none E y s' K) fun s' => Tr P none E y s' K)) : Tr P none E (.seq (.region id ops false) y) s K :=
 Tr.seq (tr_y k sd hd hops hop hcal h)
section
variable {CK : CallK} {ops : Array Oper} {o : Oper} {post : List Oper} {Y K : S → Prop} {s : S}
theorem gy_if {j d : Nat} {want : Bool} (hg : o.guard = some (j, want)) (hs : guardSlot ops j = some d) (hb : s.fr.get d = .bool want) (h : Y (s.put (some d) (.bool want))) : guardY P CK ops o post Y K s := by
 simp only [guardY, hg, hs, hb]; exact ⟨fun _ => h, fun e => by cases want <;> cases e⟩
theorem gy_no {j d : Nat} {want : Bool} (hg : o.guard = some (j, want)) (hs : guardSlot ops j = some d) (hb : s.fr.get d = .bool (!want)) (h : vcOps P CK ops post ((s.put (some d) (.bool !want)).put o.dst (.tup [])) K) : guardY P CK ops o post Y K s := by
 simp only [guardY, hg, hs, hb]; exact ⟨fun e => (by cases want <;> cases e), fun _ => h⟩
end
theorem Wk.nilVar {s : S} (o sz : Nat) (h : HP.get s.hp o = some (.var (.sl [] true))) : Wk E s { s with hp := (s.nx, .row sz []) :: HP.set s.hp o (.var (.ms s.nx sz 0)), nx := s.nx + 1 } := by
 rintro a w ⟨ι, dom, im, h1, h2, h3, h4, h5⟩
 have hid : ¬ dom s.nx := fun h => by have := h1 _ h; omega
 have hle : Cx.Le ⟨ι, dom, im, w⟩ ⟨ι, fun o => dom o ∨ o = s.nx, im, w⟩ := Cx.Le.grow ⟨ι, dom, im, w⟩ (fun _ h => .inl h) (fun _ _ => rfl) (fun _ h => h)
 have hi := h2.addNil hid sz
 have hne : ¬ s.nx = o := fun e => hid (by rw [e]; exact h2.dm o _ h)
 have hg : HP.get ((s.nx, .row sz []) :: s.hp) o = some (.var (.sl [] true)) := by rw [HP.get_cons, if_neg hne]; exact h
 have hw := (hi.write (w' := w) (ao' := .var (.ms s.nx sz 0)) hg trivial rfl rfl rfl rfl (fun _ _ => rfl) (fun _ h => h) (fun _ => by
  obtain ⟨cs, e, k1, k2⟩ := hi.own o _ hg
  refine ⟨cs, e, k1, ?_⟩
  simp only [Rep] at k2 ⊢
  obtain ⟨A, c, h6, _, _, h7, _⟩ := k2
  have hc := h7 (by trivial)
  subst hc
  exact ⟨A, 0, h6, .inr (by trivial), by simp, by simp [maxLen], .inl ⟨by trivial, by trivial⟩⟩)).1
 have he : HP.set ((s.nx, .row sz []) :: s.hp) o (.var (.ms s.nx sz 0)) = (s.nx, .row sz []) :: HP.set s.hp o (.var (.ms s.nx sz 0)) := by
  simp only [HP.set, List.map_cons]
  rw [show ((s.nx == o) = false) by simpa using hne]
  rfl
 rw [he] at hw
 exact ⟨ι, _, im, fun o ho => by
  rcases ho with ho | ho
  · have := h1 o ho; simp only; omega
  · simp only; omega, hw, h3.mono hle, fun o ho => .inl (h4 o ho), h5⟩
end
end Go.Ab
namespace Go.Ab
open Go.RowKit Go.ChangeShapes Go.WideShapes Go.ChangeAt
theorem tab_ren (ρ : Nat → Nat) (g : Nat) (x : AV) : (AO.tab g x).ren ρ = .tab g x := rfl
theorem tab_head (o g : Nat) (x : AV) (hp : HP) : HP.tabOf ((o, .tab g x) :: hp) g = .ref x := by
 simp [HP.tabOf, HP.get_cons]
attribute [go_sem] tab_ren tab_head
section
variable {P : Program}
theorem eff_of_trM {f : FuncId} {fn : Func} {c : Code} {args : List AV} {r : AV} {n : Nat} {hin ho : HP} (hf : P.funcs[f]? = some fn) (hb : fn.body = some c) (hN : args.length ≤ fn.ntmps) (hids : r.idsB (n + 16) = true)
 (h : ∀ E : Env, E.N = fn.ntmps → E.pn = n → Tr P none E c ⟨frOf 0 args, hin, n, []⟩ (endKM P fn.results.toList fun xs hp => ∃ ρ : Nat → Nat, (mkR xs).frz (HP.drop (ho.map fun p => ρ p.1) hp) = r.ren ρ ∧ hpLe ρ hp (n + 16) ho ∧ rhoInj ρ ho = true ∧ ∀ o, o < n → ρ o = o)) : Eff P f args n hin r ho := by
 intro ι0 im w vals hI0 hv
 have hlen := hv.length_eq
 let own0 : Nat → Prop := fun b => ∃ o ob, HP.get hin o = some ob ∧ ob.real ∧ ι0 o = b
 let E : Env := ⟨fn.ntmps, w, own0, im, n, ι0⟩
 refine callsIn_of_wp_marks hf hb trivial ?_
 have hsz : (vals.toArray ++ Array.replicate (fn.ntmps - vals.toArray.size) undef).size = fn.ntmps := by simp; omega
 have habs : Abs E ⟨frOf 0 args, hin, n, []⟩ { tmps := vals.toArray ++ Array.replicate (fn.ntmps - vals.toArray.size) undef, defers := [] } w := by
  refine ⟨ι0, fun o => o < n, im, fun _ h => h, ⟨hI0.own, hI0.dm, hI0.lt, hI0.nim, hI0.inj, hI0.loc, hI0.imlt, hI0.imsub, hI0.im0, hI0.ext, hI0.size, hI0.os, hI0.tape, hI0.output, hI0.sh, hI0.pin⟩,
   ⟨hsz, fun t => ?_⟩, (fun o ho => by cases ho), rfl⟩
  rw [frOf_get]
  simp only [Nat.zero_le, if_true, Nat.sub_zero]
  have := RepVs.getD hv t
  have e : (vals.toArray ++ Array.replicate (fn.ntmps - vals.toArray.size) undef).getD t undef = (vals[t]?).getD undef := by
   simp only [Array.getD_eq_getD_getElem?, Array.getElem?_append, List.size_toArray, List.getElem?_toArray]
   split
   · rfl
   · rename_i hge
     rw [List.getElem?_eq_none (by omega)]
     simp [Array.getElem?_replicate]
     split <;> rfl
  rw [e]
  exact this
 refine wpIn_mono (h E rfl rfl _ _ habs) ?_
 rintro e a' w0' ⟨s', hk, ha⟩
 refine endKM_leaves hk ha ?_
 intro ι' dom' im' w' xs v hi hT h4
 obtain ⟨ρ, h2, hle, hinj, hpρ⟩ := hT
 generalize HP.drop s'.df s'.hp = hp' at hi h2 hle
 have hF : HInv E (HP.drop (ho.map fun p => ρ p.1) hp') ι' dom' im' w' := (hi.step (Below.refl _ _) (fun o ob hg => (HP.get_drop _ _ _ _ hg).1) (fun _ h => h) (fun o ob hg => hi.nim o ob (HP.get_drop _ _ _ _ hg).1) hi.imlt hi.imsub).1
 let im2 : Nat → Prop := fun b => im' b ∨ ∃ o ob, HP.get (HP.drop (ho.map fun p => ρ p.1) hp') o = some ob ∧ ob.real ∧ ι' o = b
 have h5 := RepS.frz hF (im2 := im2) (fun b hb => .inl hb) (fun o ob hg hr => .inr ⟨o, ob, hg, hr, rfl⟩) h4
 rw [h2] at h5
 have h6 := RepS.pull hids h5
 have hle' : Cx.Le ⟨ι', dom', im', w'⟩ ⟨ι', dom', im2, w'⟩ := Cx.Le.grow ⟨ι', dom', im', w'⟩ (fun _ h => h) (fun _ _ => rfl) (fun _ h => .inl h)
 have hm : ∀ o ob, HP.get ho o = some ob → HP.get hp' (ρ o) = some (ob.ren ρ) ∧ ob.idsB (n + 16) = true ∧ o < n + 16 := fun o ob hg => hpLe_mem hle (o, ob) (HP.get_mem hg)
 refine ⟨v, _, _, _, rfl, ⟨fun o ob hg => ?_, fun o ob hg => ?_, fun o ob hg hr => ?_, fun o ob hg hr => ?_, fun o o' ob ob' hg hg' hr hr' he => ?_, fun o ob hg hr => ?_, fun b hb => ?_, fun b hb => ?_, fun b hb => .inl (hi.im0 b hb), hi.ext, hi.size, hi.os, hi.tape, hi.output, hi.sh, fun o ho => ⟨⟨by rw [hpρ o ho]; exact (hi.pin o ho).1, Nat.lt_of_lt_of_le ho (Nat.le_add_right n 16)⟩, by show ι' (ρ o) = _; rw [hpρ o ho]; exact (hi.pin o ho).2⟩⟩, h6, fun o h => h.2⟩
 · obtain ⟨k1, k2, k3⟩ := hm o ob hg
   exact Owns.pull (C := ⟨ι', dom', im2, w'⟩) k2 ((hi.own _ _ k1).mono hle' (fun _ => rfl))
 · obtain ⟨k1, k2, k3⟩ := hm o ob hg
   exact ⟨hi.dm _ _ k1, k3⟩
 · obtain ⟨k1, k2, k3⟩ := hm o ob hg
   exact hi.lt _ _ k1 ((real_ren ρ ob).2 hr)
 · obtain ⟨k1, k2, k3⟩ := hm o ob hg
   rintro (h | ⟨o', ob', l1, l2, l3⟩)
   · exact hi.nim _ _ k1 ((real_ren ρ ob).2 hr) h
   · obtain ⟨m1, m2⟩ := HP.get_drop _ _ _ _ l1
     have := hi.inj _ _ _ _ m1 k1 l2 ((real_ren ρ ob).2 hr) l3
     subst this
     have hc : (ho.map fun p => ρ p.1).contains (ρ o) = true := by
      rw [List.contains_iff_mem]
      exact List.mem_map.2 ⟨(o, ob), HP.get_mem hg, rfl⟩
     rw [hc] at m2; cases m2
 · obtain ⟨k1, k2, k3⟩ := hm o ob hg
   obtain ⟨l1, l2, l3⟩ := hm o' ob' hg'
   have hρ := hi.inj _ _ _ _ k1 l1 ((real_ren ρ ob).2 hr) ((real_ren ρ ob').2 hr') he
   have := List.all_eq_true.1 (List.all_eq_true.1 hinj (o, ob) (HP.get_mem hg)) (o', ob') (HP.get_mem hg')
   simpa [hρ] using this
 · obtain ⟨k1, k2, k3⟩ := hm o ob hg
   exact hi.loc _ _ k1 ((real_ren ρ ob).2 hr)
 · rcases hb with h | ⟨o, ob, l1, l2, rfl⟩
   · exact hi.imlt b h
   · exact hi.lt o ob (HP.get_drop _ _ _ _ l1).1 l2
 · rcases hb with h | ⟨o, ob, l1, l2, rfl⟩
   · exact hi.imsub b h
   · exact .inr (hi.loc o ob (HP.get_drop _ _ _ _ l1).1 l2)
abbrev PureT (P : Program) (g : Nat) (x : AV) (f : FuncId) (args : List AV) (r : AV) : Prop := Eff P f args 1 [(0, .tab g x)] r [(0, .tab g x)]
theorem bool_val {C : Cx} {v : Value} (hr : RepS C (.bool true) v) : v = .bool true := by
 have := hr.1
 have h5 := hr.2
 simp only [Rep, AV.agg] at this h5
 cases v <;> simp_all [Value.cells, isAggV]
variable {H : Type} {enc : TypeId × Value → H}
theorem lifted_laid {C : Checked} {os : Os} {f : FuncId} {fn : Func} {s : ChangeSpec} {tb : TypeId} {m : Nat} {apart fresh handsOn again : Bool} {laid : List (String × DataW Unit)} {g : Nat} {x : AV} (started : os.Started) (own : ownKnob C.prog.godebug = none) (noInit : C.prog.inits.idxOf? f = none) (hfn : C.prog.funcs[f]? = some fn)
 (witness : ∃ (w : World) (tape : Tape) (i : Input), w.os = os ∧ (w.forCall tape i).Shaped C.prog ∧ i.vars = [] ∧ Input.okWide C.prog (w.forCall tape i) .any w.heap.size f i ∧
  ((s.pre enc C.prog fn [] apart (w.forCall tape i).memory i.args ∧ laidMet C.prog laid (w.forCall tape i).memory) ∧ sizedMet enc C.prog fn (OpenSpec.ofChange s) apart (w.forCall tape i).memory i.args) ∧ ({} : Assume).holds C.prog (lone (Frame.enter C.prog f i.args .normal) [] (w.forCall tape i)))
 (htab : ∀ W : World, laidMet C.prog laid W → Rep ⟨id, fun _ => False, fun b => b < W.heap.size, W⟩ (.ref x) [.pointer (some ⟨g, 0, none⟩)])
 (hl : laidOutB C.prog = true) (hv : s.vars = []) (hpar : fn.params.toList.all (fun t => decide (t < C.prog.types.size) && goodT C.prog m t && C.prog.readableRec t) = true) (hres : fn.resultTypes = #[tb]) (htb : C.prog.underlying tb = some .bool)
 (hspec : ∀ ds : List (DataW H), ds.length = fn.params.toList.length → s.fn H ds = { results := [.lit (.bool true)], args := ds })
 (law : ∀ xs, hasTs C.prog m fn.params.toList xs → PureT C.prog g x f xs (.bool true)) :
 ReturnsInHanded {} C os f .any (fun w args => (s.pre enc C.prog fn [] apart w args ∧ laidMet C.prog laid w) ∧ sizedMet enc C.prog fn (OpenSpec.ofChange s) apart w args) (s.post enc C.prog fn apart fresh handsOn again) := by
 have hpar' : ∀ t ∈ fn.params.toList, t < C.prog.types.size ∧ goodT C.prog m t = true ∧ C.prog.readableRec t = true := fun t ht => by
  have := List.all_eq_true.1 hpar t ht
  simp only [Bool.and_eq_true, decide_eq_true_eq] at this
  exact ⟨this.1.1, this.1.2, this.2⟩
 refine returnsInHanded_of_change_and (X := fun w _ => laidMet C.prog laid w) (fun _ _ _ hh h => h.of_heap hh) own started noInit hfn witness ?_
 intro W base args ds gs before hval hW _ _ hL _
 have hW' := hW
 obtain ⟨p, q, hA, hV, rfl, _, _⟩ := hW
 rw [hv] at hV
 obtain ⟨rfl, rfl⟩ := trodVars_none hV
 rw [List.append_nil] at hW'
 obtain ⟨xs, h1, h2⟩ := reps_of_trodAll (im := fun b => b < W.heap.size) hl (fun b h => h) _ _ _ _ (fun t ht => ⟨(hpar' t ht).1, (hpar' t ht).2.1⟩) (fun j t v h3 h4 => hval j t v (by simpa using h3) (by simpa using h4)) hA
 have hle : Cx.Le ⟨id, fun _ => False, fun b => b < W.heap.size, W⟩ ⟨fun _ => 0, fun o => o < 1, fun b => b < W.heap.size, W⟩ := ⟨fun _ h => h.elim, fun _ h => h.elim, fun _ h => h, fun _ _ _ => rfl, Nat.le_refl _, fun _ _ h => h⟩
 have ht := htab W hL
 have hg : ∀ o ob, HP.get [(0, AO.tab g x)] o = some ob → o = 0 ∧ ob = .tab g x := fun o ob h => by
  rw [HP.get_cons] at h
  split at h
  · rename_i e; cases h; exact ⟨e.symm, rfl⟩
  · cases h
 have h3 := law xs h1 (fun _ => 0) (fun b => b < W.heap.size) W args.toList
  ⟨fun o ob h => by obtain ⟨rfl, rfl⟩ := hg o ob h; exact Rep.mono hle _ _ ht, fun o ob h => by obtain ⟨rfl, rfl⟩ := hg o ob h; exact Nat.one_pos,
   fun o ob h hr => by obtain ⟨rfl, rfl⟩ := hg o ob h; exact hr.elim, fun o ob h hr => by obtain ⟨rfl, rfl⟩ := hg o ob h; exact hr.elim,
   fun o o' ob ob' h _ hr => by obtain ⟨rfl, rfl⟩ := hg o ob h; exact hr.elim, fun o ob h hr => by obtain ⟨rfl, rfl⟩ := hg o ob h; exact hr.elim,
   fun b h => h, fun b h => .inl h, fun b h => h, fun _ _ _ => rfl, Nat.le_refl _, rfl, rfl, rfl, fun _ _ h => h, fun o ho => ⟨ho, rfl⟩⟩ (RepVs.mono hle _ _ h2)
 have h4 := callsIn_wide.1 h3
 refine Calls.mono h4 ?_
 rintro e W' ⟨v, ι', dom', im', rfl, hi, hr, _⟩
 have hv' : v = .bool true := bool_val hr
 subst hv'
 have hb : Below W.heap.size W W' := ⟨hi.os, hi.tape, hi.output, hi.size, fun k hk => hi.ext k hk (fun ⟨o, ob, h, hr, _⟩ => by obtain ⟨rfl, rfl⟩ := hg o ob h; exact hr.elim)⟩
 exact ⟨_, rfl, post_of_below hl hv (fun t ht => ⟨(hpar' t ht).1, (hpar' t ht).2.2⟩) hA hW' hres htb (hspec ds (trodAll_len hA)) hb⟩
theorem tab_laid {name : String} {zs : List Int} {g : Nat} {t e : TypeId} {n : Nat} {k : IntKind} (hg : P.globalNamed name = some g) (hgt : (P.globals[g]?).map (·.type) = some t)
 (ht : P.underlying t = some (.array n e)) (he : P.underlying e = some (.int k)) (hce : P.cellsOf e = 1) (hct : P.cellsOf t = n) {W : World} (h0 : 0 < zs.length) (hL : laidMet P [(name, Lib.tabData k zs)] W) :
 Rep ⟨id, fun _ => False, fun b => b < W.heap.size, W⟩ (.ref (.arr (zs.map (AV.int k)))) [.pointer (some ⟨g, 0, none⟩)] := by
 have hT := Lib.tabIs_of_head hg hgt ht he hce hct hL
 have hc : ∀ i, i < zs.length → W.cell? ⟨g, i, none⟩ = some (.int k (zs.getD i 0)) := fun i hi => hT.cell hg i hi
 have hlt : g < W.heap.size := by
  have := hc 0 h0
  simp only [World.cell?] at this
  rcases Nat.lt_or_ge g W.heap.size with h | h
  · exact h
  · rw [Array.getElem?_eq_none h] at this; simp at this
 simp only [Rep]
 refine ⟨g, 0, zs.map (Value.int k), rfl, hlt, hlt, ⟨zs.map fun z => [.int k z], ?_, ?_⟩, ?_⟩
 · clear hc h0 hL hT
   induction zs with
   | nil => simp [RepL]
   | cons z zs ih => simp only [List.map_cons, RepL]; exact ⟨_, _, rfl, by simp [Rep], ih⟩
 · clear hc h0 hL hT
   induction zs with
   | nil => rfl
   | cons z zs ih => simp [ih]
 · intro i v hv
   rw [Nat.zero_add]
   have hi : i < zs.length := by
    have := (List.getElem?_eq_some_iff.1 hv).1
    simpa using this
   rw [hc i hi]
   rw [List.getElem?_map, List.getElem?_eq_getElem hi] at hv
   rw [← hv]
   simp [hi]
theorem wk_ren_df {E : Env} {s s' : S} (ρ : Nat → Nat) (hf : frLe ρ s.fr s'.nx s'.fr) (hh : hpLe ρ s.hp s'.nx s'.hp) (hinj : (s'.hp.all fun p => s'.hp.all fun q => !(ρ p.1 == ρ q.1) || p.1 == q.1) = true)
 (hd : s.df = s'.df.map ρ) (hd' : (s'.df.all fun o => decide (o < s'.nx)) = true) (hpin : ∀ o, o < E.pn → ρ o = o ∧ o < s'.nx := by first | exact pin_zero (by assumption) | exact pin_some (by assumption) rfl) : Wk E s s' := by
 refine Wk.ren ρ (frLe_mem hf) (hpLe_mem hh) (fun p hp q hq h => ?_) ⟨hd, fun o ho => of_decide_eq_true (List.all_eq_true.1 hd' o ho)⟩ hpin
 have := List.all_eq_true.1 (List.all_eq_true.1 hinj p hp) q hq
 simpa [h] using this
end
end Go.Ab
namespace Go.Ab
open Go.RowKit
inductive Plan
 | done
 | one (k : Nat) (p : Plan)
 | two (k : Nat) (p : Plan) (j : Nat) (q : Plan)
 | tri (k : Nat) (p : Plan) (j : Nat) (q : Plan) (i : Nat) (r : Plan)
section
variable {P : Program} {CK : CallK} {ops : Array Oper} {hpD : HP} {D : List Nat} {E : Env} {ro : Option Nat} {s : S}
def planB (ops : Array Oper) : Plan → Nat → Array Bool → Bool
 | .done, _, listed => (Region.ready .any ops listed).isEmpty
 | .one k p, n + 1, listed => (Region.ready .any ops listed).contains k && freeD [] ops listed k && planB ops p n (listed.setIfInBounds k true)
 | .two k p j q, n + 1, listed => (Region.ready .any ops listed).all (fun i => i == k || i == j) && !(Region.ready .any ops listed).isEmpty && planB ops p n (listed.setIfInBounds k true) && planB ops q n (listed.setIfInBounds j true)
 | .tri k p j q l r, n + 1, listed => (Region.ready .any ops listed).all (fun i => i == k || (i == j || i == l)) && !(Region.ready .any ops listed).isEmpty && planB ops p n (listed.setIfInBounds k true) && planB ops q n (listed.setIfInBounds j true) && planB ops r n (listed.setIfInBounds l true)
 | _, 0, _ => false
def planT (P : Program) (CK : CallK) (ops : Array Oper) (hpD : HP) (D : List Nat) (nx : Nat) (Q : FG → HP → Prop) : Plan → FG → HP → Prop
 | .done, g, hp => Q g hp
 | .one k p, g, hp => ∃ o, ops[k]? = some o ∧ opT P CK [] [] ops hpD D o (nx + 16 * k) (planT P CK ops hpD D nx Q p) g hp
 | .two k p j q, g, hp => (∃ o, ops[k]? = some o ∧ opT P CK [] [] ops hpD D o (nx + 16 * k) (planT P CK ops hpD D nx Q p) g hp) ∧ ∃ o, ops[j]? = some o ∧ opT P CK [] [] ops hpD D o (nx + 16 * j) (planT P CK ops hpD D nx Q q) g hp
 | .tri k p j q i r, g, hp => (∃ o, ops[k]? = some o ∧ opT P CK [] [] ops hpD D o (nx + 16 * k) (planT P CK ops hpD D nx Q p) g hp) ∧ (∃ o, ops[j]? = some o ∧ opT P CK [] [] ops hpD D o (nx + 16 * j) (planT P CK ops hpD D nx Q q) g hp) ∧ ∃ o, ops[i]? = some o ∧ opT P CK [] [] ops hpD D o (nx + 16 * i) (planT P CK ops hpD D nx Q r) g hp
theorem planT_any (hC : CKok P CK) {nx : Nat} {Q : FG → HP → Prop} : ∀ (p : Plan) (n : Nat) (listed : Array Bool) (g : FG) (hp : HP), Closed ops listed → planB ops p n listed = true → planT P CK ops hpD D nx Q p g hp → anyT P CK [] [] ops hpD D nx Q n listed g hp
 | .done, 0, listed, g, hp, _, hB, h => ⟨by simpa [planB] using hB, h⟩
 | .done, n + 1, listed, g, hp, _, hB, h => by
   have he : Region.ready .any ops listed = [] := by simpa [planB] using hB
   exact ⟨fun _ => h, fun i hi => by rw [he] at hi; cases hi⟩
 | .one k p, 0, listed, g, hp, _, hB, _ => by simp [planB] at hB
 | .two k p j q, 0, listed, g, hp, _, hB, _ => by simp [planB] at hB
 | .tri k p j q i r, 0, listed, g, hp, _, hB, _ => by simp [planB] at hB
 | .one k p, n + 1, listed, g, hp, hcl, hB, h => by
   simp only [planB, Bool.and_eq_true] at hB
   obtain ⟨⟨hr, hf⟩, hB'⟩ := hB
   have hr' : k ∈ Region.ready .any ops listed := by simpa using hr
   obtain ⟨o, h0, h⟩ := h
   refine anyT_first hC fun_nil h0 n listed g hp hcl (freeD_spec h0 hf) hr' ?_
   exact opT_mono hC (fun g' h' k' => planT_any hC p n _ g' h' (closed_set hcl hr') hB' k') h
 | .two k p j q, n + 1, listed, g, hp, hcl, hB, h => by
   simp only [planB, Bool.and_eq_true] at hB
   obtain ⟨⟨⟨hr, hne⟩, hB1⟩, hB2⟩ := hB
   have hne' : Region.ready .any ops listed ≠ [] := by simpa using hne
   refine ⟨fun he => absurd he hne', fun i hi o ho => ?_⟩
   have := List.all_eq_true.1 hr i hi
   simp only [Bool.or_eq_true, beq_iff_eq] at this
   obtain ⟨⟨o1, e1, h1⟩, o2, e2, h2⟩ := h
   rcases this with rfl | rfl
   · rw [e1] at ho; cases ho
     exact opT_mono hC (fun g' h' k' => planT_any hC p n _ g' h' (closed_set hcl hi) hB1 k') h1
   · rw [e2] at ho; cases ho
     exact opT_mono hC (fun g' h' k' => planT_any hC q n _ g' h' (closed_set hcl hi) hB2 k') h2
 | .tri k p j q l r, n + 1, listed, g, hp, hcl, hB, h => by
   simp only [planB, Bool.and_eq_true] at hB
   obtain ⟨⟨⟨⟨hr, hne⟩, hB1⟩, hB2⟩, hB3⟩ := hB
   have hne' : Region.ready .any ops listed ≠ [] := by simpa using hne
   refine ⟨fun he => absurd he hne', fun i hi o ho => ?_⟩
   have := List.all_eq_true.1 hr i hi
   simp only [Bool.or_eq_true, beq_iff_eq] at this
   obtain ⟨⟨o1, e1, h1⟩, ⟨o2, e2, h2⟩, o3, e3, h3⟩ := h
   rcases this with rfl | rfl | rfl
   · rw [e1] at ho; cases ho
     exact opT_mono hC (fun g' h' k' => planT_any hC p n _ g' h' (closed_set hcl hi) hB1 k') h1
   · rw [e2] at ho; cases ho
     exact opT_mono hC (fun g' h' k' => planT_any hC q n _ g' h' (closed_set hcl hi) hB2 k') h2
   · rw [e3] at ho; cases ho
     exact opT_mono hC (fun g' h' k' => planT_any hC r n _ g' h' (closed_set hcl hi) hB3 k') h3
def stepD (P : Program) (CK : CallK) (ops : Array Oper) (hpD : HP) (D : List Nat) (o : Oper) (id : Nat) (s : S) (K : S → Prop) : Prop :=
 match o.guard with
 | none => opD P CK [] [] ops hpD D o id s.evD s.hp fun v hp' => K ({ s with hp := hp' }.put o.dst v)
 | some (j, want) =>
   match guardSlot ops j with
   | some d => match s.fr.get d with
     | .bool b =>
       (b = want → opD P CK [] [] ops hpD D o id (s.put (some d) (.bool want)).evD s.hp fun v hp' => K (({ s with hp := hp' }.put (some d) (.bool want)).put o.dst v)) ∧
       (b = !want → K ((s.put (some d) (.bool !want)).put o.dst (.tup [])))
     | .tup [] => K (s.put o.dst (.tup []))
     | _ => False
   | none => False
theorem stepD_T (hC : CKok P CK) {o : Oper} {id : Nat} {df : List Nat} {K : S → Prop} {L : FG → HP → Prop} (hL : ∀ s', s'.df = df → K s' → L s'.fr.get s'.hp) (hdf : s.df = df) (h : stepD P CK ops hpD D o id s K) : opT P CK [] [] ops hpD D o id L s.fr.get s.hp := by
 unfold stepD at h
 unfold opT
 cases hg : o.guard with
 | none =>
   simp only [hg] at h
   simp only
   rw [ev_evF] at h
   refine opD_mono hC (fun v hp' k' => ?_) h
   have := hL _ (by rw [S.put_df]; exact hdf) k'
   rwa [get_putS, S.put_hp] at this
 | some p =>
   obtain ⟨j, want⟩ := p
   simp only [hg] at h
   simp only
   cases hs : guardSlot ops j with
   | none => rw [hs] at h; exact h.elim
   | some d =>
     rw [hs] at h
     simp only at h ⊢
     split at h
     · rename_i b hb
       try rw [hb]
       try simp only
       by_cases hw : b = want
       · rw [if_pos hw]
         have h := h.1 hw
         have e1 : (s.put (some d) (.bool want)).evD = evF s.fr.get := by rw [ev_evF, get_putS, updF_self _ _ _ (by rw [hb, hw])]
         rw [e1] at h
         refine opD_mono hC (fun v hp' k' => ?_) h
         have := hL _ (by rw [S.put_df, S.put_df]; exact hdf) k'
         rw [get_putS, S.put_hp, S.put_hp, get_putS, updF_self _ _ _ (by show s.fr.get d = _; rw [hb, hw])] at this
         exact this
       · rw [if_neg hw]
         have hbn : b = !want := by cases b <;> cases want <;> simp_all
         have := hL _ (by rw [S.put_df, S.put_df]; exact hdf) (h.2 hbn)
         rw [get_putS, S.put_hp, S.put_hp, get_putS, updF_self _ _ _ (by rw [hb, hbn])] at this
         exact this
     · rename_i hb
       try rw [hb]
       have := hL _ (by rw [S.put_df]; exact hdf) h
       rwa [get_putS, S.put_hp] at this
     · exact h.elim
def vcPlan (P : Program) (CK : CallK) (ops : Array Oper) (hpD : HP) (D : List Nat) (nx : Nat) (K : S → Prop) : Plan → S → Prop
 | .done, s => K { s with nx := nx + 16 * ops.size }
 | .one k p, s => ∃ o, ops[k]? = some o ∧ stepD P CK ops hpD D o (nx + 16 * k) s (vcPlan P CK ops hpD D nx K p)
 | .two k p j q, s => (∃ o, ops[k]? = some o ∧ stepD P CK ops hpD D o (nx + 16 * k) s (vcPlan P CK ops hpD D nx K p)) ∧ ∃ o, ops[j]? = some o ∧ stepD P CK ops hpD D o (nx + 16 * j) s (vcPlan P CK ops hpD D nx K q)
 | .tri k p j q i r, s => (∃ o, ops[k]? = some o ∧ stepD P CK ops hpD D o (nx + 16 * k) s (vcPlan P CK ops hpD D nx K p)) ∧ (∃ o, ops[j]? = some o ∧ stepD P CK ops hpD D o (nx + 16 * j) s (vcPlan P CK ops hpD D nx K q)) ∧ ∃ o, ops[i]? = some o ∧ stepD P CK ops hpD D o (nx + 16 * i) s (vcPlan P CK ops hpD D nx K r)
theorem stepD_mono (hC : CKok P CK) {o : Oper} {id : Nat} {K L : S → Prop} (hL : ∀ s', K s' → L s') (h : stepD P CK ops hpD D o id s K) : stepD P CK ops hpD D o id s L := by
 unfold stepD at *
 split
 · rename_i hg
   simp only [hg] at h
   exact opD_mono hC (fun v hp' k' => hL _ k') h
 · rename_i j want hg
   simp only [hg] at h
   split
   · rename_i d hd
     simp only [hd] at h
     split
     · rename_i b hb
       simp only [hb] at h
       exact ⟨fun e => opD_mono hC (fun v hp' k' => hL _ k') (h.1 e), fun e => hL _ (h.2 e)⟩
     · rename_i hb
       simp only [hb] at h
       exact hL _ h
     · rename_i h1 h2
       split at h
       · rename_i b hb; exact (h1 b hb).elim
       · rename_i hb; exact (h2 hb).elim
       · exact h.elim
   · rename_i hd
     simp only [hd] at h
theorem vcPlan_mono (hC : CKok P CK) {nx : Nat} {K L : S → Prop} (hL : ∀ s', K s' → L s') : ∀ (p : Plan) (s : S), vcPlan P CK ops hpD D nx K p s → vcPlan P CK ops hpD D nx L p s
 | .done, _, h => hL _ h
 | .one _ p, _, ⟨o, h0, h⟩ => ⟨o, h0, stepD_mono hC (fun s' h' => vcPlan_mono hC hL p s' h') h⟩
 | .two _ p _ q, _, ⟨⟨o, h0, h⟩, o', h0', h'⟩ => ⟨⟨o, h0, stepD_mono hC (fun s' h1 => vcPlan_mono hC hL p s' h1) h⟩, o', h0', stepD_mono hC (fun s' h1 => vcPlan_mono hC hL q s' h1) h'⟩
 | .tri _ p _ q _ r, _, ⟨⟨o, h0, h⟩, ⟨o', h0', h'⟩, o2, h02, h2⟩ => ⟨⟨o, h0, stepD_mono hC (fun s' h1 => vcPlan_mono hC hL p s' h1) h⟩, ⟨o', h0', stepD_mono hC (fun s' h1 => vcPlan_mono hC hL q s' h1) h'⟩, o2, h02, stepD_mono hC (fun s' h1 => vcPlan_mono hC hL r s' h1) h2⟩
theorem vcPlan_T (hC : CKok P CK) {nx : Nat} {df : List Nat} {K : S → Prop} : ∀ (p : Plan) (s : S), s.df = df → vcPlan P CK ops hpD D nx K p s →
 planT P CK ops hpD D nx (fun g hp => ∃ s', s'.fr.get = g ∧ s'.hp = hp ∧ s'.nx = nx + 16 * ops.size ∧ s'.df = df ∧ K s') p s.fr.get s.hp
 | .done, s, hdf, h => ⟨{ s with nx := nx + 16 * ops.size }, rfl, rfl, rfl, hdf, h⟩
 | .one _ p, _, hdf, ⟨o, h0, h⟩ => ⟨o, h0, stepD_T hC (fun s' hd' h' => vcPlan_T hC p s' hd' h') hdf h⟩
 | .two _ p _ q, _, hdf, ⟨⟨o, h0, h⟩, o', h0', h'⟩ => ⟨⟨o, h0, stepD_T hC (fun s' hd' h' => vcPlan_T hC p s' hd' h') hdf h⟩, o', h0', stepD_T hC (fun s' hd' h' => vcPlan_T hC q s' hd' h') hdf h'⟩
 | .tri _ p _ q _ r, _, hdf, ⟨⟨o, h0, h⟩, ⟨o', h0', h'⟩, o2, h02, h2⟩ => ⟨⟨o, h0, stepD_T hC (fun s' hd' h' => vcPlan_T hC p s' hd' h') hdf h⟩, ⟨o', h0', stepD_T hC (fun s' hd' h' => vcPlan_T hC q s' hd' h') hdf h'⟩, o2, h02, stepD_T hC (fun s' hd' h' => vcPlan_T hC r s' hd' h') hdf h2⟩
theorem Tr.regionP (hC : CKok P CK) (hm : P.follows .mixedOrders = true) {id : Nat} {K : Exit → S → Prop} (D : List Nat) (p : Plan) (hd : dstOK E.N ops = true) (hl : planB ops p ops.size (Array.replicate ops.size false) = true)
 (h : vcPlan P CK ops (HP.keep D s.hp) D s.nx (K .normal) p s) : Tr P ro E (.region id ops true) s K := by
 intro a w ha
 have ha := ha.drew
 refine wpIn_region_any hm ?_
 have hch := vcPlan_T hC (df := s.df) p s rfl h
 have hany := planT_any hC p ops.size (Array.replicate ops.size false) s.fr.get s.hp (fun k ok _ hl => by simp [Array.getElem?_replicate] at hl; split at hl <;> simp at hl) hl hch
 refine anyT_sound (E := E) (df := s.df) hC fun_nil hd ?_ ops.size (Array.replicate ops.size false) s.fr.get s.hp a _ (by simp) hany ?_
 · rintro listed g hp a' w' hsz ⟨s', rfl, rfl, h3, h4, h5⟩ ⟨ι, dom, im, k1, k2, k3, k4, k5, _⟩
   refine ⟨s', h5, ι, dom, im, fun o ho => ?_, k2, k3, by rw [h4]; exact k4⟩
   rw [h3]
   rcases k1 o ho with h | ⟨j, h6, h7, h8⟩
   · omega
   · have hj : j < ops.size := by
      rcases Nat.lt_or_ge j ops.size with h' | h'
      · exact h'
      · rw [← hsz] at h'
        simp [Array.getElem?_eq_none h'] at h6
     omega
 · obtain ⟨ι, dom, im, k1, k2, k3, k4⟩ := ha
   exact ⟨ι, dom, im, fun o ho => .inl (k1 o ho), k2, k3, k4, fun _ => rfl, fun k ok _ hl => by simp [Array.getElem?_replicate] at hl; split at hl <;> simp at hl⟩
theorem tr_seq_plan (hm : P.follows .mixedOrders = true) {id : Nat} {y : Code} {K : Exit → S → Prop} (D : List Nat) (p : Plan) (st : S) {hpD : HP} (he : HP.keep D s.hp = hpD) (hd : dstOK E.N ops = true) (hl : planB ops p ops.size (Array.replicate ops.size false) = true)
 (h : vcPlan P (pureK P) ops hpD D s.nx (fun s' => Wk E s' st) p s) (k : Tr P ro E y st K) : Tr P ro E (.seq (.region id ops true) y) s K := by
 subst he
 exact Tr.seq (Tr.regionP (pureK_ok P) hm D p hd hl (vcPlan_mono (pureK_ok P) (fun s' hw => Tr.wk hw k) p s h))
section
variable {nx k : Nat} {K : S → Prop} {p : Plan} {o : Oper}
theorem pl_q (h0 : ops[k]? = some o) (hg : o.guard = none) (hq : quietOp o = true) (h : opK P CK o (nx + 16 * k) s.evD hpD fun v _ => vcPlan P CK ops hpD D nx K p ({ s with hp := s.hp }.put o.dst v)) : vcPlan P CK ops hpD D nx K (.one k p) s :=
 ⟨o, h0, by simp only [stepD, hg, opD, hq, if_true]; exact h⟩
theorem st_x (hg : o.guard = none) (hq : quietOp o = false) {id : Nat} (h : opK P (pureK P) o id s.evD s.hp fun v hp' => HP.keep D hp' = hpD ∧ K ({ s with hp := hp' }.put o.dst v)) : stepD P (pureK P) ops hpD D o id s K := by
 simp only [stepD, hg, opD, hq, zcall_nil, Bool.false_eq_true, if_false]; exact opK_mono (pureK_ok P) (fun _ _ q => ⟨.inr q.1, q.2⟩) h
theorem st_w (hg : o.guard = none) (hq : quietOp o = false) (hl : lateD ops o = true) {id : Nat} (h : opK P (pureK P) o id s.evD s.hp fun v hp' => K ({ s with hp := hp' }.put o.dst v)) : stepD P (pureK P) ops hpD D o id s K := by
 simp only [stepD, hg, opD, hq, zcall_nil, Bool.false_eq_true, if_false]; exact opK_mono (pureK_ok P) (fun _ _ q => ⟨.inl hl, q⟩) h
theorem pl_x (h0 : ops[k]? = some o) (h : stepD P CK ops hpD D o (nx + 16 * k) s (vcPlan P CK ops hpD D nx K p)) : vcPlan P CK ops hpD D nx K (.one k p) s := ⟨o, h0, h⟩
theorem pl_two {j : Nat} {q : Plan} {o' : Oper} (h0 : ops[k]? = some o) (h0' : ops[j]? = some o') (h : stepD P CK ops hpD D o (nx + 16 * k) s (vcPlan P CK ops hpD D nx K p)) (h' : stepD P CK ops hpD D o' (nx + 16 * j) s (vcPlan P CK ops hpD D nx K q)) : vcPlan P CK ops hpD D nx K (.two k p j q) s := ⟨⟨o, h0, h⟩, o', h0', h'⟩
theorem pl_tri {j i : Nat} {q r : Plan} {o' o2 : Oper} (h0 : ops[k]? = some o) (h0' : ops[j]? = some o') (h02 : ops[i]? = some o2) (h : stepD P CK ops hpD D o (nx + 16 * k) s (vcPlan P CK ops hpD D nx K p)) (h' : stepD P CK ops hpD D o' (nx + 16 * j) s (vcPlan P CK ops hpD D nx K q))
 (h2 : stepD P CK ops hpD D o2 (nx + 16 * i) s (vcPlan P CK ops hpD D nx K r)) : vcPlan P CK ops hpD D nx K (.tri k p j q i r) s := ⟨⟨o, h0, h⟩, ⟨o', h0', h'⟩, o2, h02, h2⟩
theorem pl_done {st : S} (h : K st) (he : { s with nx := nx + 16 * ops.size } = st) : vcPlan P CK ops hpD D nx K .done s := by
 subst he; exact h
end
end
theorem keepAll (hp : HP) : HP.keep (hp.map (·.1)) hp = hp := by
 unfold HP.keep
 refine List.filter_eq_self.2 fun p hp' => ?_
 rw [List.contains_iff_mem]
 exact List.mem_map.2 ⟨p, hp', rfl⟩
theorem wrap_next' {n : Nat} (h : n < 9223372036854775807) : IntKind.i64.wrap ((n : Int) + 1) = ((n + 1 : Nat) : Int) := by
 have h2 : ((n + 1 : Nat) : Int) % 2 ^ 64 = ((n + 1 : Nat) : Int) := Int.emod_eq_of_lt (by omega) (by omega)
 rw [show ((n : Int) + 1) = ((n + 1 : Nat) : Int) by omega]
 simp only [IntKind.wrap, IntKind.bits, IntKind.signed, h2]
 rw [if_neg]
 simp only [Bool.true_and, decide_eq_true_eq]
 omega
attribute [go_sem] mo guardSlot List.getElem?_toArray Option.bind_some Option.map_some
end Go.Ab
namespace Go.Ab
open Go.RowKit
def Cal (P : Program) (f : FuncId) (args : List AV) (r : AV) : Prop := enters P f ∧ Pure P f args r
def CalO (P : Program) (f : FuncId) (args : List AV) (r : AV) (ho : HP) : Prop := enters P f ∧ Own P f args r ho
def CalE (P : Program) (f : FuncId) (args : List AV) (n : Nat) (hin : HP) (r : AV) (ho : HP) : Prop := enters P f ∧ Eff P f args n hin r ho
abbrev CalT (P : Program) (g : Nat) (x : AV) (f : FuncId) (args : List AV) (r : AV) : Prop := CalE P f args 1 [(0, .tab g x)] r [(0, .tab g x)]
theorem isCall {P : Program} {CK : CallK} {c : Call} {id : Nat} {g : Operand → AV} {hp : HP} {L : AV → HP → Prop} (h : callK P CK c id g hp L) : callK P CK c id g hp L := h
section
variable {P : Program} {c : Call} {f : Operand} {fid : FuncId} {first cap args args' : List AV} {r : AV} {ho : HP} {id : Nat} {g : Operand → AV} {hp : HP} {L : AV → HP → Prop}
theorem cal (h : Cal P fid args' r) (hc : c.callee = .value f) (hf : g f = .fn (.func fid) first cap)
 (ha : first ++ c.args.toList.map g ++ cap = args) (hok : args.all AV.ok = true) (hfr : AV.frzL (HP.keep (AV.idLs args) hp) args = args') (hid : AV.idfL args' = true) (hri : r.idfT = true)
 (k : L r (if r.flat then hp else HP.drop (AV.idLs args) hp)) : callK P (pureK P) c id g hp L :=
 call_fn hc hf ha hok h.1 h.2 hfr hid hri k
theorem calO (h : CalO P fid args' r ho) (hc : c.callee = .value f) (hf : g f = .fn (.func fid) first cap)
 (ha : first ++ c.args.toList.map g ++ cap = args) (hok : args.all AV.ok = true) (hfr : AV.frzL (HP.keep (AV.idLs args) hp) args = args') (hid : AV.idfL args' = true)
 (k : L (r.ren (id + ·)) (if r.flat then hp else shiftH id ho ++ HP.drop (AV.idLs args) hp)) : callK P (pureK P) c id g hp L :=
 call_own hc hf ha hok h.1 h.2 hfr hid k
theorem calE {n : Nat} {hin : HP} (ρ : Nat → Nat) (fl : List Bool) (F : List Nat) (h : CalE P fid args' n hin r ho) (hc : c.callee = .value f) (hf : g f = .fn (.func fid) first cap)
 (ha : first ++ c.args.toList.map g ++ cap = args) (hok : args.all AV.ok = true)
 (harg : AV.renL ρ args' = AV.frzS (HP.keep F hp) fl args) (hids : AV.idsBL n args' = true) (hin' : hpLe ρ hp n hin) (hinj : rhoInj ρ hin = true) (hF : (hin.all fun p => !F.contains (ρ p.1)) = true) (hcov : covers hin n = true)
 (k : L (r.ren (effR ρ n id)) (renH (effR ρ n id) ho ++ HP.drop (F ++ hin.map fun p => ρ p.1) hp)) : callK P (pureK P) c id g hp L :=
 call_eff ρ fl F hc hf ha hok h.1 h.2 harg hids hin' hinj hF hcov k
end
theorem Wk.frz {E : Env} {s : S} (F : List Nat) : Wk E s { s with fr := s.fr.map fun p => (p.1, p.2.frz (HP.keep F s.hp)), hp := HP.drop F s.hp } := by
 rintro a w ⟨ι, dom, im, h1, h2, h3, h4, h5⟩
 let im2 : Nat → Prop := fun b => im b ∨ ∃ o ob, HP.get (HP.keep F s.hp) o = some ob ∧ ob.real ∧ ι o = b
 have hk : HInv E (HP.keep F s.hp) ι dom im w := (h2.step (Below.refl _ _) (fun o ob hg => HP.get_keep _ _ _ _ hg) (fun _ h => h) (fun o ob hg => h2.nim o ob (HP.get_keep _ _ _ _ hg)) h2.imlt h2.imsub).1
 have hd := h2.step (hp2 := HP.drop F s.hp) (im2 := im2) (Below.refl _ _) (fun o ob hg => (HP.get_drop _ _ _ _ hg).1) (fun b hb => .inl hb) (fun o ob hg hr => by
  rintro (h | ⟨o', ob', l1, l2, l3⟩)
  · exact h2.nim o ob (HP.get_drop _ _ _ _ hg).1 hr h
  · have := h2.inj _ _ _ _ (HP.get_keep _ _ _ _ l1) (HP.get_drop _ _ _ _ hg).1 l2 hr l3
    subst this
    have m1 := HP.keep_mem l1
    have m2 := (HP.get_drop _ _ _ _ hg).2
    rw [m1] at m2; cases m2)
  (fun b hb => by
   rcases hb with h | ⟨o, ob, l1, l2, rfl⟩
   · exact h2.imlt b h
   · exact h2.lt o ob (HP.get_keep _ _ _ _ l1) l2)
  (fun b hb => by
   rcases hb with h | ⟨o, ob, l1, l2, rfl⟩
   · exact h2.imsub b h
   · exact .inr (h2.loc o ob (HP.get_keep _ _ _ _ l1) l2))
 refine ⟨ι, dom, im2, h1, hd.1, ⟨h3.1, fun t => ?_⟩, h4, h5⟩
 have hget : ∀ (fr : FR), FR.get (fr.map fun p => (p.1, p.2.frz (HP.keep F s.hp))) t = (FR.get fr t).frz (HP.keep F s.hp) := fun fr => by
  induction fr with
  | nil => rfl
  | cons p fr ih =>
    rw [List.map_cons, FR.get_cons, FR.get_cons, ih]
    split <;> rfl
 show RepT _ (FR.get (s.fr.map _) t) _
 rw [hget]
 rcases h3.2 t with ⟨u, hu, hu2⟩ | h
 · exact .inl ⟨u, by rw [hu]; rfl, hu2⟩
 · exact .inr (RepS.frz hk (fun b hb => .inl hb) (fun o ob hg hr => .inr ⟨o, ob, hg, hr, rfl⟩) h)
theorem lens_map {α : Type} (f : α → AV) (l : List α) (n : Nat) : (∀ z ∈ l.map f, z.len = n) = ∀ a ∈ l, (f a).len = n := by
 rw [List.forall_mem_map]
attribute [go_sem] lens_map renH_nil renH_cons effR
def faR (P : Program) (t : TypeId) (xs : List AV) (f : Nat) (K : AV → Prop) : Prop :=
 match tFieldI P t f with
 | some (off', sz, _) => sz ≠ 0 ∧
   match xs[f]? with
    | some y => AV.lens (xs.take f) = off' ∧ K (.ref y)
    | none => False
 | none => False
def bsR (zs : List AV) (ps : List (Nat × AV)) (K : AV → Prop) : Prop := match setParts zs ps with | some xs => K (.st xs) | none => False
theorem build_structG {P : Program} {t : TypeId} {fs : Array Field} {zs : List AV} (hu : P.underlying t = some (.struct fs)) (hz : tZero P t = some (.st zs)) (hs : fs.size = zs.length) (hf : fieldsOK P zs fs = true) (ps : List (Nat × AV)) (K : AV → Prop) :
 buildK P t ps K = bsR zs ps K := by
 cases hp : setParts zs ps with
 | none =>
   unfold buildK bsR
   rw [hu, hz]
   simp only [hp]
 | some xs =>
   rw [build_struct hu hz hs hf hp]
   simp only [bsR, hp]
theorem setParts_nil (zs : List AV) : setParts zs [] = some zs := rfl
theorem setParts_cons (zs : List AV) (i : Nat) (x : AV) (ps : List (Nat × AV)) : setParts zs ((i, x) :: ps) = match zs[i]? with
 | some z => if x.len = z.len ∧ x.agg = z.agg ∧ x.ok = true then setParts (zs.set i x) ps else none
 | none => none := rfl
attribute [go_sem] faR bsR setParts_nil setParts_cons List.take_succ_cons List.take_zero List.set_cons_zero List.set_cons_succ List.getElem?_cons_zero List.getElem?_cons_succ and_self true_and and_true not_false_eq_true AV.lens
theorem mc {X Y : Prop} (h : X) (e : (True → X) → Y := by
 intro hX
 refine isCall ?_
 first
  | refine cal c1 rfl rfl rfl rfl rfl rfl rfl ?_ | refine cal c2 rfl rfl rfl rfl rfl rfl rfl ?_ | refine cal c3 rfl rfl rfl rfl rfl rfl rfl ?_ | refine cal c4 rfl rfl rfl rfl rfl rfl rfl ?_ | refine cal c5 rfl rfl rfl rfl rfl rfl rfl ?_
  | refine cal c6 rfl rfl rfl rfl rfl rfl rfl ?_ | refine cal c7 rfl rfl rfl rfl rfl rfl rfl ?_ | refine cal c8 rfl rfl rfl rfl rfl rfl rfl ?_ | refine cal c9 rfl rfl rfl rfl rfl rfl rfl ?_
  | refine calO o1 rfl rfl rfl rfl rfl rfl ?_ | refine calO o2 rfl rfl rfl rfl rfl rfl ?_ | refine calO o3 rfl rfl rfl rfl rfl rfl ?_
  | refine calE (fun n => n) [true, true, true, true, true, true, true, true] [] x1 rfl rfl rfl rfl rfl rfl (by repeat' (first | exact rfl | exact trivial | constructor)) rfl rfl rfl ?_
  | refine calE (fun n => n) [true, true, true, true, true, true, true, true] [] x2 rfl rfl rfl rfl rfl rfl (by repeat' (first | exact rfl | exact trivial | constructor)) rfl rfl rfl ?_
  | refine calE (fun n => n) [true, true, true, true, true, true, true, true] [] x3 rfl rfl rfl rfl rfl rfl (by repeat' (first | exact rfl | exact trivial | constructor)) rfl rfl rfl ?_
  | refine calE (fun n => n) [true, true, true, true, true, true, true, true] [] x4 rfl rfl rfl rfl rfl rfl (by repeat' (first | exact rfl | exact trivial | constructor)) rfl rfl rfl ?_
  | refine calE (fun n => n) [true, true, true, true, true, true, true, true] [] x5 rfl rfl rfl rfl rfl rfl (by repeat' (first | exact rfl | exact trivial | constructor)) rfl rfl rfl ?_
  | refine calE (fun n => n) [true, true, true, true, true, true, true, true] [] x6 rfl rfl rfl rfl rfl rfl (by repeat' (first | exact rfl | exact trivial | constructor)) rfl rfl rfl ?_
  | refine calE (fun n => n) [] [] y1 rfl rfl rfl rfl rfl rfl (by repeat' (first | exact rfl | exact trivial | constructor)) rfl rfl rfl ?_
  | refine calE (fun n => n) [] [] y2 rfl rfl rfl rfl rfl rfl (by repeat' (first | exact rfl | exact trivial | constructor)) rfl rfl rfl ?_
  | refine cal c1 rfl rfl rfl rfl (by simp only [ff, go_sem, seval] <;> rfl) rfl rfl ?_ | refine cal c2 rfl rfl rfl rfl (by simp only [ff, go_sem, seval] <;> rfl) rfl rfl ?_ | refine cal c3 rfl rfl rfl rfl (by simp only [ff, go_sem, seval] <;> rfl) rfl rfl ?_
  | refine cal c4 rfl rfl rfl rfl (by simp only [ff, go_sem, seval] <;> rfl) rfl rfl ?_ | refine cal c5 rfl rfl rfl rfl (by simp only [ff, go_sem, seval] <;> rfl) rfl rfl ?_ | refine cal c6 rfl rfl rfl rfl (by simp only [ff, go_sem, seval] <;> rfl) rfl rfl ?_
 (first | simp only [ff, go_sem, seval] | simp only [go_sem, seval])
 exact hX trivial) : Y := e fun _ => h
theorem ms {X Y : Prop} (h : X) (e : (True → X) → Y := by
 intro hX
 (first | simp only [ff, go_sem, seval] | simp only [go_sem, seval])
 (first
  | refine mc ?_
  | (repeat (first | refine ⟨by omega, ?_⟩ | refine ⟨.inl trivial, ?_⟩)))
 exact hX trivial) : Y := e fun _ => h
theorem mr {X Y : Prop} (h : X) (e : (True → X) → Y := by
 intro hX
 (first
  | ((first | apply tr_m (by rw [hE]; rfl) | (refine Tr.seq ?_; apply tr_m (by rw [hE]; rfl)) | apply tr_ml (by rw [hE]; rfl))
     intro Q hQ
     simp only [go_sem, seval]
     repeat
      ((first | refine vm_ext z1 rfl rfl rfl rfl rfl ?_ | refine vm_op ?_ | refine vm_if rfl ?_ | refine vm_no rfl ?_ | refine vm_skip rfl ?_)
       intro r hr
       refine ms ?_
       subst hr)
     exact hQ)
  | ((first | apply tr_md mixed _ (keepAll _) (by rw [hE]; rfl) (by kernel_rfl) | (refine Tr.seq ?_; apply tr_md mixed _ (keepAll _) (by rw [hE]; rfl) (by kernel_rfl)) | apply tr_mdl mixed _ (keepAll _) (by rw [hE]; rfl) (by kernel_rfl))
     intro Q hQ
     simp only [go_sem, seval]
     repeat
      ((first | refine vd2_q rfl ?_ | refine vd2_x rfl ?_ | refine vd2_goq rfl rfl ?_ | refine vd2_gox rfl rfl ?_ | refine vd2_no rfl ?_ | refine vd2_skip rfl ?_)
       intro r hr
       refine ms ?_
       subst hr)
     exact hQ))
 exact hX trivial) : Y := e fun _ => h
theorem mC {X Y : Prop} (h : X) (e : (True → X) → Y := by
 intro hX
 (first
  | refine Tr.cond (b := true) rfl (fun _ => ?_) (fun h => by cases h)
  | refine Tr.cond (b := false) rfl (fun h => by cases h) (fun _ => ?_)
  | refine Tr.seq (Tr.cond (b := true) rfl (fun _ => ?_) (fun h => by cases h))
  | refine Tr.seq (Tr.cond (b := false) rfl (fun h => by cases h) (fun _ => ?_))
  | (refine Tr.skip ?_; try simp only [blockK, thenK, ↓reduceIte])
  | (refine Tr.exit ?_; try simp only [blockK, thenK, ↓reduceIte])
  | refine Tr.block ?_
  | (refine Tr.seq ?_; refine Tr.block ?_))
 exact hX trivial) : Y := e fun _ => h
theorem mW {X Y : Prop} (h : X) (e : (True → X) → Y := by
 intro hX
 repeat (first | refine mr ?_ | refine mC ?_)
 exact hX trivial) : Y := e fun _ => h
theorem mE {Y : Prop} (e : Y := by
 refine Tr.ret ?_
 (first | simp only [ff, hR, go_sem, seval] | simp only [hR, go_sem, seval])
 try exact ⟨fun n => n, ⟨⟨rfl, rfl, rfl⟩, trivial⟩, rfl, fun _ _ => rfl⟩) : Y := e
theorem mWE {Y : Prop} (e : Y := by
 refine mW ?_
 exact mE) : Y := e
theorem mK {Y : Prop} (e : Y := by
 refine wk_ren (fun n => n) ?_ ?_ rfl rfl rfl
 · repeat' (first | exact rfl | exact trivial | constructor)
 · repeat' (first | exact rfl | exact trivial | constructor)) : Y := e
def fidx {α : Type} (p : α → Bool) (l : List α) : Int := match l.findIdx? p with | some i => (i : Int) | none => -1
theorem fidx_at {α : Type} {p : α → Bool} {l : List α} {i : Nat} (h : i < l.length) (hb : ∀ j (hj : j < i), p (l[j]'(by omega)) = false) (hi : p l[i] = true) : fidx p l = i := by
 unfold fidx
 have : l.findIdx? p = some i := List.findIdx?_eq_some_iff_getElem.2 ⟨h, hi, fun j hj => by simp [hb j hj]⟩
 rw [this]
theorem fidx_none {α : Type} {p : α → Bool} {l : List α} (hb : ∀ j (hj : j < l.length), p l[j] = false) : fidx p l = -1 := by
 unfold fidx
 have : l.findIdx? p = none := by
  rw [List.findIdx?_eq_none_iff]
  intro x hx
  obtain ⟨j, hj, rfl⟩ := List.mem_iff_getElem.1 hx
  exact hb j hj
 rw [this]
theorem fidx_any {α : Type} (p : α → Bool) (l : List α) : decide (0 ≤ fidx p l) = l.any p := by
 unfold fidx
 cases h : l.findIdx? p with
 | none =>
   rw [List.findIdx?_eq_none_iff] at h
   have : l.any p = false := by
    rw [List.any_eq_false]
    intro x hx
    simp [h x hx]
   rw [this]; rfl
 | some i =>
   obtain ⟨hi, hp, _⟩ := List.findIdx?_eq_some_iff_getElem.1 h
   have : l.any p = true := List.any_eq_true.2 ⟨l[i], List.getElem_mem hi, hp⟩
   rw [this]
   simp
end Go.Ab
namespace Go.Ab
open Go.RowKit
theorem mF {Y : Prop} (e : Y := by
 refine Tr.ret ?_
 (first | simp only [ff, hR, go_sem, seval] | simp only [hR, go_sem, seval])
 first
  | exact ⟨fun n => n, (by repeat' (first | exact rfl | exact trivial | constructor)), rfl, fun _ _ => rfl⟩
  | exact ⟨fun n => n, rfl, (by repeat' (first | exact rfl | exact trivial | constructor)), rfl, fun _ _ => rfl⟩) : Y := e
theorem mWF {Y : Prop} (e : Y := by
 refine mW ?_
 exact mF) : Y := e
theorem mX {Y : Prop} (e : Y := by
 refine mW ?_
 refine Tr.ret ?_
 (first | simp only [ff, hR, go_sem, seval] | simp only [hR, go_sem, seval])
 first
  | done
  | rfl
  | exact ⟨fun n => n, ⟨⟨rfl, rfl, rfl⟩, trivial⟩, rfl, fun _ _ => rfl⟩
  | exact ⟨fun n => n, (by repeat' (first | exact rfl | exact trivial | constructor)), rfl, fun _ _ => rfl⟩
  | exact ⟨fun n => n, rfl, (by repeat' (first | exact rfl | exact trivial | constructor)), rfl, fun _ _ => rfl⟩
  | exact ⟨fun n => n, rfl, ⟨⟨rfl, rfl, rfl⟩, trivial⟩, rfl, fun _ _ => rfl⟩) : Y := e
end Go.Ab
namespace Go.Ab
open Go.RowKit
section
variable {P : Program} {E : Env} {ro : Option Nat}
def cutV (o sz n i : Nat) : AV := if i = 0 ∧ 0 < n then .sl [] false else .ms o sz i
theorem cutV_len (o sz n i : Nat) : (cutV o sz n i).len = 1 := by unfold cutV; split <;> rfl
theorem cutV_agg (o sz n i : Nat) : (cutV o sz n i).agg = false := by unfold cutV; split <;> rfl
theorem cutV_ok (o sz n i : Nat) : (cutV o sz n i).ok = true := by unfold cutV; split <;> rfl
theorem cutV_ren (ρ : Nat → Nat) (o sz n i : Nat) : (cutV o sz n i).ren ρ = cutV (ρ o) sz n i := by unfold cutV; split <;> rfl
end
theorem cutV_frz0 (o sz n i : Nat) : (cutV o sz n i).frz [] = cutV o sz n i := by
 unfold cutV
 split
 · rfl
 · simp only [AV.frz, HP.get_nil]
attribute [go_sem] cutV_frz0 cutV_len cutV_agg cutV_ok cutV_ren
end Go.Ab
namespace Go.Ab
open Go.RowKit
section
variable {P : Program} {f : FuncId} {fn : Func} {c : Code} {args : List AV} {r : AV}
theorem cal_tr (hf : P.funcs[f]? = some fn) (hb : fn.body = some c) (h : ∀ E : Env, E.N = fn.ntmps → E.pn = 0 → Tr P none E c ⟨frOf 0 args, [], 0, []⟩ (endK P fn.results.toList fun xs hp => (mkR xs).frz hp = r))
 (hn : (fn.name == "runtime.NumGoroutine") = false := by kernel_rfl) (hb2 : fn.body.isNone = false := by exact rfl) (hN : args.length ≤ fn.ntmps := by exact Nat.le_of_ble_eq_true rfl) (hr : r.idfT = true := by exact rfl) : Cal P f args r :=
 ⟨enters_of hf hn hb2, pure_of_tr hf hb hN hr h⟩
theorem calO_tr {ho : HP} (hf : P.funcs[f]? = some fn) (hb : fn.body = some c) (h : ∀ E : Env, E.N = fn.ntmps → E.pn = 0 → Tr P none E c ⟨frOf 0 args, [], 0, []⟩ (endK P fn.results.toList fun xs hp => ∃ ρ : Nat → Nat, (mkR xs).frz (HP.drop (ho.map fun p => ρ p.1) hp) = r.ren ρ ∧ hpLe ρ hp 16 ho ∧ rhoInj ρ ho = true))
 (hn : (fn.name == "runtime.NumGoroutine") = false := by kernel_rfl) (hb2 : fn.body.isNone = false := by exact rfl) (hN : args.length ≤ fn.ntmps := by exact Nat.le_of_ble_eq_true rfl) (hr : r.idsB 16 = true := by exact rfl) : CalO P f args r ho :=
 ⟨enters_of hf hn hb2, own_of_tr hf hb hN hr h⟩
theorem calE_tr {n : Nat} {hin ho : HP} (hf : P.funcs[f]? = some fn) (hb : fn.body = some c)
 (h : ∀ E : Env, E.N = fn.ntmps → E.pn = n → Tr P none E c ⟨frOf 0 args, hin, n, []⟩ (endK P fn.results.toList fun xs hp => ∃ ρ : Nat → Nat, (mkR xs).frz (HP.drop (ho.map fun p => ρ p.1) hp) = r.ren ρ ∧ hpLe ρ hp (n + 16) ho ∧ rhoInj ρ ho = true ∧ ∀ o, o < n → ρ o = o))
 (hn : (fn.name == "runtime.NumGoroutine") = false := by kernel_rfl) (hb2 : fn.body.isNone = false := by exact rfl) (hN : args.length ≤ fn.ntmps := by exact Nat.le_of_ble_eq_true rfl)
 (hr : r.idsB (n + 16) = true := by first | exact rfl | (simp only [AV.idsB, AV.idsBL, Bool.and_true, Bool.true_and] <;> rfl)) : CalE P f args n hin r ho :=
 ⟨enters_of hf hn hb2, eff_of_tr hf hb hN hr h⟩
end
theorem mB {Y : Prop} (e : Y := by repeat' (first | exact rfl | exact trivial | constructor)) : Y := e
theorem mNo {X Y : Prop} (h : X) (e : (True → X) → Y := by
 intro hX
 (first | refine Tr.cond (b := false) rfl (fun h => by cases h) (fun _ => ?_) | refine Tr.seq (Tr.cond (b := false) rfl (fun h => by cases h) (fun _ => ?_)))
 exact hX trivial) : Y := e fun _ => h
theorem mYes {X Y : Prop} (h : X) (e : (True → X) → Y := by
 intro hX
 (first | refine Tr.cond (b := true) rfl (fun _ => ?_) (fun h => by cases h) | refine Tr.seq (Tr.cond (b := true) rfl (fun _ => ?_) (fun h => by cases h)))
 exact hX trivial) : Y := e fun _ => h
theorem mNot {X Y : Prop} (h : X) (e : (True → X) → Y := by
 intro hX
 (first | refine Tr.cond rfl (fun h => by cases h) (fun _ => ?_) | refine Tr.seq (Tr.cond rfl (fun h => by cases h) (fun _ => ?_)))
 exact hX trivial) : Y := e fun _ => h
theorem mBk {X Y : Prop} (h : X) (e : (True → X) → Y := by
 intro hX
 (first | refine Tr.block ?_ | (refine Tr.seq ?_; refine Tr.block ?_))
 exact hX trivial) : Y := e fun _ => h
theorem mO {X Y : Prop} (h : X) (e : (True → X) → Y := by
 intro hX
 repeat (refine vc_op rfl ?_; simp only [go_sem, seval])
 exact hX trivial) : Y := e fun _ => h
theorem mG {X Y : Prop} (h : X) (e : (True → X) → Y := by
 intro hX
 repeat (first | (refine vc_op rfl ?_; simp only [go_sem, seval]) | (refine vc_go rfl rfl rfl ?_; simp only [go_sem, seval]) | (refine vc_no rfl rfl rfl ?_; simp only [go_sem, seval]) | (refine vc_skip rfl rfl rfl ?_; simp only [go_sem, seval]))
 exact hX trivial) : Y := e fun _ => h
theorem pQ {X Y : Prop} (h : X) (e : (True → X) → Y := by
 intro hX
 apply pl_q; exact rfl; exact rfl; exact rfl; simp only [List.getElem_toArray, List.getElem_cons_zero, List.getElem_cons_succ, go_sem, seval]
 exact hX trivial) : Y := e fun _ => h
theorem pX {X Y : Prop} (h : X) (e : (True → X) → Y := by
 intro hX
 apply pl_x; exact rfl
 refine st_x rfl rfl ?_; simp only [List.getElem_toArray, List.getElem_cons_zero, List.getElem_cons_succ, go_sem, seval]
 exact hX trivial) : Y := e fun _ => h
theorem vP {X Y : Prop} (h : X) (e : (True → X) → Y := by
 intro hX
 refine vd_q rfl rfl ?_; simp only [go_sem, seval]
 exact hX trivial) : Y := e fun _ => h
theorem mV {X Y : Prop} (h : X) (e : (True → X) → Y := by
 intro hX
 (refine vm_op ?_); intro r hr; simp only [go_sem, seval]; subst hr
 exact hX trivial) : Y := e fun _ => h
theorem mT {X Y : Prop} (h : X) (e : (True → X) → Y := by
 intro hX
 refine Tr.skip ?_
 try simp only [blockK, thenK, ↓reduceIte]
 exact hX trivial) : Y := e fun _ => h
theorem mU {X Y : Prop} (h : X) (e : (True → X) → Y := by
 intro hX
 try simp only [blockK, thenK, ↓reduceIte]
 exact hX trivial) : Y := e fun _ => h
theorem mRd {X Y : Prop} (h : X) (e : (True → X) → Y := by
 intro hX
 refine tr_region (by rw [hE]; rfl) ?_
 repeat (refine vc_op rfl ?_; simp only [go_sem, seval])
 refine vc_nil ?_
 exact hX trivial) : Y := e fun _ => h
theorem mSr {X Y : Prop} (h : X) (e : (True → X) → Y := by
 intro hX
 (first | refine tr_seq_region (by rw [hE]; rfl) ?_ | (refine Tr.seq ?_; refine tr_seq_region (by rw [hE]; rfl) ?_))
 exact hX trivial) : Y := e fun _ => h
theorem mI {X Y : Prop} (h : X) (e : (True → X) → Y := by
 intro hX
 (first | refine vm_if rfl ?_ | refine vm_no rfl ?_ | refine vm_skip rfl ?_)
 exact hX trivial) : Y := e fun _ => h
theorem en {P : Program} {f : FuncId} {fn : Func} (hf : P.funcs[f]? = some fn) (hn : (fn.name == "runtime.NumGoroutine") = false := by kernel_rfl) (hb : fn.body.isNone = false := by exact rfl) : enters P f := enters_of hf hn hb
theorem dtO {p : Prop} [Decidable p] (h : p := by omega) : decide p = true := decide_eq_true h
theorem dfO {p : Prop} [Decidable p] (h : ¬ p := by omega) : decide p = false := decide_eq_false h
theorem nb {n m : Nat} (h : Nat.ble n m = true := by exact rfl) : n ≤ m := Nat.le_of_ble_eq_true h
theorem fB : (∀ {α : Type} (p : α → Bool) (a : α) (l : List α), (a :: l).filter p = if p a = true then a :: l.filter p else l.filter p) ∧ (∀ {α : Type} (p : α → Bool), ([] : List α).filter p = []) ∧ (!false) = true ∧ (!true) = false ∧
 (∀ {α : Type} {_ : Decidable True} (t e : α), ite True t e = t) ∧ (false = true) = False ∧ (∀ {α : Type} {_ : Decidable False} (t e : α), ite False t e = e) :=
 ⟨fun _ _ _ => List.filter_cons, fun _ => List.filter_nil, rfl, rfl, fun _ _ => if_true _ _, Bool.false_eq_true, fun _ _ => if_false _ _⟩
theorem mQ {X Y : Prop} (h : X) (e : (True → X) → Y := by
 intro hX
 (refine vd2_q rfl ?_); intro r hr; simp only [go_sem, seval]; subst hr
 exact hX trivial) : Y := e fun _ => h
theorem sX {X Y : Prop} (h : X) (e : (True → X) → Y := by
 intro hX
 refine st_x rfl rfl ?_; simp only [List.getElem_toArray, List.getElem_cons_zero, List.getElem_cons_succ, go_sem, seval]
 exact hX trivial) : Y := e fun _ => h
theorem xE {Y : Prop} (e : Y := by rw [hE]; rfl) : Y := e
theorem kR {Y : Prop} (e : Y := by kernel_rfl) : Y := e
theorem mS {X Y : Prop} (h : X) (e : (True → X) → Y := by
 intro hX
 simp only [go_sem, seval]
 exact hX trivial) : Y := e fun _ => h
theorem gA : (∀ {α : Type} {xs : List α} {i : Nat} (h : i < xs.toArray.size), xs.toArray[i] = xs[i]'(by simpa using h)) ∧ (∀ {α : Type} {a : α} {as : List α} (h : 0 < (a :: as).length), (a :: as)[0] = a) ∧
 (∀ {α : Type} {a : α} {as : List α} {i : Nat} (h : i + 1 < (a :: as).length), (a :: as)[i + 1] = as[i]'(Nat.lt_of_succ_lt_succ h)) :=
 ⟨fun _ => List.getElem_toArray .., fun _ => rfl, fun _ => rfl⟩
theorem pR {X Y : Prop} (h : X) (e : (True → X) → Y := by
 intro hX
 apply pl_q; exact rfl; exact rfl; exact rfl
 exact hX trivial) : Y := e fun _ => h
theorem wN (n : Nat) (h : n < 1000000 := by omega) : IntKind.i64.wrap ((n : Int) + 1) = ((n + 1 : Nat) : Int) := wrap_next h
theorem mR {X Y : Prop} (h : X) (e : (True → X) → Y := by
 intro hX
 simp only [renH_nil, renH_cons, effR, go_sem, seval]
 exact hX trivial) : Y := e fun _ => h
theorem mL {X Y : Prop} (h : X) (e : (True → X) → Y := by
 intro hX
 simp only [List.toList_toArray, List.take_succ_cons, List.take_zero]
 exact hX trivial) : Y := e fun _ => h
theorem mZ {X Y : Prop} (h : X) (e : (True → X) → Y := by
 intro hX
 simp only [frPut, List.zip_cons_cons, List.zip_nil_left, List.zip_nil_right, List.foldl_cons, List.foldl_nil, List.toList_toArray, List.map_cons, List.map_nil, go_sem, seval]
 exact hX trivial) : Y := e fun _ => h
end Go.Ab
namespace Go.Ab
open Go.RowKit
def SubL (xs ys : List AV) : Prop := ∀ (C : Cx) (vs : List Value), RepVs C xs vs → RepVs C ys vs
theorem SubL.nil : SubL [] [] := fun _ _ h => h
theorem SubL.same {xs ys : List AV} (x : AV) (h : SubL xs ys) : SubL (x :: xs) (x :: ys) := fun C _ ⟨v, r, h1, h2, h3⟩ => ⟨v, r, h1, h2, h C r h3⟩
section
variable {P : Program} {f : FuncId} {args args' : List AV} {r : AV}
end
end Go.Ab
