/- Lists of operations, and code. -/
import Derived.OrdersIn
import Derived.Test.YtgnidooihignfaaGreatDoorAbTwo
namespace Go.Ab
open Go.RowKit
section
variable {P : Program} {E : Env} {hp : HP} {ι : Nat → Nat} {dom im : Nat → Prop} {w : World} {id : Nat} {K : AV → HP → Prop} {ro : Option Nat}
theorem op_wp {CK : CallK} (hCK : ∀ f args hp id K, CK f args hp id K → funK P f args hp id K) {o : Oper} {a : Act} {next : Act → World → Prop} {Q : Exit → Act → World → Prop} {g : Operand → AV}
 (hi : HInv E hp ι dom im w) (hid : ∀ k, k < 16 → ¬ dom (id + k)) (hg : ∀ x, RepT ⟨ι, dom, im, w⟩ (g x) (a.eval x)) (hk : opK P CK o id g hp K)
 (hn : ∀ v hp' ι' dom' im' w' val, K v hp' → HInv E hp' ι' dom' im' w' → Cx.Le ⟨ι, dom, im, w⟩ ⟨ι', dom', im', w'⟩ → RepT ⟨ι', dom', im', w'⟩ v val → (∀ o, dom' o → dom o ∨ (id ≤ o ∧ o < id + 16)) → next (a.put o.dst val) w') :
 o.wpIn (fence ro) 0 P a w next Q := by
 have hsem : o.semAt (fence ro).round a.eval = execOp a.eval o := Oper.semAt_eq _ _ o (fun c hc => by unfold opK at hk; rw [hc] at hk; exact hk)
 refine ⟨fun _ _ => trivial, ?_⟩
 rw [hsem]
 by_cases hc : ∃ c f, o.op = .call c ∧ c.callee = .value f
 · obtain ⟨c, f, hop, hcal⟩ := hc
   unfold opK at hk
   rw [hop] at hk
   simp only at hk
   unfold callK at hk
   rw [hcal] at hk
   simp only at hk
   split at hk
   · rename_i fid first cap hgf
     obtain ⟨hok, hen, hk⟩ := hk
     simp only [List.all_append, Bool.and_eq_true] at hok
     have hf := hg f
     rw [hgf] at hf
     obtain ⟨va, vb, hv, ra, rb⟩ := hf.fn_of
     have rargs := RepVs.of hg c.args.toList hok.1.2
     have rall := (ra.append rargs).append rb
     have hrun : (execOp a.eval o).run P w = .ok (.enter fid (va ++ c.args.toList.map a.eval ++ vb).toArray) w := by
      have e1 : c.args.map a.eval = (c.args.toList.map a.eval).toArray := by apply Array.ext'; simp
      simp only [execOp, hop, resolve, hcal, Sem.run_bind, Deferred.ofValue, hv, Sem.run_pure, Result.andThen_ok, invoke, e1]
      simp only [List.append_toArray]
      exact hen _ _
     rw [hrun]
     show (_ → _) ∧ CallsIn (fence ro) 0 P fid _ w _
     refine ⟨fun h => (by cases h), ?_⟩
     have := hCK _ _ _ _ _ hk E ι dom im w _ hi hid rall
     refine CallsIn.mono (F := Fence.wide) this ?_
     rintro e w' ⟨v, r, hp', ι', dom', im', rfl, h1, h2, h3, h4, h5⟩
     exact hn _ _ _ _ _ _ _ h1 h2 h3 (.inr h4) h5
   · exact hk.elim
 · obtain ⟨v, hp', ι', dom', im', w', n, val, h1, h2, h3, h4, h5, h6, h7⟩ := op_done (P := P) (ρ := a.eval) hi hid hg (fun _ => rfl) hk (fun c f h1 h2 => hc ⟨c, f, h1, h2⟩)
   rw [h2]
   rcases h3 with rfl | ⟨rfl, rfl⟩
   · exact hn _ _ _ _ _ _ _ h1 h4 h5 h6 h7
   · exact hn _ _ _ _ _ _ _ h1 h4 h5 h6 h7
def extR (P : Program) (fid : FuncId) (xs : List AV) (r : AV) : Prop := ∀ (C : Cx) (vals : List Value), RepVs C xs vals → ∀ w : World, ∃ v, (callFunc fid vals.toArray).run P w = .ok (.value v) w ∧ RepS C r v
def extOp (P : Program) (o : Oper) (g : Operand → AV) (hp : HP) (K : AV → HP → Prop) : Prop :=
 ∃ c f fid first cap r, o.op = .call c ∧ c.callee = .value f ∧ g f = .fn (.func fid) first cap ∧ (first ++ c.args.toList.map g ++ cap).all AV.ok = true ∧ extR P fid (first ++ c.args.toList.map g ++ cap) r ∧ K r hp
theorem ext_wp {o : Oper} {a : Act} {next : Act → World → Prop} {Q : Exit → Act → World → Prop} {g : Operand → AV}
 (hi : HInv E hp ι dom im w) (hg : ∀ x, RepT ⟨ι, dom, im, w⟩ (g x) (a.eval x)) (hk : extOp P o g hp K)
 (hn : ∀ v hp' ι' dom' im' w' val, K v hp' → HInv E hp' ι' dom' im' w' → Cx.Le ⟨ι, dom, im, w⟩ ⟨ι', dom', im', w'⟩ → RepT ⟨ι', dom', im', w'⟩ v val → (∀ o, dom' o → dom o ∨ (id ≤ o ∧ o < id + 16)) → next (a.put o.dst val) w') :
 o.wpIn (fence ro) 0 P a w next Q := by
 obtain ⟨c, f, fid, first, cap, r, hop, hcal, hgf, hok, hx, hk⟩ := hk
 have hsem : o.semAt (fence ro).round a.eval = execOp a.eval o := Oper.semAt_eq _ _ o (fun c hc => by rw [hop] at hc; cases hc)
 refine ⟨fun _ _ => trivial, ?_⟩
 rw [hsem]
 simp only [List.all_append, Bool.and_eq_true] at hok
 have hf := hg f
 rw [hgf] at hf
 obtain ⟨va, vb, hv, ra, rb⟩ := hf.fn_of
 have rargs := RepVs.of hg c.args.toList hok.1.2
 have rall := (ra.append rargs).append rb
 obtain ⟨v, h1, h2⟩ := hx _ _ rall w
 have hrun : (execOp a.eval o).run P w = .ok (.value v) w := by
  have e1 : c.args.map a.eval = (c.args.toList.map a.eval).toArray := by apply Array.ext'; simp
  simp only [execOp, hop, resolve, hcal, Sem.run_bind, Deferred.ofValue, hv, Sem.run_pure, Result.andThen_ok, invoke, e1]
  simp only [List.append_toArray]
  exact h1
 rw [hrun]
 exact hn _ _ _ _ _ _ _ hk hi (Cx.Le.refl _) (.inr h2) (fun _ h => .inl h)
def guardSlot (ops : Array Oper) (j : Nat) : Option Nat := (ops[j]?).bind (·.dst)
def vcOps (P : Program) (CK : CallK) (ops : Array Oper) : List Oper → S → (S → Prop) → Prop
 | [], s, K => K s
 | o :: rest, s, K =>
   match o.guard with
   | none => (opK P CK o s.nx s.ev s.hp fun v hp' => vcOps P CK ops rest ({ s with hp := hp', nx := s.nx + 16 }.put o.dst v) K) ∨ (extOp P o s.ev s.hp fun v hp' => vcOps P CK ops rest ({ s with hp := hp', nx := s.nx + 16 }.put o.dst v) K)
   | some (j, want) =>
     match guardSlot ops j with
     | some d => match s.fr.get d with
       | .bool b =>
         (b = want → opK P CK o s.nx (s.put (some d) (.bool want)).ev s.hp fun v hp' => vcOps P CK ops rest (({ s with hp := hp', nx := s.nx + 16 }.put (some d) (.bool want)).put o.dst v) K) ∧
         (b = !want → vcOps P CK ops rest ((s.put (some d) (.bool !want)).put o.dst (.tup [])) K)
       | .tup [] => vcOps P CK ops rest (s.put o.dst (.tup [])) K
       | _ => False
     | none => False
def dstOK (N : Nat) (ops : Array Oper) : Bool := ops.toList.all fun o => match o.dst with | some d => decide (d < N) | none => true
theorem raw_rep {C : Cx} (v : Value) : RepT C (.raw v) v := by
 by_cases h1 : isTupV v = true
 · exact .inl ⟨v, rfl, .inl h1⟩
 · by_cases h2 : isAggV v = true
   · exact .inl ⟨v, rfl, .inr h2⟩
   · have hs : scalar v := ⟨by simpa using h2, by simpa using h1⟩
     exact .inr ⟨by simp only [Rep]; exact ⟨by rw [hs.cells], hs.1, hs.2⟩, by simpa [AV.agg] using hs.1, hs.2⟩
theorem const_rep {C : Cx} (v : Value) : RepT C (constAV v) v := by
 unfold constAV
 split
 · exact repS_bool _
 · exact repS_int _ _
 · exact repS_str _
 · exact .inr ⟨by simp [Rep, Value.cells], rfl, rfl⟩
 · refine .inr ⟨?_, rfl, rfl⟩
   simp only [Rep, Value.cells]
   exact ⟨none, 0, rfl, by simp, by simp [maxLen], fun _ => rfl, .inl (by trivial)⟩
 · exact .inr ⟨by simp [Rep, Value.cells], rfl, rfl⟩
 · exact raw_rep _
theorem tab_rep (hi : HInv E hp ι dom im w) (g : Nat) : RepT ⟨ι, dom, im, w⟩ (HP.tabOf hp g) (.pointer (some ⟨g, 0, none⟩)) := by
 unfold HP.tabOf
 cases hf : hp.findSome? fun p => match HP.get hp p.1 with
  | some (.tab g' x) => if g' = g then some (AV.ref x) else none
  | _ => none with
 | none => exact .inl ⟨undef, rfl, .inl rfl⟩
 | some y =>
   obtain ⟨p, _, hp⟩ := List.exists_of_findSome?_eq_some hf
   split at hp
   · rename_i g' x hg
     split at hp
     · rename_i hgg
       subst hgg
       simp only [Option.some.injEq] at hp
       subst hp
       exact .inr ⟨hi.own _ _ hg, rfl, rfl⟩
     · cases hp
   · cases hp
theorem ev_rep {s : S} {a : Act} {N : Nat} (hi : HInv E s.hp ι dom im w) (h : FrOK ⟨ι, dom, im, w⟩ s.fr a N) (x : Operand) : RepT ⟨ι, dom, im, w⟩ (s.ev x) (a.eval x) := by
 cases x with
 | tmp t => exact h.2 t
 | const v => exact const_rep v
 | global g => exact tab_rep hi g
 | func f => exact .inr ⟨by simp only [Rep, Value.cells, S.ev, Act.eval]; exact ⟨[], [], rfl, by simp [RepL], by simp [RepL], rfl, rfl, by simp, by simp⟩, rfl, rfl⟩
theorem FrOK.same {C : Cx} {fr : FR} {a : Act} {N : Nat} (hf : FrOK C fr a N) {d : Nat} {x : AV} (hx : RepT C x (a.tmps.getD d undef)) : FrOK C ((d, x) :: fr) a N := by
 refine ⟨hf.1, fun t => ?_⟩
 rw [FR.get_cons]
 by_cases h : d = t
 · subst h; simpa using hx
 · simpa [h] using hf.2 t
theorem FrOK.putT {C : Cx} {fr : FR} {a : Act} {N : Nat} (hf : FrOK C fr a N) {d : Nat} {x : AV} {v : Value} (hx : RepT C x v) (hd : d < N) : FrOK C ((d, x) :: fr) (a.put (some d) v) N := by
 refine ⟨by simp [Act.put, hf.1], fun t => ?_⟩
 rw [FR.get_cons]
 by_cases h : d = t
 · subst h
   have e : (a.put (some d) v).tmps.getD d undef = v := by simp [Act.put, Array.getD, hf.1, hd]
   simpa only [if_true, e] using hx
 · have e : (a.put (some d) v).tmps.getD t undef = a.tmps.getD t undef := by simp [Act.put, Array.getElem?_setIfInBounds_ne h]
   simpa only [h, if_false, e] using hf.2 t
theorem put_defers (a : Act) (d : Option Nat) (v : Value) : (a.put d v).defers = a.defers := by cases d <;> rfl
theorem abs_put {s : S} {d : Option Nat} {x : AV} {v : Value} {a : Act} (hdom : ∀ o, dom o → o < s.nx) (hi : HInv E s.hp ι dom im w) (hf : FrOK ⟨ι, dom, im, w⟩ s.fr a E.N) (hdf : (∀ o ∈ s.df, dom o) ∧ a.defers = s.df.map fun o => ({ target := .collected (ι o), args := #[] } : Deferred))
 (hx : RepT ⟨ι, dom, im, w⟩ x v) (hd : ∀ t, d = some t → t < E.N) : Abs E (s.put d x) (a.put d v) w := by
 cases d with
 | none => exact ⟨ι, dom, im, hdom, hi, hf, hdf⟩
 | some t => exact ⟨ι, dom, im, hdom, hi, hf.putT hx (hd t rfl), hdf⟩
theorem vcOps_sound_tl {CK : CallK} (hCK : ∀ f args hp id K, CK f args hp id K → funK P f args hp id K) {ops : Array Oper} (hdst : dstOK E.N ops = true) {Q : Exit → Act → World → Prop} {K : S → Prop}
 {tl : List Nat} (hQ : ∀ s a w, K s → Abs E s a w → wpOpsIn (fence ro) 0 P ops Q tl a w) : ∀ (rest : List Oper) (idx : List Nat) (s : S) (a : Act) (w : World), idx.map (fun i => ops[i]?) = rest.map some → vcOps P CK ops rest s K → Abs E s a w → wpOpsIn (fence ro) 0 P ops Q (idx ++ tl) a w := by
 have hd : ∀ o ∈ ops, ∀ t, o.dst = some t → t < E.N := by
  intro o ho t ht
  unfold dstOK at hdst
  have := List.all_eq_true.1 hdst o (by simpa using ho)
  rw [ht] at this
  simpa using this
 intro rest
 induction rest with
 | nil =>
   intro idx s a w hm hv ha
   have : idx = [] := by simpa using hm
   subst this
   exact hQ s a w hv ha
 | cons o rest ih =>
   intro idx s a w hm hv ha
   cases idx with
   | nil => simp at hm
   | cons i idx =>
     simp only [List.map_cons, List.cons.injEq] at hm
     obtain ⟨ho, hm⟩ := hm
     have hmem : o ∈ ops := Array.mem_of_getElem? ho
     obtain ⟨ι, dom, im, hdom, hi, hf, hdf⟩ := ha
     have hid : ∀ k, k < 16 → ¬ dom (s.nx + k) := fun k _ h => by have := hdom _ h; omega
     -- the operation is done
     have done : ∀ s0 : S, s0.hp = s.hp → s0.nx = s.nx → s0.df = s.df → FrOK ⟨ι, dom, im, w⟩ s0.fr a E.N → (opK P CK o s.nx s0.ev s.hp (fun v hp' => vcOps P CK ops rest ({ s0 with hp := hp', nx := s.nx + 16 }.put o.dst v) K) ∨ extOp P o s0.ev s.hp (fun v hp' => vcOps P CK ops rest ({ s0 with hp := hp', nx := s.nx + 16 }.put o.dst v) K)) →
      o.wpIn (fence ro) 0 P a w (wpOpsIn (fence ro) 0 P ops Q (idx ++ tl)) Q := by
      intro s0 e1 e2 e3 hf0 hk
      have hn : ∀ v hp' ι' dom' im' w' val, vcOps P CK ops rest ({ s0 with hp := hp', nx := s.nx + 16 }.put o.dst v) K → HInv E hp' ι' dom' im' w' → Cx.Le ⟨ι, dom, im, w⟩ ⟨ι', dom', im', w'⟩ → RepT ⟨ι', dom', im', w'⟩ v val → (∀ o, dom' o → dom o ∨ (s.nx ≤ o ∧ o < s.nx + 16)) → wpOpsIn (fence ro) 0 P ops Q (idx ++ tl) (a.put o.dst val) w' := ?_
      · rcases hk with hk | hk
        · exact op_wp hCK hi hid (fun x => ev_rep (by rw [e1]; exact hi) hf0 x) hk hn
        · exact ext_wp hi (fun x => ev_rep (by rw [e1]; exact hi) hf0 x) hk hn
      intro v hp' ι' dom' im' w' val h1 h2 h3 h4 h5
      refine ih idx _ _ _ hm h1 (abs_put (ι := ι') (dom := dom') (im := im') (s := { s0 with hp := hp', nx := s.nx + 16 }) ?_ h2 (hf0.mono h3) ?_ h4 (hd o hmem))
      · intro o' ho'
        simp only
        rcases h5 o' ho' with h | h
        · have := hdom o' h; omega
        · omega
      · simp only [e3]
        refine ⟨fun x hx => h3.dom x (hdf.1 x hx), ?_⟩
        rw [hdf.2]
        apply List.map_congr_left
        intro x hx
        rw [show ι' x = ι x from h3.ι x (hdf.1 x hx)]
     simp only [List.cons_append, wpOpsIn, ho]
     simp only [vcOps] at hv
     split at hv
     · rename_i hgd
       have hw : Region.wanted o (yielded ops a.tmps) = true := by simp [Region.wanted, hgd]
       rw [if_pos hw]
       exact done s rfl rfl rfl hf hv
     · rename_i j want hgd
       split at hv
       · rename_i d hgs
         have hy1 : ∀ b, a.tmps[d]? = some (.bool b) → yielded ops a.tmps j = some b := fun b h => by
          unfold guardSlot at hgs
          simp [yielded, hgs, h]
         have hy2 : a.tmps[d]? = none ∨ a.tmps[d]? = some (.tuple #[]) → yielded ops a.tmps j = none := fun h => by
          unfold guardSlot at hgs
          rcases h with h | h <;> simp [yielded, hgs, h]
         split at hv
         · rename_i b hgb
           have hb := hf.2 d
           rw [hgb] at hb
           have hbv := hb.bool_of
           have hdN : a.tmps[d]? = some (.bool b) := by
            simp only [Array.getD_eq_getD_getElem?] at hbv
            cases hh : a.tmps[d]? with
            | none => rw [hh] at hbv; simp [undef] at hbv
            | some v => rw [hh] at hbv; simp at hbv; rw [hbv]
           by_cases hbw : b = want
           · have hw : Region.wanted o (yielded ops a.tmps) = true := by simp [Region.wanted, hgd, hy1 _ hdN, hbw]
             rw [if_pos hw]
             exact done (s.put (some d) (.bool want)) rfl rfl rfl (hf.same (by rw [← hbw]; exact hb)) (.inl (hv.1 hbw))
           · have hw : Region.wanted o (yielded ops a.tmps) = false := by simp [Region.wanted, hgd, hy1 _ hdN, hbw]
             rw [if_neg (by simp [hw])]
             have hbn : b = !want := by cases b <;> cases want <;> simp_all
             refine ⟨fun _ _ => trivial, ih idx _ _ _ hm (hv.2 hbn) (abs_put (ι := ι) (dom := dom) (im := im) (s := s.put (some d) (.bool !want)) hdom hi (hf.same (by rw [← hbn]; exact hb)) hdf (.inr ⟨[], rfl, rfl⟩) (hd o hmem))⟩
         · rename_i hgb
           have hb := hf.2 d
           rw [hgb] at hb
           obtain ⟨vs, hv0, hv1⟩ := hb.isS (by simp)
           simp only [RepVs] at hv1
           subst hv1
           have hdN : yielded ops a.tmps j = none := by
            apply hy2
            simp only [Array.getD_eq_getD_getElem?] at hv0
            cases hh : a.tmps[d]? with
            | none => exact .inl rfl
            | some v => rw [hh] at hv0; simp at hv0; subst hv0; exact .inr rfl
           have hw : Region.wanted o (yielded ops a.tmps) = false := by simp [Region.wanted, hgd, hdN]
           rw [if_neg (by simp [hw])]
           refine ⟨fun _ _ => trivial, ih idx _ _ _ hm hv (abs_put (ι := ι) (dom := dom) (im := im) (s := s) hdom hi hf hdf (.inr ⟨[], rfl, rfl⟩) (hd o hmem))⟩
         · exact hv.elim
       · exact hv.elim
theorem vcOps_sound {CK : CallK} (hCK : ∀ f args hp id K, CK f args hp id K → funK P f args hp id K) {ops : Array Oper} (hdst : dstOK E.N ops = true) {Q : Exit → Act → World → Prop} {K : S → Prop}
 (hQ : ∀ s a w, K s → Abs E s a w → Q .normal a w) (rest : List Oper) (idx : List Nat) (s : S) (a : Act) (w : World) (hm : idx.map (fun i => ops[i]?) = rest.map some) (hv : vcOps P CK ops rest s K) (ha : Abs E s a w) : wpOpsIn (fence ro) 0 P ops Q idx a w := by
 have := vcOps_sound_tl (ro := ro) (tl := []) hCK hdst (Q := Q) hQ rest idx s a w hm hv ha
 rwa [List.append_nil] at this
end
end Go.Ab
namespace Go.Ab
open Go.RowKit
section
variable {P : Program} {E : Env} {ro : Option Nat} {K K' : Exit → S → Prop}
def Tr (P : Program) (ro : Option Nat) (E : Env) (c : Code) (s : S) (K : Exit → S → Prop) : Prop :=
 ∀ a w, Abs E s a w → c.wpIn (fence ro) 0 P (fun e a' w' => ∃ s', K e s' ∧ Abs E s' a' w') a w
theorem Tr.mono {c : Code} {s : S} (h : Tr P ro E c s K) (hk : ∀ e s, K e s → K' e s) : Tr P ro E c s K' :=
 fun a w ha => wpIn_mono (h a w ha) fun e _ _ ⟨s', h1, h2⟩ => ⟨s', hk e s' h1, h2⟩
def thenK (next : S → Prop) (K : Exit → S → Prop) : Exit → S → Prop
 | .normal, s => next s
 | e, s => K e s
theorem Tr.seq {x y : Code} {s : S} (h : Tr P ro E x s (thenK (fun s' => Tr P ro E y s' K) K)) : Tr P ro E (.seq x y) s K := by
 intro a w ha
 refine wpIn_seq (wpIn_mono (h a w ha) ?_)
 rintro e a' w' ⟨s', h1, h2⟩
 cases e <;> first
  | exact h1 a' w' h2
  | exact ⟨s', h1, h2⟩
theorem Tr.skip {s : S} (h : K .normal s) : Tr P ro E .skip s K := fun _ _ ha => wpIn_skip ⟨s, h, ha⟩
theorem Tr.ret {s : S} (h : K .ret s) : Tr P ro E .ret s K := fun _ _ ha => wpIn_ret ⟨s, h, ha⟩
theorem Tr.exit {s : S} {i : Nat} (h : K (.exit i) s) : Tr P ro E (.exit i) s K := fun _ _ ha => wpIn_exit ⟨s, h, ha⟩
theorem Tr.label {s : S} {i : Nat} (h : K .normal s) : Tr P ro E (.label i) s K := fun _ _ ha => wpIn_label ⟨s, h, ha⟩
def blockK (id : Nat) (K : Exit → S → Prop) : Exit → S → Prop
 | .exit i, s => if i = id then K .normal s else K (.exit i) s
 | e, s => K e s
theorem Tr.block {id : Nat} {c : Code} {s : S} (h : Tr P ro E c s (blockK id K)) : Tr P ro E (.block id c) s K := by
 intro a w ha
 refine wpIn_block (wpIn_mono (h a w ha) ?_)
 rintro e a' w' ⟨s', h1, h2⟩
 cases e <;> first
  | exact ⟨s', h1, h2⟩
  | (rename_i i
     simp only [Exit.inBlock, blockK] at h1 ⊢
     split <;> rename_i hi
     · rw [if_pos hi] at h1; exact ⟨s', h1, h2⟩
     · rw [if_neg hi] at h1; exact ⟨s', h1, h2⟩)
theorem Tr.cond {c : Operand} {x y : Code} {s : S} {b : Bool} (hc : s.ev c = .bool b) (ht : b = true → Tr P ro E x s K) (hf : b = false → Tr P ro E y s K) : Tr P ro E (.cond c x y) s K := by
 intro a w ha
 obtain ⟨ι, dom, im, h1, h2, h3, h4⟩ := ha
 have hv := ev_rep h2 h3 c
 rw [hc] at hv
 refine wpIn_cond_split hv.bool_of (fun h => ht h a w ⟨ι, dom, im, h1, h2, h3, h4⟩) (fun h => hf h a w ⟨ι, dom, im, h1, h2, h3, h4⟩)
theorem range_map {α : Type} (xs : Array α) : (List.range xs.size).map (fun i => xs[i]?) = xs.toList.map some := by
 apply List.ext_getElem (by simp)
 intro i h1 h2
 simp at h1
 simp [h1]
theorem Tr.region {CK : CallK} (hCK : ∀ f args hp id K, CK f args hp id K → funK P f args hp id K) {id : Nat} {ops : Array Oper} {s : S} (hd : dstOK E.N ops = true) (h : vcOps P CK ops ops.toList s (K .normal)) :
 Tr P ro E (.region id ops false) s K := fun a w ha =>
 wpIn_region (vcOps_sound hCK hd (fun s _ _ hk ha => ⟨s, hk, ha⟩) ops.toList (List.range ops.size) s a w (range_map ops) h ha)
def Wk (E : Env) (s s' : S) : Prop := ∀ a w, Abs E s a w → Abs E s' a w
theorem Wk.refl (s : S) : Wk E s s := fun _ _ h => h
theorem Wk.trans {s s' s'' : S} (h : Wk E s s') (k : Wk E s' s'') : Wk E s s'' := fun a w ha => k a w (h a w ha)
theorem Tr.wk {c : Code} {s s' : S} (h : Wk E s s') (k : Tr P ro E c s' K) : Tr P ro E c s K := fun a w ha => k a w (h a w ha)
theorem Tr.post {c : Code} {s : S} (h : Tr P ro E c s fun e s' => ∃ s'', Wk E s' s'' ∧ K e s'') : Tr P ro E c s K :=
 fun a w ha => wpIn_mono (h a w ha) fun _ a' w' ⟨_, ⟨s'', h1, h2⟩, h3⟩ => ⟨s'', h2, h1 a' w' h3⟩
theorem least_exists {Q : Nat → Prop} (h : ∃ n, Q n) : ∃ n, Q n ∧ ∀ m, Q m → n ≤ m := by
 obtain ⟨n, hn⟩ := h
 induction n using Nat.strongRecOn with
 | _ n ih =>
   by_cases hex : ∃ m, m < n ∧ Q m
   · obtain ⟨m, hm, hq⟩ := hex
     exact ih m hm hq
   · exact ⟨n, hn, fun m hm => Nat.le_of_not_lt fun hlt => hex ⟨m, hlt, hm⟩⟩
theorem Tr.loop {β : Type} {c : Code} {s : S} (st : β → S) (inv : β → Prop) (μ : β → Nat) (p0 : β) (h0 : inv p0) (hs : Wk E s (st p0))
 (round : ∀ p, inv p → Tr P ro E c (st p) (thenK (fun s' => ∃ p', inv p' ∧ μ p' < μ p ∧ Wk E s' (st p')) K)) : Tr P ro E (.loop c) s K := by
 classical
 intro a w ha
 let least : Act → World → Nat := fun a w => if h : ∃ n p, inv p ∧ μ p = n ∧ Abs E (st p) a w then Classical.choose (least_exists h) else 0
 refine wpIn_loop (fun a w => ∃ p, inv p ∧ Abs E (st p) a w) least ⟨p0, h0, hs a w ha⟩ ?_
 rintro a w ⟨p1, hi1, ha1⟩
 have hex : ∃ n p, inv p ∧ μ p = n ∧ Abs E (st p) a w := ⟨_, p1, hi1, rfl, ha1⟩
 obtain ⟨p, hip, hmp, hap⟩ := (Classical.choose_spec (least_exists hex)).1
 have hl : least a w = μ p := by simp only [least]; rw [dif_pos hex]; exact hmp.symm
 refine wpIn_mono (round p hip a w hap) ?_
 rintro e a' w' ⟨s', h1, h2⟩
 cases e <;> first
  | exact ⟨s', h1, h2⟩
  | (obtain ⟨p', hp', hlt, hwk⟩ := h1
     have ha' := hwk a' w' h2
     refine ⟨⟨p', hp', ha'⟩, ?_⟩
     have hex' : ∃ n p, inv p ∧ μ p = n ∧ Abs E (st p) a' w' := ⟨_, p', hp', rfl, ha'⟩
     have h3 : least a' w' ≤ μ p' := by simp only [least]; rw [dif_pos hex']; exact (Classical.choose_spec (least_exists hex')).2 _ ⟨p', hp', rfl, ha'⟩
     omega)
end
end Go.Ab
namespace Go.Ab
open Go.RowKit
mutual
def AV.ren (ρ : Nat → Nat) : AV → AV
 | .ms o sz n => .ms (ρ o) sz n
 | .ptr o p off => .ptr (ρ o) p off
 | .mp o => .mp (ρ o)
 | .st fs => .st (AV.renL ρ fs)
 | .arr xs => .arr (AV.renL ρ xs)
 | .fn f a b => .fn f (AV.renL ρ a) (AV.renL ρ b)
 | .tup xs => .tup (AV.renL ρ xs)
 | x => x
def AV.renL (ρ : Nat → Nat) : List AV → List AV
 | [] => []
 | x :: xs => x.ren ρ :: AV.renL ρ xs
end
mutual
def AV.idsB (n : Nat) : AV → Bool
 | .ms o _ _ => decide (o < n)
 | .ptr o _ _ => decide (o < n)
 | .mp o => decide (o < n)
 | .st fs => AV.idsBL n fs
 | .arr xs => AV.idsBL n xs
 | .fn _ a b => AV.idsBL n a && AV.idsBL n b
 | .tup xs => AV.idsBL n xs
 | _ => true
def AV.idsBL (n : Nat) : List AV → Bool
 | [] => true
 | x :: xs => x.idsB n && AV.idsBL n xs
end
def Cx.pull (C : Cx) (ρ : Nat → Nat) (n : Nat) : Cx := ⟨fun o => C.ι (ρ o), fun o => C.dom (ρ o) ∧ o < n, C.im, C.w⟩
theorem Cx.pull_zero (C : Cx) (ρ : Nat → Nat) (n : Nat) {x : AV} {cs : List Value} (h : Rep { C with dom := fun _ => False } x cs) : Rep { C.pull ρ n with dom := fun _ => False } x cs :=
 Rep.mono (C := { C with dom := fun _ => False }) (C' := { C.pull ρ n with dom := fun _ => False }) ⟨fun _ h => h, fun _ h => h.elim, fun _ h => h, fun _ _ _ => rfl, Nat.le_refl _, fun _ _ h => h⟩ x cs h
theorem Cx.pull_zeroL (C : Cx) (ρ : Nat → Nat) (n : Nat) {x : List AV} {cs : List (List Value)} (h : RepL { C with dom := fun _ => False } x cs) : RepL { C.pull ρ n with dom := fun _ => False } x cs :=
 RepL.mono (C := { C with dom := fun _ => False }) (C' := { C.pull ρ n with dom := fun _ => False }) ⟨fun _ h => h, fun _ h => h.elim, fun _ h => h, fun _ _ _ => rfl, Nat.le_refl _, fun _ _ h => h⟩ x cs h
theorem agg_ren (ρ : Nat → Nat) (x : AV) : (x.ren ρ).agg = x.agg := by cases x <;> simp [AV.ren, AV.agg]
theorem agg_renL (ρ : Nat → Nat) : ∀ xs : List AV, (AV.renL ρ xs).map AV.agg = xs.map AV.agg
 | [] => rfl
 | x :: xs => by simp [AV.renL, agg_ren, agg_renL ρ xs]
section
variable {C : Cx} {ρ : Nat → Nat} {n : Nat}
mutual
theorem Rep.pull : ∀ (x : AV) (cs : List Value), x.idsB n = true → Rep C (x.ren ρ) cs → Rep (C.pull ρ n) x cs
 | .bool _, _, _, h => by simpa only [AV.ren, Rep] using h
 | .int _ _, _, _, h => by simpa only [AV.ren, Rep] using h
 | .str _, _, _, h => by simpa only [AV.ren, Rep] using h
 | .root _, _, _, h => by simpa only [AV.ren, Rep] using h
 | .st fs, cs, hb, h => by
   simp only [AV.ren, Rep] at h ⊢
   obtain ⟨css, h1, h2⟩ := h
   exact ⟨css, RepL.pull fs css (by simpa [AV.idsB] using hb) h1, h2⟩
 | .arr fs, cs, hb, h => by
   simp only [AV.ren, Rep] at h ⊢
   obtain ⟨css, h1, h2⟩ := h
   exact ⟨css, RepL.pull fs css (by simpa [AV.idsB] using hb) h1, h2⟩
 | .sl xs clip, cs, _, h => by
   simp only [AV.ren, Rep] at h ⊢
   obtain ⟨A, c, h1, h2, h3, h4, h5⟩ := h
   refine ⟨A, c, h1, h2, h3, h4, ?_⟩
   rcases h5 with h5 | ⟨b, off, css, k1, k2, k3, k4, k5, k6⟩
   · exact .inl h5
   · exact .inr ⟨b, off, css, k1, k2, k3, C.pull_zeroL ρ n k4, k5, k6⟩
 | .ms o sz m, cs, hb, h => by
   simp only [AV.ren, Rep, AV.idsB, decide_eq_true_eq] at h hb ⊢
   obtain ⟨A, c, h1, h2, h3, h4, h5⟩ := h
   exact ⟨A, c, h1, ⟨h2, hb⟩, h3, h4, h5⟩
 | .ref x, cs, _, h => by
   simp only [AV.ren, Rep] at h ⊢
   obtain ⟨b, off, c, k1, k2, k3, k4, k5⟩ := h
   exact ⟨b, off, c, k1, k2, k3, C.pull_zero ρ n k4, k5⟩
 | .ptr o p off, cs, hb, h => by
   simp only [AV.ren, Rep, AV.idsB, decide_eq_true_eq] at h hb ⊢
   exact ⟨h.1, h.2, hb⟩
 | .nilp, _, _, h => by simpa only [AV.ren, Rep] using h
 | .mp o, cs, hb, h => by
   simp only [AV.ren, Rep, AV.idsB, decide_eq_true_eq] at h hb ⊢
   exact ⟨h.1, h.2, hb⟩
 | .fn f a b, cs, hb, h => by
   simp only [AV.idsB, Bool.and_eq_true] at hb
   simp only [AV.ren, Rep, agg_renL] at h ⊢
   obtain ⟨va, vb, h1, h2, h3, h4⟩ := h
   exact ⟨va, vb, h1, RepL.pull a _ hb.1 h2, RepL.pull b _ hb.2 h3, h4⟩
 | .nilf, _, _, h => by simpa only [AV.ren, Rep] using h
 | .tup _, _, _, h => by simp only [AV.ren, Rep] at h
 | .raw _, _, _, h => by simpa only [AV.ren, Rep] using h
theorem RepL.pull : ∀ (xs : List AV) (css : List (List Value)), AV.idsBL n xs = true → RepL C (AV.renL ρ xs) css → RepL (C.pull ρ n) xs css
 | [], _, _, h => by simpa only [AV.renL, RepL] using h
 | x :: xs, css, hb, h => by
   simp only [AV.idsBL, Bool.and_eq_true] at hb
   simp only [AV.renL, RepL] at h ⊢
   obtain ⟨c, r, h1, h2, h3⟩ := h
   exact ⟨c, r, h1, Rep.pull x c hb.1 h2, RepL.pull xs r hb.2 h3⟩
end
theorem RepV.pull {x : AV} {v : Value} (hb : x.idsB n = true) (h : RepV C (x.ren ρ) v) : RepV (C.pull ρ n) x v :=
 ⟨Rep.pull x _ hb h.1, by rw [← agg_ren ρ]; exact h.2.1, h.2.2⟩
theorem RepVs.pull : ∀ (xs : List AV) (vs : List Value), AV.idsBL n xs = true → RepVs C (AV.renL ρ xs) vs → RepVs (C.pull ρ n) xs vs
 | [], _, _, h => h
 | x :: xs, vs, hb, h => by
   simp only [AV.idsBL, Bool.and_eq_true] at hb
   obtain ⟨v, r, h1, h2, h3⟩ := h
   exact ⟨v, r, h1, RepV.pull hb.1 h2, RepVs.pull xs r hb.2 h3⟩
theorem RepT.pull {x : AV} {v : Value} (hb : x.idsB n = true) (h : RepT C (x.ren ρ) v) : RepT (C.pull ρ n) x v := by
 rcases h with ⟨u, h1, h2⟩ | h
 · cases x <;> simp [AV.ren] at h1
   subst h1
   exact .inl ⟨_, rfl, h2⟩
 · refine .inr ?_
   cases x <;> first
    | exact RepV.pull hb h
    | (obtain ⟨vs, h1, h2⟩ := h
       exact ⟨vs, h1, RepVs.pull _ _ hb h2⟩)
end
def AO.ren (ρ : Nat → Nat) : AO → AO
 | .var x => .var (x.ren ρ)
 | ob => ob
def AO.idsB (n : Nat) : AO → Bool
 | .var x => x.idsB n
 | _ => true
theorem real_ren (ρ : Nat → Nat) (ob : AO) : (ob.ren ρ).real ↔ ob.real := by
 cases ob with
 | row sz xs => cases xs <;> simp [AO.ren, AO.real]
 | _ => simp [AO.ren, AO.real]
theorem Owns.pull {C : Cx} {ρ : Nat → Nat} {n b : Nat} {ob : AO} (hb : ob.idsB n = true) (h : Owns C b (ob.ren ρ)) : Owns (C.pull ρ n) b ob := by
 cases ob with
 | var x =>
   obtain ⟨cs, e, h1, h2⟩ := h
   exact ⟨cs, e, h1, Rep.pull x _ hb h2⟩
 | row sz xs =>
   rcases h with h | ⟨cs, e, css, h1, h2, h3⟩
   · exact .inl h
   · exact .inr ⟨cs, e, css, h1, C.pull_zeroL ρ n h2, h3⟩
 | amap es =>
   obtain ⟨ms, clock, h1, ks, vs, h2, h3, h4⟩ := h
   exact ⟨ms, clock, h1, ks, vs, C.pull_zeroL ρ n h2, C.pull_zeroL ρ n h3, h4⟩
 | obj ob => exact h
 | tab g x =>
   have h : Rep C (.ref x) [.pointer (some ⟨g, 0, none⟩)] := h
   show Rep (C.pull ρ n) (.ref x) [.pointer (some ⟨g, 0, none⟩)]
   simp only [Rep] at h ⊢
   obtain ⟨b, off, c, h1, h2, h3, h4, h5⟩ := h
   exact ⟨b, off, c, h1, h2, h3, C.pull_zero ρ n h4, h5⟩
theorem FR.get_mem {fr : FR} {t : Nat} : FR.get fr t = .raw undef ∨ ∃ p ∈ fr, p.1 = t ∧ p.2 = FR.get fr t := by
 induction fr with
 | nil => exact .inl rfl
 | cons p fr ih =>
   rw [FR.get_cons]
   by_cases h : p.1 = t
   · simp only [h, if_true]
     exact .inr ⟨p, by simp, h, rfl⟩
   · simp only [h, if_false]
     rcases ih with ih | ⟨q, h1, h2⟩
     · exact .inl ih
     · exact .inr ⟨q, by simp [h1], h2⟩
theorem HP.get_mem {hp : HP} {o : Nat} {ob : AO} (h : HP.get hp o = some ob) : (o, ob) ∈ hp := by
 induction hp with
 | nil => simp [HP.get] at h
 | cons p hp ih =>
   rw [HP.get_cons] at h
   by_cases e : p.1 = o
   · simp only [e, if_true, Option.some.injEq] at h
     subst h; subst e; simp
   · simp only [e, if_false] at h
     exact List.mem_cons_of_mem _ (ih h)
theorem Wk.ren {E : Env} {s s' : S} (ρ : Nat → Nat) (hf : ∀ p ∈ s'.fr, s.fr.get p.1 = p.2.ren ρ ∧ p.2.idsB s'.nx = true) (hh : ∀ p ∈ s'.hp, HP.get s.hp (ρ p.1) = some (p.2.ren ρ) ∧ p.2.idsB s'.nx = true ∧ p.1 < s'.nx)
 (hinj : ∀ p ∈ s'.hp, ∀ q ∈ s'.hp, ρ p.1 = ρ q.1 → p.1 = q.1) (hdf : s.df = s'.df.map ρ ∧ ∀ o ∈ s'.df, o < s'.nx) (hpin : ∀ o, o < E.pn → ρ o = o ∧ o < s'.nx) : Wk E s s' := by
 rintro a w ⟨ι, dom, im, h1, h2, h3, h4, h5⟩
 have hle : ∀ o ob, HP.get s'.hp o = some ob → HP.get s.hp (ρ o) = some (ob.ren ρ) ∧ ob.idsB s'.nx = true ∧ o < s'.nx := fun o ob hg => hh (o, ob) (HP.get_mem hg)
 refine ⟨fun o => ι (ρ o), fun o => dom (ρ o) ∧ o < s'.nx, im, fun o h => h.2, ?_, ?_, ?_, ?_⟩
 · refine ⟨fun o ob hg => ?_, fun o ob hg => ?_, fun o ob hg hr => ?_, fun o ob hg hr => ?_, fun o o' ob ob' hg hg' hr hr' he => ?_, fun o ob hg hr => ?_, h2.imlt, h2.imsub, h2.im0, h2.ext, h2.size, h2.os, h2.tape, h2.output, h2.sh, fun o ho => by
    obtain ⟨e1, e2⟩ := hpin o ho
    exact ⟨⟨by rw [e1]; exact (h2.pin o ho).1, e2⟩, by show ι (ρ o) = _; rw [e1]; exact (h2.pin o ho).2⟩⟩
   · obtain ⟨k1, k2, k3⟩ := hle o ob hg
     exact Owns.pull (C := ⟨ι, dom, im, w⟩) k2 (h2.own _ _ k1)
   · obtain ⟨k1, k2, k3⟩ := hle o ob hg
     exact ⟨h2.dm _ _ k1, k3⟩
   · obtain ⟨k1, k2, k3⟩ := hle o ob hg
     exact h2.lt _ _ k1 ((real_ren ρ ob).2 hr)
   · obtain ⟨k1, k2, k3⟩ := hle o ob hg
     exact h2.nim _ _ k1 ((real_ren ρ ob).2 hr)
   · obtain ⟨k1, k2, k3⟩ := hle o ob hg
     obtain ⟨l1, l2, l3⟩ := hle o' ob' hg'
     exact hinj _ (HP.get_mem hg) _ (HP.get_mem hg') (h2.inj _ _ _ _ k1 l1 ((real_ren ρ ob).2 hr) ((real_ren ρ ob').2 hr') he)
   · obtain ⟨k1, k2, k3⟩ := hle o ob hg
     exact h2.loc _ _ k1 ((real_ren ρ ob).2 hr)
 · refine ⟨h3.1, fun t => ?_⟩
   rcases FR.get_mem (fr := s'.fr) (t := t) with h | ⟨p, hp, h6, h7⟩
   · rw [h]; exact .inl ⟨undef, rfl, .inl rfl⟩
   · obtain ⟨k1, k2⟩ := hf p hp
     have := h3.2 t
     rw [← h6, k1] at this
     rw [← h7, ← h6]
     exact RepT.pull (C := ⟨ι, dom, im, w⟩) k2 this
 · intro o ho
   have : ρ o ∈ s.df := by rw [hdf.1]; exact List.mem_map_of_mem ho
   exact ⟨h4 _ this, hdf.2 o ho⟩
 · rw [h5, hdf.1, List.map_map]
   rfl
theorem Wk.nil {E : Env} {s : S} (t sz : Nat) (h : s.fr.get t = .sl [] true) : Wk E s { s with fr := (t, .ms s.nx sz 0) :: s.fr, hp := (s.nx, .row sz []) :: s.hp, nx := s.nx + 1 } := by
 rintro a w ⟨ι, dom, im, h1, h2, h3, h4, h5⟩
 have hid : ¬ dom s.nx := fun h => by have := h1 _ h; omega
 have hle : Cx.Le ⟨ι, dom, im, w⟩ ⟨ι, fun o => dom o ∨ o = s.nx, im, w⟩ := Cx.Le.grow ⟨ι, dom, im, w⟩ (fun _ h => .inl h) (fun _ _ => rfl) (fun _ h => h)
 refine ⟨ι, _, im, fun o ho => ?_, h2.addNil hid sz, FrOK.same (h3.mono hle) ?_, fun o ho => .inl (h4 o ho), h5⟩
 · simp only
   rcases ho with ho | ho
   · have := h1 o ho; omega
   · omega
 · have := h3.2 t
   rw [h] at this
   have h6 := this.one (by simp) rfl rfl
   simp only [Rep] at h6
   obtain ⟨A, c, h6, _, _, h7, _⟩ := h6
   have hc := h7 (by trivial)
   subst hc
   simp only [List.length_nil, List.cons.injEq, and_true] at h6
   rw [h6]
   refine .inr ⟨?_, rfl, rfl⟩
   simp only [Rep, Value.cells]
   exact ⟨A, 0, rfl, .inr (by trivial), by simp, by simp [maxLen], .inl ⟨by trivial, by trivial⟩⟩
end Go.Ab
namespace Go.Ab
open Go.RowKit
mutual
def AV.frz (hp : HP) : AV → AV
 | .ms o sz n => match HP.get hp o with
   | some (.row sz' xs) => if sz = sz' ∧ n = xs.length then .sl xs false else .ms o sz n
   | some (.var (.root r)) => if sz = 1 ∧ n = 32 then .sl (r.1.map fun b => .int .u8 b.toNat) false else .ms o sz n
   | _ => .ms o sz n
 | .sl xs _ => .sl xs false
 | .ptr o p off => match HP.get hp o with
   | some (.var x) => if p = [] ∧ off = 0 ∧ x.idf = true then .ref x else .ptr o p off
   | _ => .ptr o p off
 | .st fs => .st (AV.frzL hp fs)
 | .arr xs => .arr (AV.frzL hp xs)
 | .fn f a b => .fn f (AV.frzL hp a) (AV.frzL hp b)
 | .tup xs => .tup (AV.frzL hp xs)
 | x => x
def AV.frzL (hp : HP) : List AV → List AV
 | [] => []
 | x :: xs => x.frz hp :: AV.frzL hp xs
end
theorem agg_frz (hp : HP) (x : AV) : (x.frz hp).agg = x.agg := by
 have h1 : ∀ o sz n, ((AV.ms o sz n).frz hp).agg = false := fun o sz n => by
  unfold AV.frz; split
  · split <;> rfl
  · split <;> rfl
  · rfl
 have h2 : ∀ o p off, ((AV.ptr o p off).frz hp).agg = false := fun o p off => by
  unfold AV.frz; split
  · split <;> rfl
  · rfl
 cases x <;> first | exact h1 _ _ _ | exact h2 _ _ _ | simp [AV.frz, AV.agg]
theorem agg_frzL (hp : HP) : ∀ xs : List AV, (AV.frzL hp xs).map AV.agg = xs.map AV.agg
 | [] => rfl
 | x :: xs => by simp [AV.frzL, agg_frz, agg_frzL hp xs]
section
variable {P : Program} {E : Env} {hp : HP} {ι : Nat → Nat} {dom im im' : Nat → Prop} {w : World}
mutual
theorem Rep.frz (hi : HInv E hp ι dom im w) (hm : ∀ b, im b → im' b) (ho : ∀ o ob, HP.get hp o = some ob → ob.real → im' (ι o)) :
 ∀ (x : AV) (cs : List Value), Rep ⟨ι, dom, im, w⟩ x cs → Rep ⟨ι, dom, im', w⟩ (x.frz hp) cs
 | .bool _, _, h => by simpa only [AV.frz, Rep] using h
 | .int _ _, _, h => by simpa only [AV.frz, Rep] using h
 | .str _, _, h => by simpa only [AV.frz, Rep] using h
 | .root _, _, h => by simpa only [AV.frz, Rep] using h
 | .st fs, cs, h => by
   simp only [AV.frz, Rep] at h ⊢
   obtain ⟨css, h1, h2⟩ := h
   exact ⟨css, RepL.frz hi hm ho fs css h1, h2⟩
 | .arr fs, cs, h => by
   simp only [AV.frz, Rep] at h ⊢
   obtain ⟨css, h1, h2⟩ := h
   exact ⟨css, RepL.frz hi hm ho fs css h1, h2⟩
 | .sl xs clip, cs, h => by
   have h := Rep.mono (C' := ⟨ι, dom, im', w⟩) (Cx.Le.grow ⟨ι, dom, im, w⟩ (fun _ h => h) (fun _ _ => rfl) hm) _ _ h
   simp only [AV.frz, Rep] at h ⊢
   obtain ⟨A, c, h1, h2, h3, _, h5⟩ := h
   exact ⟨A, c, h1, h2, h3, fun e => (by cases e), h5⟩
 | .ms o sz n, cs, h => by
   have hk := Rep.mono (C' := ⟨ι, dom, im', w⟩) (Cx.Le.grow ⟨ι, dom, im, w⟩ (fun _ h => h) (fun _ _ => rfl) hm) _ _ h
   simp only [AV.frz]
   split
   · rename_i sz' xs hg
     split
     · rename_i hc
       obtain ⟨rfl, hn⟩ := hc
       simp only [Rep] at h ⊢
       obtain ⟨A, c, h1, _, h3, h4, h5⟩ := h
       refine ⟨A, c, by rw [← hn]; exact h1, by omega, h4, fun e => (by cases e), ?_⟩
       cases xs with
       | nil => exact .inl rfl
       | cons x xs =>
         rcases h5 with h5 | ⟨_, h6, _⟩
         · simp at hn; omega
         · rcases hi.own o _ hg with hz | ⟨cs', e, css, k1, k2, k3, k4⟩
           · cases hz
           · exact .inr ⟨ι o, 0, css, h6, ho o _ hg trivial, hi.lt o _ hg trivial, RepL.mono (C := ⟨ι, fun _ => False, im, w⟩) (C' := ⟨ι, fun _ => False, im', w⟩) (Cx.Le.grow ⟨ι, fun _ => False, im, w⟩ (fun _ h => h) (fun _ _ => rfl) hm) _ _ k2, ⟨sz, k3⟩,
              (cellsAt_of_block k1).part (k := 0) (by simpa using k4)⟩
     · exact hk
   · rename_i r hg
     split
     · rename_i hc
       obtain ⟨rfl, rfl⟩ := hc
       simp only [Rep] at h ⊢
       obtain ⟨A, c, h1, _, h3, h4, h5⟩ := h
       refine ⟨A, c, by simpa [r.2] using h1, by simp [r.2]; omega, h4, fun e => (by cases e), ?_⟩
       rcases h5 with h5 | ⟨_, h6, _⟩
       · omega
       · obtain ⟨cs', e, k1, k2⟩ := hi.own o _ hg
         simp only [Rep] at k2
         refine .inr ⟨ι o, 0, (rootCells r).map fun v => [v], h6, ho o _ hg trivial, hi.lt o _ hg trivial, rootBytes_rep r, ⟨1, fun x hx => ?_⟩, ?_⟩
         · simp only [List.mem_map] at hx
           obtain ⟨v, _, rfl⟩ := hx
           rfl
         · rw [flatten_single, ← k2]
           exact cellsAt_of_block k1
     · exact hk
   · exact hk
 | .ref x, cs, h => by
   have hk := Rep.mono (C' := ⟨ι, dom, im', w⟩) (Cx.Le.grow ⟨ι, dom, im, w⟩ (fun _ h => h) (fun _ _ => rfl) hm) _ _ h
   simpa only [AV.frz] using hk
 | .ptr o p off, cs, h => by
   have hk := Rep.mono (C' := ⟨ι, dom, im', w⟩) (Cx.Le.grow ⟨ι, dom, im, w⟩ (fun _ h => h) (fun _ _ => rfl) hm) _ _ h
   simp only [AV.frz]
   split
   · rename_i x hg
     split
     · rename_i hc
       obtain ⟨rfl, rfl, hid⟩ := hc
       simp only [Rep] at h ⊢
       obtain ⟨cs', e, k1, k2⟩ := hi.own o _ hg
       refine ⟨ι o, 0, cs'.toList, h.1, ho o _ hg trivial, hi.lt o _ hg trivial, ?_, cellsAt_of_block k1⟩
       exact Rep.mono (C := ⟨ι, fun _ => False, im, w⟩) (C' := ⟨ι, fun _ => False, im', w⟩) (Cx.Le.grow ⟨ι, fun _ => False, im, w⟩ (fun _ h => h) (fun _ _ => rfl) hm) _ _ (Rep.idf (C := ⟨ι, dom, im, w⟩) x _ hid k2)
     · exact hk
   · exact hk
 | .nilp, _, h => by simpa only [AV.frz, Rep] using h
 | .mp o, cs, h => by simpa only [AV.frz, Rep] using h
 | .fn f a b, cs, h => by
   simp only [AV.frz, Rep, agg_frzL] at h ⊢
   obtain ⟨va, vb, h1, h2, h3, h4⟩ := h
   exact ⟨va, vb, h1, RepL.frz hi hm ho a _ h2, RepL.frz hi hm ho b _ h3, h4⟩
 | .nilf, _, h => by simpa only [AV.frz, Rep] using h
 | .tup _, _, h => by simp only [Rep] at h
 | .raw _, _, h => by simpa only [AV.frz, Rep] using h
theorem RepL.frz (hi : HInv E hp ι dom im w) (hm : ∀ b, im b → im' b) (ho : ∀ o ob, HP.get hp o = some ob → ob.real → im' (ι o)) :
 ∀ (xs : List AV) (css : List (List Value)), RepL ⟨ι, dom, im, w⟩ xs css → RepL ⟨ι, dom, im', w⟩ (AV.frzL hp xs) css
 | [], _, h => by simpa only [AV.frzL, RepL] using h
 | x :: xs, css, h => by
   simp only [AV.frzL, RepL] at h ⊢
   obtain ⟨c, r, h1, h2, h3⟩ := h
   exact ⟨c, r, h1, Rep.frz hi hm ho x c h2, RepL.frz hi hm ho xs r h3⟩
end
theorem RepV.frz (hi : HInv E hp ι dom im w) (hm : ∀ b, im b → im' b) (ho : ∀ o ob, HP.get hp o = some ob → ob.real → im' (ι o)) {x : AV} {v : Value} (h : RepV ⟨ι, dom, im, w⟩ x v) : RepV ⟨ι, dom, im', w⟩ (x.frz hp) v :=
 ⟨Rep.frz hi hm ho x _ h.1, by rw [agg_frz]; exact h.2.1, h.2.2⟩
theorem RepVs.frz (hi : HInv E hp ι dom im w) (hm : ∀ b, im b → im' b) (ho : ∀ o ob, HP.get hp o = some ob → ob.real → im' (ι o)) : ∀ (xs : List AV) (vs : List Value), RepVs ⟨ι, dom, im, w⟩ xs vs → RepVs ⟨ι, dom, im', w⟩ (AV.frzL hp xs) vs
 | [], _, h => h
 | x :: xs, vs, h => by
   obtain ⟨v, r, h1, h2, h3⟩ := h
   exact ⟨v, r, h1, RepV.frz hi hm ho h2, RepVs.frz hi hm ho xs r h3⟩
end
def Pure (P : Program) (f : FuncId) (args : List AV) (r : AV) : Prop :=
 ∀ (im : Nat → Prop) (w : World) (vals : List Value), (∀ b, im b → b < w.heap.size) → RepVs ⟨id, fun _ => False, im, w⟩ args vals →
   CallsIn Fence.wide 0 P f vals.toArray w fun e w' => ∃ v, e = .returned v ∧ Below w.heap.size w w' ∧ RepS ⟨id, fun _ => False, fun b => im b ∨ (w.heap.size ≤ b ∧ b < w'.heap.size), w'⟩ r v
mutual
def AV.flat : AV → Bool
 | .bool _ => true
 | .int _ _ => true
 | .str _ => true
 | .root _ => true
 | .nilp => true
 | .nilf => true
 | .st fs => AV.flatL fs
 | .arr xs => AV.flatL xs
 | .tup xs => AV.flatL xs
 | _ => false
def AV.flatL : List AV → Bool
 | [] => true
 | x :: xs => x.flat && AV.flatL xs
end
def AV.idfT : AV → Bool
 | .tup xs => AV.idfL xs
 | x => x.idf
end Go.Ab
namespace Go.Ab
open Go.RowKit
section
variable {P : Program}
theorem binK_det {op : BinOp} {t : TypeId} {x y : AV} {K : AV → Prop} (h : binK P op t x y K) : ∃ v, K v ∧ (∀ K' : AV → Prop, K' v → binK P op t x y K') ∧ ∀ K' : AV → Prop, binK P op t x y K' → K' v := by
 unfold binK at *
 split at h
 · split at h <;> first
    | exact h.elim
    | exact ⟨_, h.2, fun _ k => ⟨h.1, k⟩, fun _ k => k.2⟩
    | exact ⟨_, h.2.2, fun _ k => ⟨h.1, h.2.1, k⟩, fun _ k => k.2.2⟩
 · split at h <;> first
    | exact h.elim
    | exact ⟨_, h, fun _ k => k, fun _ k => k⟩
 · split at h <;> first
    | exact h.elim
    | exact ⟨_, h.2, fun _ k => ⟨h.1, k⟩, fun _ k => k.2⟩
 · split at h <;> first
    | exact h.elim
    | exact ⟨_, h.2.2.2.2, fun K' k => ⟨h.1, h.2.1, h.2.2.1, h.2.2.2.1, k⟩, fun _ k => k.2.2.2.2⟩
theorem unK_det {op : UnOp} {x : AV} {K : AV → Prop} (h : unK op x K) : ∃ v, K v ∧ (∀ K' : AV → Prop, K' v → unK op x K') ∧ ∀ K' : AV → Prop, unK op x K' → K' v := by
 unfold unK at *
 split at h <;> first
  | exact h.elim
  | exact ⟨_, h, fun _ k => k, fun _ k => k⟩
theorem convK_det {s d : TypeId} {hp : HP} {x : AV} {K : AV → Prop} (h : convK P s d hp x K) : ∃ v, K v ∧ (∀ K' : AV → Prop, K' v → convK P s d hp x K') ∧ ∀ K' : AV → Prop, convK P s d hp x K' → K' v := by
 unfold convK at *
 split at h
 · rename_i h1 h2
   exact ⟨_, h, fun _ k => k, fun _ k => k⟩
 · rename_i h0 h1 h2
   obtain ⟨h3, h⟩ := h
   split at h
   · rename_i xs h4
     exact ⟨_, h.2, fun _ k => ⟨h3, h.1, k⟩, fun _ k => k.2.2⟩
   · exact h.elim
 · exact h.elim
theorem loadK_det {t : TypeId} {hp : HP} {x : AV} {K : AV → HP → Prop} (h : loadK P t hp x K) : ∃ v, K v hp ∧ (∀ K' : AV → HP → Prop, K' v hp → loadK P t hp x K') ∧ ∀ K' : AV → HP → Prop, loadK P t hp x K' → K' v hp := by
 unfold loadK at *
 split at h
 · exact ⟨_, h.2.2, fun _ k => ⟨h.1, h.2.1, k⟩, fun _ k => k.2.2⟩
 · split at h
   · rename_i h1
     split at h
     · rename_i h2
       exact ⟨_, h.2.2.2, fun _ k => ⟨h.1, h.2.1, h.2.2.1, k⟩, fun _ k => k.2.2.2⟩
     · exact h.elim
   · rename_i h1
     split at h
     · split at h
       · rename_i h2
         split at h
         · rename_i h3
           exact ⟨_, h.2.2.2, fun _ k => ⟨h.1, h.2.1, h.2.2.1, k⟩, fun _ k => k.2.2.2⟩
         · exact h.elim
       · exact h.elim
     · exact h.elim
   · exact h.elim
 · exact h.elim
theorem nilCheckK_det {x : AV} {K : AV → Prop} (h : nilCheckK x K) : ∃ v, K v ∧ (∀ K' : AV → Prop, K' v → nilCheckK x K') ∧ ∀ K' : AV → Prop, nilCheckK x K' → K' v := by
 unfold nilCheckK at *
 split at h <;> first
  | exact h.elim
  | exact ⟨_, h, fun _ k => k, fun _ k => k⟩
theorem fieldAddrK_det {t : TypeId} {x : AV} {f : Nat} {K : AV → Prop} (h : fieldAddrK P t x f K) : ∃ v, K v ∧ (∀ K' : AV → Prop, K' v → fieldAddrK P t x f K') ∧ ∀ K' : AV → Prop, fieldAddrK P t x f K' → K' v := by
 unfold fieldAddrK at *
 split at h
 · rename_i h0
   obtain ⟨hs, h⟩ := h
   split at h
   · exact ⟨_, h, fun _ k => ⟨hs, k⟩, fun _ k => k.2⟩
   · split at h
     · rename_i h1
       exact ⟨_, h.2, fun _ k => ⟨hs, h.1, k⟩, fun _ k => k.2.2⟩
     · exact h.elim
   · exact h.elim
 · exact h.elim
theorem fieldK_det {t : TypeId} {x : AV} {f : Nat} {K : AV → Prop} (h : fieldK P t x f K) : ∃ v, K v ∧ (∀ K' : AV → Prop, K' v → fieldK P t x f K') ∧ ∀ K' : AV → Prop, fieldK P t x f K' → K' v := by
 unfold fieldK at *
 split at h
 · rename_i h0
   split at h
   · split at h
     · rename_i h1
       exact ⟨_, h.2.2.2, fun _ k => ⟨h.1, h.2.1, h.2.2.1, k⟩, fun _ k => k.2.2.2⟩
     · exact h.elim
   · exact h.elim
 · exact h.elim
theorem indexAddrK_det {t : TypeId} {x i : AV} {K : AV → Prop} (h : indexAddrK P t x i K) : ∃ v, K v ∧ (∀ K' : AV → Prop, K' v → indexAddrK P t x i K') ∧ ∀ K' : AV → Prop, indexAddrK P t x i K' → K' v := by
 unfold indexAddrK at *
 split at h
 · split at h
   · exact ⟨_, h.2, fun _ k => ⟨h.1, k⟩, fun _ k => k.2⟩
   · exact h.elim
 · split at h
   · exact ⟨_, h.2.2.2, fun _ k => ⟨h.1, h.2.1, h.2.2.1, k⟩, fun _ k => k.2.2.2⟩
   · exact h.elim
 · split at h
   · split at h
     · rename_i h1
       exact ⟨_, h.2.2, fun _ k => ⟨h.1, h.2.1, k⟩, fun _ k => k.2.2⟩
     · exact h.elim
   · exact h.elim
 · split at h
   · split at h
     · rename_i h1
       exact ⟨_, h.2.2.2, fun _ k => ⟨h.1, h.2.1, h.2.2.1, k⟩, fun _ k => k.2.2.2⟩
     · exact h.elim
   · exact h.elim
 · split at h
   · exact ⟨_, h.2.2.2, fun _ k => ⟨h.1, h.2.1, h.2.2.1, k⟩, fun _ k => k.2.2.2⟩
   · exact h.elim
 · exact h.elim
theorem indexK_det {t : TypeId} {x i : AV} {K : AV → Prop} (h : indexK P t x i K) : ∃ v, K v ∧ (∀ K' : AV → Prop, K' v → indexK P t x i K') ∧ ∀ K' : AV → Prop, indexK P t x i K' → K' v := by
 unfold indexK at *
 split at h
 · split at h
   · split at h
     · rename_i h1
       exact ⟨_, h.2.2.2.2, fun _ k => ⟨h.1, h.2.1, h.2.2.1, h.2.2.2.1, k⟩, fun _ k => k.2.2.2.2⟩
     · exact h.elim
   · exact h.elim
 · split at h
   · exact ⟨_, h.2.2.2.2, fun _ k => ⟨h.1, h.2.1, h.2.2.1, h.2.2.2.1, k⟩, fun _ k => k.2.2.2.2⟩
   · exact h.elim
 · exact h.elim
theorem sliceK_det {t : TypeId} {x : AV} {lo hi mx : Option AV} {K : AV → Prop} (h : sliceK P t x lo hi mx K) : ∃ v, K v ∧ (∀ K' : AV → Prop, K' v → sliceK P t x lo hi mx K') ∧ ∀ K' : AV → Prop, sliceK P t x lo hi mx K' → K' v := by
 unfold sliceK at *
 split at h
 · split at h
   · rename_i h1 h2 h3
     exact ⟨_, h.2.2.2.2, fun _ k => ⟨h.1, h.2.1, h.2.2.1, h.2.2.2.1, k⟩, fun _ k => k.2.2.2.2⟩
   · rename_i h1 h2 h3
     split at h
     · rename_i h4
       exact ⟨_, h.2.2.2.2.2.2, fun _ k => ⟨h.1, h.2.1, h.2.2.1, h.2.2.2.1, h.2.2.2.2.1, h.2.2.2.2.2.1, k⟩, fun _ k => k.2.2.2.2.2.2⟩
     · exact h.elim
   · exact h.elim
 · split at h
   · rename_i h1
     exact ⟨_, h.2.2, fun _ k => ⟨h.1, h.2.1, k⟩, fun _ k => k.2.2⟩
   · exact h.elim
 · exact h.elim
theorem lenK_det {t : TypeId} {hp : HP} {x : AV} {K : AV → Prop} (h : lenK P t hp x K) : ∃ v, K v ∧ (∀ K' : AV → Prop, K' v → lenK P t hp x K') ∧ ∀ K' : AV → Prop, lenK P t hp x K' → K' v := by
 unfold lenK at *
 split at h
 · rename_i h1; exact ⟨_, h, fun _ k => k, fun _ k => k⟩
 · rename_i h1; exact ⟨_, h, fun _ k => k, fun _ k => k⟩
 · rename_i h1; exact ⟨_, h, fun _ k => k, fun _ k => k⟩
 · rename_i h1; exact ⟨_, h, fun _ k => k, fun _ k => k⟩
 · rename_i h1
   split at h
   · rename_i h2; exact ⟨_, h, fun _ k => k, fun _ k => k⟩
   · exact h.elim
 · exact h.elim
theorem buildSliceK_det {t : TypeId} {n : Nat} {ps : List (Nat × AV)} {K : AV → Prop} (h : buildSliceK P t n ps K) : ∃ v, K v ∧ (∀ K' : AV → Prop, K' v → buildSliceK P t n ps K') ∧ ∀ K' : AV → Prop, buildSliceK P t n ps K' → K' v := by
 unfold buildSliceK at *
 split at h
 · split at h
   · rename_i h1 h2
     exact ⟨_, h.2.2.2.2.2, fun _ k => ⟨h.1, h.2.1, h.2.2.1, h.2.2.2.1, h.2.2.2.2.1, k⟩, fun _ k => k.2.2.2.2.2⟩
   · exact h.elim
 · exact h.elim
theorem buildK_det {t : TypeId} {ps : List (Nat × AV)} {K : AV → Prop} (h : buildK P t ps K) : ∃ v, K v ∧ (∀ K' : AV → Prop, K' v → buildK P t ps K') ∧ ∀ K' : AV → Prop, buildK P t ps K' → K' v := by
 unfold buildK at *
 split at h
 · rename_i h1 h2
   split at h
   · rename_i h3
     exact ⟨_, h.2.2, fun _ k => ⟨h.1, h.2.1, k⟩, fun _ k => k.2.2⟩
   · exact h.elim
 · rename_i h1 h2
   split at h
   · rename_i h3
     obtain ⟨sz, h4, h5, h6, h7⟩ := h
     exact ⟨_, h7, fun _ k => ⟨sz, h4, h5, h6, k⟩, fun _ ⟨_, _, _, _, k⟩ => k⟩
   · exact h.elim
 · rename_i h1 h2
   split at h
   · exact ⟨_, h.2, fun _ k => ⟨h.1, k⟩, fun _ k => k.2⟩
   · exact ⟨_, h.2.2.2.2.2, fun _ k => ⟨h.1, h.2.1, h.2.2.1, h.2.2.2.1, h.2.2.2.2.1, k⟩, fun _ k => k.2.2.2.2.2⟩
   · exact h.elim
 · exact h.elim
theorem extractK_det {x : AV} {i : Nat} {K : AV → Prop} (h : extractK x i K) : ∃ v, K v ∧ (∀ K' : AV → Prop, K' v → extractK x i K') ∧ ∀ K' : AV → Prop, extractK x i K' → K' v := by
 unfold extractK at *
 split at h
 · split at h
   · rename_i h1; exact ⟨_, h, fun _ k => k, fun _ k => k⟩
   · exact h.elim
 · exact h.elim
theorem minK_det {x y : AV} {lt : Int → Int → Bool} {K : AV → Prop} (h : minK x y lt K) : ∃ v, K v ∧ (∀ K' : AV → Prop, K' v → minK x y lt K') ∧ ∀ K' : AV → Prop, minK x y lt K' → K' v := by
 unfold minK at *
 split at h
 · exact ⟨_, h, fun _ k => k, fun _ k => k⟩
 · exact h.elim
theorem sliceHK_det {t : TypeId} {hp : HP} {x : AV} {lo hi mx : Option AV} {K : AV → Prop} (h : sliceHK P t hp x lo hi mx K) : ∃ v, K v ∧ (∀ K' : AV → Prop, K' v → sliceHK P t hp x lo hi mx K') ∧ ∀ K' : AV → Prop, sliceHK P t hp x lo hi mx K' → K' v := by
 unfold sliceHK at *
 split at h
 · split at h
   · exact ⟨_, h.2.2, fun _ k => ⟨h.1, h.2.1, k⟩, fun _ k => k.2.2⟩
   · exact h.elim
 · exact sliceK_det h
def quietOp (o : Oper) : Bool :=
 match o.op with
 | .move _ | .assign _ | .pick _ _ _ | .build _ _ | .buildSlice _ _ _ | .load _ _ | .nilCheck _ | .unOp _ _ _ | .convert _ _ _ | .fieldAddr _ _ _ | .field _ _ _ | .indexAddr _ _ _ | .index _ _ _
 | .slice _ _ _ _ _ | .extract _ _ | .makeFunc _ _ _ => true
 | .binOp _ _ _ y _ => !isNilSl y
 | .call c => match c.callee with
   | .builtin .len => true
   | .builtin .min => true
   | .builtin .max => true
   | _ => false
 | _ => false
variable {CK : CallK} {o : Oper} {id : Nat} {g g' : Operand → AV} {hp : HP} {K K' : AV → HP → Prop}
theorem callK_det {c : Call} (hq : c.callee = .builtin .len ∨ c.callee = .builtin .min ∨ c.callee = .builtin .max) (h : callK P CK c id g hp K) :
 ∃ v, K v hp ∧ (∀ id' (K' : AV → HP → Prop), K' v hp → callK P CK c id' g hp K') ∧ ∀ id' (K' : AV → HP → Prop), callK P CK c id' g hp K' → K' v hp := by
 unfold callK at *
 split at h
 · obtain ⟨v, k1, k2, k3⟩ := lenK_det h
   exact ⟨v, k1, fun _ K' k => k2 (fun v => K' v hp) k, fun _ K' k => k3 (fun v => K' v hp) k⟩
 · rename_i h1 _ _; rw [h1] at hq; simp at hq
 · rename_i h1 _ _; rw [h1] at hq; simp at hq
 · obtain ⟨v, k1, k2, k3⟩ := minK_det h
   exact ⟨v, k1, fun _ K' k => k2 (fun v => K' v hp) k, fun _ K' k => k3 (fun v => K' v hp) k⟩
 · obtain ⟨v, k1, k2, k3⟩ := minK_det h
   exact ⟨v, k1, fun _ K' k => k2 (fun v => K' v hp) k, fun _ K' k => k3 (fun v => K' v hp) k⟩
 · rename_i h1; rw [h1] at hq; simp at hq
 · exact h.elim
theorem opK_det (hq : quietOp o = true) (h : opK P CK o id g hp K) :
 ∃ v, K v hp ∧ (∀ id' (K' : AV → HP → Prop), K' v hp → opK P CK o id' g hp K') ∧ ∀ id' (K' : AV → HP → Prop), opK P CK o id' g hp K' → K' v hp := by
 have wrap : ∀ {F : (AV → Prop) → Prop}, (F (fun v => K v hp) → ∃ v, K v hp ∧ (∀ K' : AV → Prop, K' v → F K') ∧ ∀ K' : AV → Prop, F K' → K' v) → F (fun v => K v hp) →
  ∃ v, K v hp ∧ (∀ (_ : Nat) (K' : AV → HP → Prop), K' v hp → F (fun v => K' v hp)) ∧ ∀ (_ : Nat) (K' : AV → HP → Prop), F (fun v => K' v hp) → K' v hp :=
  fun f h => let ⟨v, h1, h2, h3⟩ := f h; ⟨v, h1, fun _ K' k => h2 _ k, fun _ K' k => h3 _ k⟩
 unfold opK at h
 unfold quietOp at hq
 split at h <;> rename_i hop <;> simp only [hop] at hq <;> unfold opK <;> simp only [hop] <;> first
  | cases hq; done
  | exact ⟨_, h, fun _ _ k => k, fun _ _ k => k⟩
  | exact wrap buildK_det h
  | exact wrap buildSliceK_det h
  | exact wrap nilCheckK_det h
  | exact wrap unK_det h
  | exact wrap convK_det h
  | exact wrap fieldAddrK_det h
  | exact wrap fieldK_det h
  | exact wrap indexAddrK_det h
  | exact wrap indexK_det h
  | exact wrap sliceHK_det h
  | exact wrap extractK_det h
  | exact (let ⟨v, h1, h2, h3⟩ := loadK_det h; ⟨v, h1, fun _ K' k => h2 K' k, fun _ K' k => h3 K' k⟩)
  | exact ⟨_, h.2, fun _ _ k => ⟨h.1, k⟩, fun _ _ k => k.2⟩
  | skip
 · split at h
   · rename_i t ht
     cases t with
     | true => exact ⟨_, h.1 rfl, fun _ _ k => ⟨fun _ => k, fun e => by cases e⟩, fun _ _ k => k.1 rfl⟩
     | false => exact ⟨_, h.2 rfl, fun _ _ k => ⟨fun e => by (cases e), fun _ => k⟩, fun _ _ k => k.2 rfl⟩
   · exact h.elim
 · rename_i y _
   have hn : isNilSl y = false := by simpa using hq
   simp only [hn, Bool.false_eq_true, if_false] at h ⊢
   exact wrap binK_det h
 · refine callK_det ?_ h
   split at hq <;> simp_all
end
end Go.Ab
namespace Go.Ab
open Go.RowKit
structure CKok (P : Program) (CK : CallK) : Prop where
 sound : ∀ f args hp id K, CK f args hp id K → funK P f args hp id K
 mono : ∀ f args hp id (K K' : AV → HP → Prop), (∀ v h, K v h → K' v h) → CK f args hp id K → CK f args hp id K'
 strict : ∀ f args hp id, ¬ CK f args hp id fun _ _ => False
section
variable {P : Program} {CK : CallK} {o : Oper} {id : Nat} {g g' : Operand → AV} {hp : HP} {K K' : AV → HP → Prop}
theorem appendK_mono {t t2 : TypeId} {s x : AV} (hk : ∀ v h, K v h → K' v h) (h : appendK P t t2 hp s x id K) : appendK P t t2 hp s x id K' := by
 unfold appendK at *
 refine ⟨h.1, ?_⟩
 have h := h.2
 split at h
 · split at h
   · refine ⟨h.1, ?_⟩
     have h := h.2
     split at h
     · refine ⟨h.1, h.2.1, h.2.2.1, h.2.2.2.1, h.2.2.2.2.1, ?_⟩
       have h := h.2.2.2.2.2
       split at h
       · exact ⟨h.1, hk _ _ h.2⟩
       · exact h.imp (fun h => ⟨h.1, hk _ _ h.2⟩) fun h => ⟨h.1, hk _ _ h.2⟩
     · split at h
       · exact ⟨h.1, h.2.1, h.2.2.1, h.2.2.2.1, h.2.2.2.2.1, h.2.2.2.2.2.1, h.2.2.2.2.2.2.1, hk _ _ h.2.2.2.2.2.2.2⟩
       · exact h.elim
     · exact h.elim
   · exact h.elim
 · exact h.elim
theorem appendK_strict {t t2 : TypeId} {s x : AV} (h : appendK P t t2 hp s x id fun _ _ => False) : False := by
 unfold appendK at h
 have h := h.2
 split at h
 · split at h
   · have h := h.2
     split at h
     · have h := h.2.2.2.2.2
       split at h
       · exact h.2
       · rcases h with h | h
         · exact h.2
         · exact h.2
     · split at h
       · exact h.2.2.2.2.2.2.2
       · exact h.elim
     · exact h.elim
   · exact h.elim
 · exact h.elim
theorem storeK_mono {t : TypeId} {x y : AV} (hk : ∀ v h, K v h → K' v h) (h : storeK P t hp x y K) : storeK P t hp x y K' := by
 unfold storeK at *
 split at h
 · split at h
   · split at h
     · exact ⟨h.1, h.2.1, h.2.2.1, h.2.2.2.1, hk _ _ h.2.2.2.2⟩
     · exact h.elim
   · split at h
     · split at h
       · split at h
         · exact ⟨h.1, h.2.1, h.2.2.1, h.2.2.2.1, h.2.2.2.2.1, hk _ _ h.2.2.2.2.2⟩
         · exact h.elim
       · exact h.elim
     · exact h.elim
   · exact h.elim
 · exact h.elim
theorem storeK_strict {t : TypeId} {x y : AV} (h : storeK P t hp x y fun _ _ => False) : False := by
 unfold storeK at *
 split at h
 · split at h
   · split at h
     · exact h.2.2.2.2
     · exact h.elim
   · split at h
     · split at h
       · split at h
         · exact h.2.2.2.2.2
         · exact h.elim
       · exact h.elim
     · exact h.elim
   · exact h.elim
 · exact h.elim
theorem makeSliceK_mono {t : TypeId} {l c : AV} (hk : ∀ v h, K v h → K' v h) (h : makeSliceK P t hp l c id K) : makeSliceK P t hp l c id K' := by
 unfold makeSliceK at *
 split at h
 · split at h
   · split at h
     · exact ⟨h.1, h.2.1, h.2.2.1, h.2.2.2.1, h.2.2.2.2.1, hk _ _ h.2.2.2.2.2⟩
     · exact h.elim
   · exact h.elim
 · exact h.elim
theorem makeSliceK_strict {t : TypeId} {l c : AV} (h : makeSliceK P t hp l c id fun _ _ => False) : False := by
 unfold makeSliceK at *
 split at h
 · split at h
   · split at h
     · exact h.2.2.2.2.2
     · exact h.elim
   · exact h.elim
 · exact h.elim
theorem allocK_mono {t : TypeId} (hk : ∀ v h, K v h → K' v h) (h : allocK P t hp id K) : allocK P t hp id K' := by
 unfold allocK at *
 split at h
 · exact hk _ _ h
 · exact h.elim
theorem allocK_strict {t : TypeId} (h : allocK P t hp id fun _ _ => False) : False := by
 unfold allocK at *
 split at h
 · exact h
 · exact h.elim
theorem nilEqK_mono {b : BinOp} {t : TypeId} {x : AV} {L L' : AV → Prop} (hk : ∀ v, L v → L' v) (h : nilEqK P b t x L) : nilEqK P b t x L' := by
 unfold nilEqK at *
 split at h
 · exact ⟨fun hn c => hk _ (h.1 hn c), fun hn => hk _ (h.2 hn)⟩
 · exact ⟨fun hn c => hk _ (h.1 hn c), fun hn => hk _ (h.2 hn)⟩
 · exact h.elim
theorem nilEqK_strict {b : BinOp} {t : TypeId} {x : AV} (h : nilEqK P b t x fun _ => False) : False := by
 unfold nilEqK at *
 split at h
 · rename_i n _ _
   by_cases hn : n = 0
   · exact h.1 hn true
   · exact h.2 hn
 · rename_i n _ _
   by_cases hn : n = 0
   · exact h.1 hn true
   · exact h.2 hn
 · exact h.elim
theorem lookupK_mono {t : TypeId} {m x : AV} {ok : Bool} {L L' : AV → Prop} (hk : ∀ v, L v → L' v) (h : lookupK P t hp m x ok L) : lookupK P t hp m x ok L' := by
 unfold lookupK at *
 split at h
 · split at h
   · exact ⟨h.1, h.2.1, h.2.2.1, hk _ h.2.2.2⟩
   · exact h.elim
 · exact h.elim
theorem lookupK_strict {t : TypeId} {m x : AV} {ok : Bool} (h : lookupK P t hp m x ok fun _ => False) : False := by
 unfold lookupK at *
 split at h
 · split at h
   · exact h.2.2.2
   · exact h.elim
 · exact h.elim
theorem mapUpdateK_mono {t : TypeId} {m x y : AV} (hk : ∀ v h, K v h → K' v h) (h : mapUpdateK P t hp m x y K) : mapUpdateK P t hp m x y K' := by
 unfold mapUpdateK at *
 split at h
 · split at h
   · exact ⟨h.1, h.2.1, h.2.2.1, h.2.2.2.1, h.2.2.2.2.1, hk _ _ h.2.2.2.2.2⟩
   · exact h.elim
 · exact h.elim
theorem mapUpdateK_strict {t : TypeId} {m x y : AV} (h : mapUpdateK P t hp m x y fun _ _ => False) : False := by
 unfold mapUpdateK at *
 split at h
 · split at h
   · exact h.2.2.2.2.2
   · exact h.elim
 · exact h.elim
theorem copyK_mono {t : TypeId} {d s : AV} (hk : ∀ v h, K v h → K' v h) (h : copyK P t hp d s K) : copyK P t hp d s K' := by
 unfold copyK at *
 split at h
 · split at h
   · obtain ⟨h1, h2, h3, h4, r, h5, h6⟩ := h
     exact ⟨h1, h2, h3, h4, r, h5, hk _ _ h6⟩
   · exact h.elim
 · exact h.elim
theorem copyK_strict {t : TypeId} {d s : AV} (h : copyK P t hp d s fun _ _ => False) : False := by
 unfold copyK at *
 split at h
 · split at h
   · obtain ⟨_, _, _, _, _, _, h6⟩ := h
     exact h6
   · exact h.elim
 · exact h.elim
theorem callK_mono (hC : CKok P CK) {c : Call} (hk : ∀ v h, K v h → K' v h) (h : callK P CK c id g hp K) : callK P CK c id g hp K' := by
 unfold callK at *
 split at h
 · obtain ⟨v, k1, k2, _⟩ := lenK_det h; exact k2 (fun v => K' v hp) (hk _ _ k1)
 · exact appendK_mono hk h
 · exact copyK_mono hk h
 · obtain ⟨v, k1, k2, _⟩ := minK_det h; exact k2 (fun v => K' v hp) (hk _ _ k1)
 · obtain ⟨v, k1, k2, _⟩ := minK_det h; exact k2 (fun v => K' v hp) (hk _ _ k1)
 · split at h
   · exact ⟨h.1, h.2.1, hC.mono _ _ _ _ _ _ hk h.2.2⟩
   · exact h.elim
 · exact h.elim
theorem callK_strict (hC : CKok P CK) {c : Call} (h : callK P CK c id g hp fun _ _ => False) : False := by
 unfold callK at *
 split at h
 · obtain ⟨v, k1, k2, _⟩ := lenK_det h; exact k1
 · exact appendK_strict h
 · exact copyK_strict h
 · obtain ⟨v, k1, k2, _⟩ := minK_det h; exact k1
 · obtain ⟨v, k1, k2, _⟩ := minK_det h; exact k1
 · split at h
   · exact hC.strict _ _ _ _ h.2.2
   · exact h.elim
 · exact h.elim
theorem opK_mono (hC : CKok P CK) (hk : ∀ v h, K v h → K' v h) (h : opK P CK o id g hp K) : opK P CK o id g hp K' := by
 by_cases hq : quietOp o = true
 · obtain ⟨v, h1, h2, _⟩ := opK_det hq h
   exact h2 id K' (hk _ _ h1)
 · unfold opK at h
   unfold quietOp at hq
   split at h <;> rename_i hop <;> first
    | (exact h.elim; done)
    | (simp only [hop] at hq; unfold opK; simp only [hop])
   all_goals first
    | (exact absurd trivial hq; done)
    | exact allocK_mono hk h
    | exact ⟨h.1, hk _ _ h.2⟩
    | exact storeK_mono hk h
    | exact makeSliceK_mono hk h
    | exact callK_mono hC hk h
    | exact hk _ _ h
    | exact lookupK_mono (fun v => hk v hp) h
    | exact mapUpdateK_mono hk h
    | (rename_i y _
       have hn : isNilSl y = true := by simpa using hq
       simp only [hn, if_true] at h ⊢
       exact nilEqK_mono (fun v => hk v hp) h)
theorem opK_strict (hC : CKok P CK) (h : opK P CK o id g hp fun _ _ => False) : False := by
 by_cases hq : quietOp o = true
 · obtain ⟨v, h1, h2, _⟩ := opK_det hq h
   exact h1
 · unfold opK at h
   unfold quietOp at hq
   split at h <;> rename_i hop <;> first
    | (exact h.elim; done)
    | (simp only [hop] at hq)
   all_goals first
    | (exact absurd trivial hq; done)
    | exact allocK_strict h
    | exact h.2
    | exact storeK_strict h
    | exact makeSliceK_strict h
    | exact callK_strict hC h
    | exact h
    | exact lookupK_strict h
    | exact mapUpdateK_strict h
    | (rename_i y _
       have hn : isNilSl y = true := by simpa using hq
       simp only [hn, if_true] at h
       exact nilEqK_strict h)
theorem opK_congr (he : ∀ x ∈ o.op.operands, g x = g' x) (h : opK P CK o id g hp K) : opK P CK o id g' hp K := by
 have mp : ∀ {ps : Array (Nat × Operand)}, (∀ x ∈ (ps.toList.map (·.2)).toArray, g x = g' x) → (ps.toList.map fun p => (p.1, g p.2)) = ps.toList.map fun p => (p.1, g' p.2) := fun h => by
  apply List.map_congr_left
  intro p hp
  rw [h p.2 (by simp only [List.mem_toArray, List.mem_map]; exact ⟨p, hp, rfl⟩)]
 unfold opK at h
 split at h <;> rename_i hop <;> first
  | exact h.elim
  | (rw [hop] at he; unfold opK; simp only [hop])
 · rwa [← he _ (by simp [Op.operands])]
 · rwa [← he _ (by simp [Op.operands])]
 · rename_i c a b
   rw [← he a (by simp [Op.operands]), ← he b (by simp [Op.operands]), ← he c (by simp [Op.operands])]
   exact h
 · exact h
 · rwa [← he _ (by simp [Op.operands])]
 · rwa [← mp he]
 · rwa [← mp he]
 · rwa [← he _ (by simp [Op.operands])]
 · rename_i t a x
   rwa [← he a (by simp [Op.operands]), ← he x (by simp [Op.operands])]
 · rwa [← he _ (by simp [Op.operands])]
 · rename_i b t x y _
   rwa [← he x (by simp [Op.operands]), ← he y (by simp [Op.operands])]
 · rwa [← he _ (by simp [Op.operands])]
 · rwa [← he _ (by simp [Op.operands])]
 · rwa [← he _ (by simp [Op.operands])]
 · rwa [← he _ (by simp [Op.operands])]
 · rename_i t x i
   rwa [← he x (by simp [Op.operands]), ← he i (by simp [Op.operands])]
 · rename_i t x i
   rwa [← he x (by simp [Op.operands]), ← he i (by simp [Op.operands])]
 · rename_i t x lo hi mx
   have ho : ∀ y : Option Operand, (∀ z ∈ y, z ∈ (Op.slice t x lo hi mx).operands) → y.map g = y.map g' := fun y hy => by
    cases y with
    | none => rfl
    | some z => simp only [Option.map_some]; rw [he z (hy z rfl)]
   rw [← he x (by simp [Op.operands]), ← ho lo (fun z hz => by cases lo <;> simp_all [Op.operands]), ← ho hi (fun z hz => by cases hi <;> simp_all [Op.operands]), ← ho mx (fun z hz => by cases mx <;> simp_all [Op.operands])]
   exact h
 · rwa [← he _ (by simp [Op.operands])]
 · rename_i t l c
   rwa [← he l (by simp [Op.operands]), ← he c (by simp [Op.operands])]
 · rename_i f a b
   have e1 : a.toList.map g = a.toList.map g' := List.map_congr_left fun x hx => he x (by simp only [Op.operands, Array.mem_append]; exact .inl (by simpa using hx))
   have e2 : b.toList.map g = b.toList.map g' := List.map_congr_left fun x hx => he x (by simp only [Op.operands, Array.mem_append]; exact .inr (by simpa using hx))
   rwa [← e1, ← e2]
 · rename_i c
   have ha : ∀ x ∈ c.args.toList, g x = g' x := fun x hx => he x (by simp only [Op.operands, Call.operands]; simp_all)
   unfold callK at h ⊢
   split at h
   · rename_i x t h1 h2 h3
     rw [h2] at ha
     rwa [← ha _ (by simp)]
   · rename_i s x t t2 h1 h2 h3
     rw [h2] at ha
     rwa [← ha s (by simp), ← ha x (by simp)]
   · rename_i d s t t2 h1 h2 h3
     rw [h2] at ha
     rwa [← ha d (by simp), ← ha s (by simp)]
   · rename_i x y h1 h2
     rw [h2] at ha
     rwa [← ha x (by simp), ← ha y (by simp)]
   · rename_i x y h1 h2
     rw [h2] at ha
     rwa [← ha x (by simp), ← ha y (by simp)]
   · rename_i f h1
     have e : c.args.toList.map g = c.args.toList.map g' := List.map_congr_left fun x hx => ha x hx
     rw [← he f (by simp [Op.operands, Call.operands, h1]), ← e]
     exact h
   · exact h.elim
 · exact h
 · rename_i t m k ok
   rwa [← he m (by simp [Op.operands]), ← he k (by simp [Op.operands])]
 · rename_i t m k x
   rwa [← he m (by simp [Op.operands]), ← he k (by simp [Op.operands]), ← he x (by simp [Op.operands])]
 · rename_i t m k x
   rwa [← he m (by simp [Op.operands]), ← he k (by simp [Op.operands]), ← he x (by simp [Op.operands])]
end
end Go.Ab
namespace Go.Ab
open Go.RowKit
abbrev FG := Nat → AV
def evF (g : FG) : Operand → AV
 | .tmp t => g t
 | .const v => constAV v
 | .func f => .fn (.func f) [] []
 | .global _ => .raw undef
def updF (g : FG) (d : Option Nat) (x : AV) : FG :=
 match d with
 | some t => fun u => if u = t then x else g u
 | none => g
def HP.keep (D : List Nat) (hp : HP) : HP := hp.filter fun p => D.contains p.1
theorem HP.get_keep (D : List Nat) (hp : HP) (o : Nat) (x : AO) (h : HP.get (HP.keep D hp) o = some x) : HP.get hp o = some x := by
 induction hp with
 | nil => simp [HP.keep, HP.get] at h
 | cons p hp ih =>
   by_cases hd : D.contains p.1 = true
   · have e : HP.keep D (p :: hp) = p :: HP.keep D hp := by simp only [HP.keep, List.filter_cons, hd, if_true]
     rw [e, HP.get_cons] at h
     rw [HP.get_cons]
     by_cases h1 : p.1 = o
     · simpa only [h1, if_true] using h
     · simp only [h1, if_false] at h ⊢; exact ih h
   · have e : HP.keep D (p :: hp) = HP.keep D hp := by simp only [HP.keep, List.filter_cons, hd, Bool.false_eq_true, if_false]
     rw [e] at h
     rw [HP.get_cons]
     by_cases h1 : p.1 = o
     · exfalso
       subst h1
       have h2 := HP.get_mem h
       simp only [HP.keep, List.mem_filter] at h2
       exact hd h2.2
     · simp only [h1, if_false]; exact ih h
def S.evD (s : S) : Operand → AV := evF s.fr.get
theorem ev_evF (s : S) : s.evD = evF s.fr.get := rfl
theorem get_putS (s : S) (d : Option Nat) (x : AV) : (s.put d x).fr.get = updF s.fr.get d x := by
 cases d with
 | none => rfl
 | some t =>
   funext u
   show FR.get ((t, x) :: s.fr) u = _
   rw [FR.get_cons]
   unfold updF
   by_cases h : t = u
   · simp [h]
   · simp [h, Ne.symm h]
theorem updF_comm {g : FG} {d e : Option Nat} {x y : AV} (h : ∀ t, d = some t → e ≠ some t) : updF (updF g d x) e y = updF (updF g e y) d x := by
 cases d with
 | none => rfl
 | some t =>
   cases e with
   | none => rfl
   | some u =>
     have hne : u ≠ t := fun he => h t rfl (by rw [he])
     funext k
     unfold updF
     by_cases h1 : k = u
     · subst h1; simp [hne]
     · simp [h1]
abbrev ZT := List (FuncId × List AV × AV)
def zcall (F : List FuncId) (o : Oper) : Bool := match o.op with
 | .call c => match c.callee with
   | .value (.func f) => F.contains f
   | _ => false
 | _ => false
def Fun (Z : ZT) : Prop := ∀ e1 ∈ Z, ∀ e2 ∈ Z, e1.1 = e2.1 → e1.2.1 = e2.2.1 → e1.2.2 = e2.2.2
def zK (CK : CallK) (Z : ZT) : CallK := fun f args hp _ K => ∃ r, (f, args, r) ∈ Z ∧ (∀ hp' id' K', K' r hp' → CK f args hp' id' K') ∧ K r hp
theorem zK_ok {P : Program} {CK : CallK} (hC : CKok P CK) (Z : ZT) : CKok P (zK CK Z) where
 sound f args hp id K h := by
  obtain ⟨r, _, h2, h3⟩ := h
  exact hC.sound _ _ _ _ _ (h2 _ _ _ h3)
 mono f args hp id K K' hk h := by
  obtain ⟨r, h1, h2, h3⟩ := h
  exact ⟨r, h1, h2, hk _ _ h3⟩
 strict f args hp id h := by
  obtain ⟨_, _, _, h⟩ := h
  exact h
theorem callK_value {P : Program} {CK : CallK} {c : Call} {f : Operand} (hc : c.callee = .value f) {id : Nat} {g : Operand → AV} {hp : HP} {L : AV → HP → Prop} : callK P CK c id g hp L ↔ ∃ fid first cap, g f = .fn (.func fid) first cap ∧ (first ++ c.args.toList.map g ++ cap).all AV.ok = true ∧ enters P fid ∧ CK fid (first ++ c.args.toList.map g ++ cap) hp id L := by
 unfold callK
 split
 · rename_i h1 _ _; rw [hc] at h1; cases h1
 · rename_i h1 _ _; rw [hc] at h1; cases h1
 · rename_i h1 _ _; rw [hc] at h1; cases h1
 · rename_i h1 _; rw [hc] at h1; cases h1
 · rename_i h1 _; rw [hc] at h1; cases h1
 · rename_i f' h1
   rw [hc] at h1; cases h1
   constructor
   · intro h
     split at h
     · rename_i fid first cap hf
       exact ⟨fid, first, cap, hf, h⟩
     · exact h.elim
   · rintro ⟨fid, first, cap, hf, h⟩
     rw [hf]
     exact h
 · first
    | (rename_i h1; exact (h1 f hc).elim)
    | (rename_i h1 _; exact (h1 f hc).elim)
    | (rename_i h1 _ _; exact (h1 f hc).elim)
    | (rename_i h1 _ _ _; exact (h1 f hc).elim)
    | (rename_i h1 _ _ _ _; exact (h1 f hc).elim)
    | (rename_i h1 _ _ _ _ _; exact (h1 f hc).elim)
    | (rename_i h1 _ _ _ _ _ _; exact (h1 f hc).elim)
    | (rename_i h1 _ _ _ _ _ _ _; exact (h1 f hc).elim)
    | (rename_i h _ _ _ _ _ _; exact (h f hc).elim)
    | (exfalso; rename_i g _ _ _ _ _; exact g _ _ hc)
theorem zop_det {P : Program} {CK : CallK} {F : List FuncId} {Z : ZT} (hZ : Fun Z) {o : Oper} (hz : zcall F o = true) {id : Nat} {g : Operand → AV} {K : AV → HP → Prop} (h : opK P (zK CK Z) o id g [] K) :
 ∃ v, K v [] ∧ (∀ id' K', K' v [] → opK P (zK CK Z) o id' g [] K') ∧ (∀ id' K', opK P (zK CK Z) o id' g [] K' → K' v []) ∧ (∀ id' hp' K', K' v hp' → opK P CK o id' g hp' K') := by
 unfold zcall at hz
 split at hz
 · rename_i c hop
   split at hz
   · rename_i f hc
     have key : ∀ (CK' : CallK) (id' : Nat) (hp' : HP) (K' : AV → HP → Prop), opK P CK' o id' g hp' K' ↔ callK P CK' c id' g hp' K' := fun CK' id' hp' K' => by
      unfold opK; rw [hop]
     rw [key, callK_value hc] at h
     obtain ⟨fid, first, cap, h1, h2, h3, r, h4, h5, h6⟩ := h
     refine ⟨r, h6, fun id' K' k => ?_, fun id' K' k => ?_, fun id' hp' K' k => ?_⟩
     · rw [key, callK_value hc]
       exact ⟨fid, first, cap, h1, h2, h3, r, h4, h5, k⟩
     · rw [key, callK_value hc] at k
       obtain ⟨fid', first', cap', k1, k2, k3, r', k4, k5, k6⟩ := k
       rw [h1] at k1
       cases k1
       have : r' = r := hZ _ k4 _ h4 rfl rfl
       subst this
       exact k6
     · rw [key, callK_value hc]
       exact ⟨fid, first, cap, h1, h2, h3, h5 _ _ _ k⟩
   · cases hz
 · cases hz
def quietZ (F : List FuncId) (o : Oper) : Bool := quietOp o || zcall F o
section
variable {P : Program} {CK : CallK} {ops : Array Oper} {hpD : HP} {D : List Nat} {F : List FuncId} {Z : ZT}
def sensOp (o : Oper) : Bool := quietOp o && (match o.op with | .load _ _ | .convert _ _ _ | .call _ | .slice _ _ _ _ _ => true | _ => false)
def lateD (ops : Array Oper) (o : Oper) : Bool :=
 (List.range ops.size).all fun j => match ops[j]? with
  | some oj => !sensOp oj || o.after.any (fun e => Region.binds .any e && (e.on == j || match ops[e.on]? with
    | some ok => ok.after.any fun e2 => Region.binds .any e2 && e2.on == j
    | none => false))
  | none => true
def opD (P : Program) (CK : CallK) (F : List FuncId) (Z : ZT) (ops : Array Oper) (hpD : HP) (D : List Nat) (o : Oper) (id : Nat) (g : Operand → AV) (hp : HP) (K : AV → HP → Prop) : Prop :=
 if quietOp o then opK P CK o id g hpD fun v _ => K v hp else if zcall F o then opK P (zK CK Z) o id g [] fun v _ => K v hp else opK P CK o id g hp fun v hp' => (lateD ops o = true ∨ HP.keep D hp' = hpD) ∧ K v hp'
theorem opD_mono (hC : CKok P CK) {o : Oper} {id : Nat} {g : Operand → AV} {hp : HP} {K K' : AV → HP → Prop} (hk : ∀ v h, K v h → K' v h) (h : opD P CK F Z ops hpD D o id g hp K) : opD P CK F Z ops hpD D o id g hp K' := by
 unfold opD at *
 split
 · rename_i hq; rw [if_pos hq] at h; exact opK_mono hC (fun v _ => hk v hp) h
 · rename_i hq
   rw [if_neg hq] at h
   split
   · rename_i hz; rw [if_pos hz] at h; exact opK_mono (zK_ok hC Z) (fun v _ => hk v hp) h
   · rename_i hz; rw [if_neg hz] at h; exact opK_mono hC (fun v _ k => ⟨k.1, hk v _ k.2⟩) h
theorem opD_strict (hC : CKok P CK) {o : Oper} {id : Nat} {g : Operand → AV} {hp : HP} (h : opD P CK F Z ops hpD D o id g hp fun _ _ => False) : False := by
 unfold opD at *
 split at h
 · exact opK_strict hC h
 · split at h
   · exact opK_strict (zK_ok hC Z) h
   · exact opK_strict hC (opK_mono hC (K' := fun _ _ => False) (fun v _ k => k.2) h)
theorem opD_congr {o : Oper} {id : Nat} {g g' : Operand → AV} {hp : HP} {K : AV → HP → Prop} (he : ∀ x ∈ o.op.operands, g x = g' x) (h : opD P CK F Z ops hpD D o id g hp K) : opD P CK F Z ops hpD D o id g' hp K := by
 unfold opD at *
 split
 · rename_i hq; rw [if_pos hq] at h; exact opK_congr he h
 · rename_i hq
   rw [if_neg hq] at h
   split
   · rename_i hz; rw [if_pos hz] at h; exact opK_congr he h
   · rename_i hz; rw [if_neg hz] at h; exact opK_congr he h
def opT (P : Program) (CK : CallK) (F : List FuncId) (Z : ZT) (ops : Array Oper) (hpD : HP) (D : List Nat) (o : Oper) (id : Nat) (K : FG → HP → Prop) (g : FG) (hp : HP) : Prop :=
 match o.guard with
 | none => opD P CK F Z ops hpD D o id (evF g) hp fun v hp' => K (updF g o.dst v) hp'
 | some (j, want) =>
   match guardSlot ops j with
   | none => False
   | some d => match g d with
     | .bool b => if b = want then opD P CK F Z ops hpD D o id (evF g) hp fun v hp' => K (updF g o.dst v) hp' else K (updF g o.dst (.tup [])) hp
     | .tup [] => K (updF g o.dst (.tup [])) hp
     | _ => False
theorem opT_cases {o : Oper} {id : Nat} {K : FG → HP → Prop} {g : FG} {hp : HP} (h : opT P CK F Z ops hpD D o id K g hp) :
 ((∀ id' K' g' hp', (∀ t ∈ o.looksAt ops, g' t = g t) → (opT P CK F Z ops hpD D o id' K' g' hp' ↔ opD P CK F Z ops hpD D o id' (evF g') hp' fun v hp'' => K' (updF g' o.dst v) hp''))) ∨
 (∀ id' K' g' hp', (∀ t ∈ o.looksAt ops, g' t = g t) → (opT P CK F Z ops hpD D o id' K' g' hp' ↔ K' (updF g' o.dst (.tup [])) hp')) := by
 unfold opT at *
 split at h
 · exact .inl fun _ _ _ _ _ => Iff.rfl
 · rename_i j want hg
   split at h
   · exact h.elim
   · rename_i d hd
     have hl : d ∈ o.looksAt ops := by
      unfold Oper.looksAt
      unfold guardSlot at hd
      simp [hg, hd]
     split at h
     · rename_i b hb
       by_cases hw : b = want
       · exact .inl fun id' K' g' hp' he => by rw [he d hl, hb]; simp [hw]
       · exact .inr fun id' K' g' hp' he => by rw [he d hl, hb]; simp [hw]
     · rename_i hb
       exact .inr fun id' K' g' hp' he => by rw [he d hl, hb]
     · exact h.elim
theorem evF_same {o : Oper} {g g' : FG} (he : ∀ t ∈ o.looksAt ops, g' t = g t) : ∀ x ∈ o.op.operands, evF g x = evF g' x := fun x hx => by
 cases x with
 | tmp t => exact (he t (List.mem_append_left _ (List.mem_filterMap.2 ⟨.tmp t, by simpa using hx, rfl⟩))).symm
 | _ => rfl
theorem opT_mono (hC : CKok P CK) {o : Oper} {id : Nat} {K K' : FG → HP → Prop} {g : FG} {hp : HP} (hk : ∀ g h, K g h → K' g h) (h : opT P CK F Z ops hpD D o id K g hp) : opT P CK F Z ops hpD D o id K' g hp := by
 rcases opT_cases h with hc | hc
 · rw [hc _ _ _ _ (fun _ _ => rfl)] at h ⊢
   exact opD_mono hC (fun _ _ k => hk _ _ k) h
 · rw [hc _ _ _ _ (fun _ _ => rfl)] at h ⊢
   exact hk _ _ h
theorem opT_strict (hC : CKok P CK) {o : Oper} {id : Nat} {g : FG} {hp : HP} (h : opT P CK F Z ops hpD D o id (fun _ _ => False) g hp) : False := by
 rcases opT_cases h with hc | hc
 · rw [hc _ _ _ _ (fun _ _ => rfl)] at h
   exact opD_strict hC h
 · rwa [hc _ _ _ _ (fun _ _ => rfl)] at h
theorem opT_congr (hC : CKok P CK) {o : Oper} {id : Nat} {K K' : FG → HP → Prop} {g g' : FG} {hp : HP} (he : ∀ t ∈ o.looksAt ops, g' t = g t) (hk : ∀ v h, K (updF g o.dst v) h → K' (updF g' o.dst v) h)
 (h : opT P CK F Z ops hpD D o id K g hp) : opT P CK F Z ops hpD D o id K' g' hp := by
 rcases opT_cases h with hc | hc
 · rw [hc _ _ _ _ (fun _ _ => rfl)] at h
   rw [hc _ _ _ _ he]
   exact opD_congr (evF_same he) (opD_mono hC (fun v h k => hk v h k) h)
 · rw [hc _ _ _ _ (fun _ _ => rfl)] at h
   rw [hc _ _ _ _ he]
   exact hk _ _ h
theorem opT_quiet (hZ : Fun Z) {o : Oper} {id : Nat} {K : FG → HP → Prop} {g : FG} {hp : HP} (hq : quietZ F o = true) (h : opT P CK F Z ops hpD D o id K g hp) :
 ∃ v, ∀ id' K' g' hp', (∀ t ∈ o.looksAt ops, g' t = g t) → (opT P CK F Z ops hpD D o id' K' g' hp' ↔ K' (updF g' o.dst v) hp') := by
 rcases opT_cases h with hc | hc
 · rw [hc _ _ _ _ (fun _ _ => rfl)] at h
   unfold opD at h
   by_cases hq1 : quietOp o = true
   · rw [if_pos hq1] at h
     obtain ⟨v, _, h2, h3⟩ := opK_det hq1 h
     refine ⟨v, fun id' K' g' hp' he => ?_⟩
     rw [hc _ _ _ _ he]
     unfold opD
     rw [if_pos hq1]
     have hs := evF_same he
     exact ⟨fun k => h3 id' (fun v _ => K' (updF g' o.dst v) hp') (opK_congr (fun x hx => (hs x hx).symm) k), fun k => opK_congr hs (h2 id' (fun v _ => K' (updF g' o.dst v) hp') k)⟩
   · have hz : zcall F o = true := by
      unfold quietZ at hq
      simpa [hq1] using hq
     rw [if_neg hq1, if_pos hz] at h
     obtain ⟨v, _, h2, h3, _⟩ := zop_det hZ hz h
     refine ⟨v, fun id' K' g' hp' he => ?_⟩
     rw [hc _ _ _ _ he]
     unfold opD
     rw [if_neg hq1, if_pos hz]
     have hs := evF_same he
     exact ⟨fun k => h3 id' (fun v _ => K' (updF g' o.dst v) hp') (opK_congr (fun x hx => (hs x hx).symm) k), fun k => opK_congr hs (h2 id' (fun v _ => K' (updF g' o.dst v) hp') k)⟩
 · exact ⟨.tup [], hc⟩
theorem updF_look {o : Oper} {g : FG} {d : Option Nat} {x : AV} (h : ∀ t, d = some t → t ∉ o.looksAt ops) : ∀ t ∈ o.looksAt ops, updF g d x t = g t := fun t ht => by
 cases d with
 | none => rfl
 | some u =>
   have : t ≠ u := fun e => h u rfl (by rw [← e]; exact ht)
   simp [updF, this]
theorem opT_comm (hC : CKok P CK) (hZ : Fun Z) {oi oj : Oper} {i j : Nat} {K : FG → HP → Prop} {g : FG} {hp : HP} (hap : oi.apart ops oj = true) (hq : quietZ F oi = true ∨ quietZ F oj = true)
 (h : opT P CK F Z ops hpD D oi i (opT P CK F Z ops hpD D oj j K) g hp) : opT P CK F Z ops hpD D oj j (opT P CK F Z ops hpD D oi i K) g hp := by
 obtain ⟨h1, h2, h3⟩ := Oper.apart_spec hap
 rcases hq with hq | hq
 · obtain ⟨v, hv⟩ := opT_quiet hZ hq h
   rw [hv _ _ _ _ (fun _ _ => rfl)] at h
   refine opT_congr hC (g := updF g oi.dst v) (fun t ht => (updF_look h1 t ht).symm) (fun u hp' k => ?_) h
   rw [hv _ _ _ _ (updF_look h3), updF_comm (fun t ht he => h2 t he ht)]
   exact k
 · have hex : ∃ v, ∀ id' K' g' hp', (∀ t ∈ oj.looksAt ops, g' t = g t) → (opT P CK F Z ops hpD D oj id' K' g' hp' ↔ K' (updF g' oj.dst v) hp') := by
    apply Classical.byContradiction
    intro hno
    refine opT_strict hC (opT_congr hC (K' := fun _ _ => False) (fun _ _ => rfl) (fun u hp' k => ?_) h)
    obtain ⟨v, hv⟩ := opT_quiet hZ hq k
    exact hno ⟨v, fun id' K' g' hp'' he => hv id' K' g' hp'' fun t ht => by rw [he t ht, updF_look h1 t ht]⟩
   obtain ⟨v, hv⟩ := hex
   rw [hv _ _ _ _ (fun _ _ => rfl)]
   refine opT_congr hC (updF_look h3) (fun u hp' k => ?_) h
   rw [hv _ _ _ _ (updF_look h1)] at k
   rw [updF_comm (fun t ht he => h2 t he ht)]
   exact k
def anyT (P : Program) (CK : CallK) (F : List FuncId) (Z : ZT) (ops : Array Oper) (hpD : HP) (D : List Nat) (nx : Nat) (Q : FG → HP → Prop) : Nat → Array Bool → FG → HP → Prop
 | 0, listed, g, hp => Region.ready .any ops listed = [] ∧ Q g hp
 | fuel + 1, listed, g, hp => (Region.ready .any ops listed = [] → Q g hp) ∧
  ∀ i ∈ Region.ready .any ops listed, ∀ o, ops[i]? = some o → opT P CK F Z ops hpD D o (nx + 16 * i) (anyT P CK F Z ops hpD D nx Q fuel (listed.setIfInBounds i true)) g hp
def depB (ops : Array Oper) : Nat → Nat → Nat → Bool
 | 0, _, _ => false
 | n + 1, i, j => match ops[j]? with
   | none => false
   | some oj => (oj.after.any fun e => Region.binds .any e && e.on == i) || oj.after.any fun e => Region.binds .any e && depB ops n i e.on
def Closed (ops : Array Oper) (listed : Array Bool) : Prop := ∀ (k : Nat) (ok : Oper), ops[k]? = some ok → listed.getD k false = true → ∀ e ∈ ok.after, Region.binds .any e = true → listed.getD e.on false = true
theorem dep_listed {listed : Array Bool} (hc : Closed ops listed) {i : Nat} (hi : listed.getD i false = false) : ∀ (n k : Nat), listed.getD k false = true → depB ops n i k = false
 | 0, _, _ => rfl
 | n + 1, k, hk => by
   unfold depB
   cases ho : ops[k]? with
   | none => rfl
   | some ok =>
     simp only
     rw [Bool.eq_false_iff]
     intro h
     rw [Bool.or_eq_true, Array.any_eq_true, Array.any_eq_true] at h
     rcases h with ⟨x, hx, hb⟩ | ⟨x, hx, hb⟩
     · simp only [Bool.and_eq_true, beq_iff_eq] at hb
       have hl := hc k ok ho hk _ (Array.getElem_mem hx) hb.1
       rw [hb.2, hi] at hl; cases hl
     · simp only [Bool.and_eq_true] at hb
       have hl := hc k ok ho hk _ (Array.getElem_mem hx) hb.1
       rw [dep_listed hc hi n _ hl] at hb; cases hb.2
theorem dep_ready {listed : Array Bool} (hc : Closed ops listed) {i j n : Nat} (hi : listed.getD i false = false) (hj : j ∈ Region.ready .any ops listed) : depB ops n i j = false := by
 obtain ⟨_, oj, hoj, hall⟩ := mem_ready.1 hj
 cases n with
 | zero => rfl
 | succ n =>
   unfold depB
   simp only [hoj]
   rw [Bool.eq_false_iff]
   intro h
   rw [Bool.or_eq_true, Array.any_eq_true, Array.any_eq_true] at h
   rcases h with ⟨x, hx, hb⟩ | ⟨x, hx, hb⟩
   · simp only [Bool.and_eq_true, beq_iff_eq] at hb
     have hl := hall _ (Array.getElem_mem hx) hb.1
     rw [hb.2, hi] at hl; cases hl
   · simp only [Bool.and_eq_true] at hb
     have hl := hall _ (Array.getElem_mem hx) hb.1
     rw [dep_listed hc hi n _ hl] at hb; cases hb.2
theorem closed_set {listed : Array Bool} (hc : Closed ops listed) {i : Nat} (hi : i ∈ Region.ready .any ops listed) : Closed ops (listed.setIfInBounds i true) := by
 obtain ⟨_, oi, hoi, hall⟩ := mem_ready.1 hi
 intro k ok hk hl e he hb
 by_cases hki : i = k
 · subst hki
   rw [hoi] at hk; cases hk
   exact getD_set_true (hall e he hb)
 · rw [getD_set_ne false hki] at hl
   exact getD_set_true (hc k ok hk hl e he hb)
theorem unlisted_of_ready {listed : Array Bool} {i : Nat} (hi : i ∈ Region.ready .any ops listed) : listed.getD i false = false := by
 have h0 := (mem_ready.1 hi).1
 rcases Nat.lt_or_ge i listed.size with h' | h'
 · simp [h'] at h0 ⊢; exact h0
 · simp [Array.getElem?_eq_none h']
theorem anyT_first (hC : CKok P CK) (hZ : Fun Z) {nx m : Nat} {Q : FG → HP → Prop} {i : Nat} {oi : Oper} (hi : ops[i]? = some oi) : ∀ (fuel : Nat) (listed : Array Bool) (g : FG) (hp : HP), Closed ops listed →
 (∀ j oj, ops[j]? = some oj → j ≠ i → listed.getD j true = false → depB ops m i j = false → oi.apart ops oj = true ∧ (quietZ F oi = true ∨ quietZ F oj = true)) →
 i ∈ Region.ready .any ops listed → opT P CK F Z ops hpD D oi (nx + 16 * i) (anyT P CK F Z ops hpD D nx Q fuel (listed.setIfInBounds i true)) g hp → anyT P CK F Z ops hpD D nx Q (fuel + 1) listed g hp := by
 intro fuel
 induction fuel with
 | zero =>
   intro listed g hp _ _ hr H
   refine ⟨fun h => (by rw [h] at hr; cases hr), fun j hj oj hoj => ?_⟩
   by_cases hji : j = i
   · subst hji
     rw [hi] at hoj; cases hoj
     exact H
   · refine (opT_strict hC (opT_mono hC (K' := fun _ _ => False) (fun g h k => ?_) H)).elim
     have := ready_mono hj hji
     rw [k.1] at this
     cases this
 | succ fuel ih =>
   intro listed g hp hcl hfree hr H
   refine ⟨fun h => (by rw [h] at hr; cases hr), fun j hj oj hoj => ?_⟩
   by_cases hji : j = i
   · subst hji
     rw [hi] at hoj; cases hoj
     exact H
   · obtain ⟨hjun, oj', hoj', hall⟩ := mem_ready.1 hj
     rw [hoj] at hoj'; cases hoj'
     have hnot : depB ops m i j = false := dep_ready hcl (unlisted_of_ready hr) hj
     obtain ⟨hap, hq⟩ := hfree j oj hoj hji hjun hnot
     have h1 := opT_mono hC (K' := opT P CK F Z ops hpD D oj (nx + 16 * j) (anyT P CK F Z ops hpD D nx Q fuel ((listed.setIfInBounds i true).setIfInBounds j true))) (fun g h k => k.2 j (ready_mono hj hji) oj hoj) H
     refine opT_mono hC (fun g' h' k => ?_) (opT_comm hC hZ hap hq h1)
     refine ih (listed.setIfInBounds j true) g' h' (closed_set hcl hj) ?_ (ready_mono hr (Ne.symm hji)) ?_
     · intro k ok hk hki hun hno
       refine hfree k ok hk hki ?_ hno
       by_cases hjk : j = k
       · subst hjk; exact hjun
       · rw [getD_set_ne true hjk] at hun; exact hun
     · rw [Array.setIfInBounds_comm _ _ hji]
       exact k
def freeD (F : List FuncId) (ops : Array Oper) (listed : Array Bool) (i : Nat) : Bool :=
 match ops[i]? with
 | none => false
 | some oi => (List.range ops.size).all fun j => match ops[j]? with
   | none => true
   | some oj => j == i || listed.getD j true || (oi.apart ops oj && (quietZ F oi || quietZ F oj)) || depB ops 16 i j
def lexD (F : List FuncId) (ops : Array Oper) : Nat → Nat → Array Bool → Bool
 | 0, _, listed => (Region.ready .any ops listed).isEmpty
 | n + 1, k, listed => (Region.ready .any ops listed).contains k && freeD F ops listed k && lexD F ops n (k + 1) (listed.setIfInBounds k true)
def lexZ (F : List FuncId) (ops : Array Oper) : Bool := lexD F ops ops.size 0 (Array.replicate ops.size false)
def lexOK (ops : Array Oper) : Bool := lexZ [] ops
theorem freeD_spec {listed : Array Bool} {i : Nat} {oi : Oper} (hi : ops[i]? = some oi) (h : freeD F ops listed i = true) :
 ∀ j oj, ops[j]? = some oj → j ≠ i → listed.getD j true = false → depB ops 16 i j = false → oi.apart ops oj = true ∧ (quietZ F oi = true ∨ quietZ F oj = true) := by
 intro j oj hj hne hun hno
 unfold freeD at h
 simp only [hi] at h
 have hlt : j < ops.size := (Array.getElem?_eq_some_iff.1 hj).1
 have := List.all_eq_true.1 h j (List.mem_range.2 hlt)
 simp only [hj, Bool.or_eq_true, beq_iff_eq, Bool.and_eq_true, hun, hno, Bool.false_eq_true, or_false] at this
 rcases this with h1 | h1
 · exact absurd h1 hne
 · exact h1
def chainT (P : Program) (CK : CallK) (F : List FuncId) (Z : ZT) (ops : Array Oper) (hpD : HP) (D : List Nat) (nx : Nat) (Q : FG → HP → Prop) : List Oper → Nat → FG → HP → Prop
 | [], _, g, hp => Q g hp
 | o :: rest, k, g, hp => opT P CK F Z ops hpD D o (nx + 16 * k) (chainT P CK F Z ops hpD D nx Q rest (k + 1)) g hp
theorem anyT_lex (hC : CKok P CK) (hZ : Fun Z) {nx : Nat} {Q : FG → HP → Prop} : ∀ (l : List Oper) (k : Nat) (listed : Array Bool) (g : FG) (hp : HP), Closed ops listed → (∀ j, l[j]? = ops[k + j]?) → lexD F ops l.length k listed = true →
 chainT P CK F Z ops hpD D nx Q l k g hp → anyT P CK F Z ops hpD D nx Q l.length listed g hp
 | [], _, listed, g, hp, _, _, hB, h => ⟨by simpa [lexD] using hB, h⟩
 | o :: l, k, listed, g, hp, hcl, hl, hB, h => by
   have h0 : ops[k]? = some o := by simpa using (hl 0).symm
   simp only [List.length_cons, lexD, Bool.and_eq_true] at hB
   obtain ⟨⟨hr, hf⟩, hB'⟩ := hB
   have hr' : k ∈ Region.ready .any ops listed := by simpa using hr
   refine anyT_first hC hZ h0 l.length listed g hp hcl (freeD_spec h0 hf) hr' ?_
   exact opT_mono hC (fun g' h' k' => anyT_lex hC hZ l (k + 1) _ g' h' (closed_set hcl hr') (fun j => by have := hl (j + 1); simpa [Nat.add_assoc, Nat.add_comm 1 j] using this) hB' k') h
end
end Go.Ab
namespace Go.Ab
open Go.RowKit
section
variable {P : Program} {CK : CallK} {ops : Array Oper} {hpD : HP} {D : List Nat} {E : Env} {ro : Option Nat} {F : List FuncId} {Z : ZT}
theorem opK_ext {o : Oper} {id : Nat} {g : Operand → AV} {hp : HP} {K : AV → HP → Prop} (hq : quietOp o = true) (hs : ∀ o x, HP.get hpD o = some x → HP.get hp o = some x) (h : opK P CK o id g hpD fun v _ => K v hp) : opK P CK o id g hp K := by
 have he : ∀ x xs, elemsOf hpD x = some xs → elemsOf hp x = some xs := fun x xs hx => by
  unfold elemsOf at hx ⊢
  split at hx
  · exact hx
  · rename_i o sz n
    cases hg : HP.get hpD o with
    | none => rw [hg] at hx; simp at hx
    | some y => rw [hs _ _ hg]; rw [hg] at hx; exact hx
  · cases hx
 have hload : ∀ t x, loadK P t hpD x (fun v _ => K v hp) → loadK P t hp x K := fun t x h => by
  unfold loadK at h ⊢
  split at h
  · exact h
  · rename_i o p off
    cases hg : HP.get hpD o with
    | none => rw [hg] at h; exact h.elim
    | some y => rw [hs _ _ hg]; rw [hg] at h; exact h
  · exact h.elim
 have hlen : ∀ t x, lenK P t hpD x (fun v => K v hp) → lenK P t hp x (fun v => K v hp) := fun t x h => by
  unfold lenK at h ⊢
  split at h <;> first
   | exact h
   | skip
  · rename_i o _
    cases hg : HP.get hpD o with
    | none => rw [hg] at h; exact h.elim
    | some y => rw [hs _ _ hg]; rw [hg] at h; exact h
 have hconv : ∀ s d x, convK P s d hpD x (fun v => K v hp) → convK P s d hp x (fun v => K v hp) := fun s d x h => by
  unfold convK at h ⊢
  split at h <;> first
   | exact h
   | skip
  · refine ⟨h.1, ?_⟩
    have h := h.2
    split at h
    · rename_i xs hx
      rw [he _ _ hx]
      exact h
    · exact h.elim
 have hslice : ∀ t x lo hi mx, sliceHK P t hpD x lo hi mx (fun v => K v hp) → sliceHK P t hp x lo hi mx (fun v => K v hp) := fun t x lo hi mx h => by
  unfold sliceHK at h ⊢
  split at h
  · rename_i o
    cases hg : HP.get hpD o with
    | none => rw [hg] at h; revert h; cases tArr P t <;> exact fun h => h.elim
    | some y => rw [hs _ _ hg]; rw [hg] at h; exact h
  · exact h
 unfold opK at h
 unfold quietOp at hq
 split at h <;> rename_i hop <;> first
  | (exact h.elim; done)
  | (simp only [hop] at hq; unfold opK; simp only [hop])
 all_goals first
  | (cases hq; done)
  | exact hload _ _ h
  | exact hconv _ _ _ h
  | exact hslice _ _ _ _ _ h
  | exact h
  | skip
 · unfold callK at h ⊢
   split at h
   · exact hlen _ _ h
   · rename_i h1 _ _; rw [h1] at hq; cases hq
   · rename_i h1 _ _; rw [h1] at hq; cases hq
   · exact h
   · exact h
   · rename_i h1; rw [h1] at hq; cases hq
   · exact h.elim
theorem getD_set_self {l : Array Bool} {i : Nat} {d : Bool} (h : i < l.size) : (l.setIfInBounds i true).getD i d = true := by simp [h]
theorem opK_blind {o : Oper} {id : Nat} {g : Operand → AV} {hp : HP} {K : AV → HP → Prop} (hq : quietOp o = true) (hs : sensOp o = false) (h : opK P CK o id g hpD fun v _ => K v hp) : opK P CK o id g hp K := by
 unfold sensOp at hs
 rw [hq] at hs
 unfold opK at h
 unfold quietOp at hq
 split at h <;> rename_i hop <;> first
  | (exact h.elim; done)
  | (simp only [hop] at hq hs; unfold opK; simp only [hop])
 all_goals first
  | (cases hq; done)
  | (cases hs; done)
  | exact h
theorem lateD_spec {o oj : Oper} {j : Nat} (h : lateD ops o = true) (hj : ops[j]? = some oj) (hs : sensOp oj = true) : ∃ e ∈ o.after, Region.binds .any e = true ∧ (e.on = j ∨ ∃ ok, ops[e.on]? = some ok ∧ ∃ e2 ∈ ok.after, Region.binds .any e2 = true ∧ e2.on = j) := by
 unfold lateD at h
 have hlt : j < ops.size := (Array.getElem?_eq_some_iff.1 hj).1
 have := List.all_eq_true.1 h j (List.mem_range.2 hlt)
 simp only [hj, hs, Bool.not_true, Bool.false_or] at this
 rw [Array.any_eq_true] at this
 obtain ⟨k, hk, hb⟩ := this
 simp only [Bool.and_eq_true, Bool.or_eq_true, beq_iff_eq] at hb
 refine ⟨_, Array.getElem_mem hk, hb.1, ?_⟩
 rcases hb.2 with h1 | h1
 · exact .inl h1
 · right
   split at h1
   · rename_i ok hok
     rw [Array.any_eq_true] at h1
     obtain ⟨k2, hk2, hb2⟩ := h1
     simp only [Bool.and_eq_true, beq_iff_eq] at hb2
     exact ⟨ok, hok, _, Array.getElem_mem hk2, hb2.1, hb2.2⟩
   · cases h1
def ClosedD (ops : Array Oper) (listed : Array Bool) : Prop :=
 ∀ (k : Nat) (ok : Oper), ops[k]? = some ok → listed.getD k false = true → ∀ e ∈ ok.after, Region.binds .any e = true → listed.getD e.on true = true
def StillD (ops : Array Oper) (hpD : HP) (D : List Nat) (listed : Array Bool) (hp : HP) : Prop :=
 (∃ (j : Nat) (oj : Oper), ops[j]? = some oj ∧ sensOp oj = true ∧ listed.getD j true = false) → HP.keep D hp = hpD
def FrOKF (C : Cx) (g : FG) (a : Act) (N : Nat) : Prop := a.tmps.size = N ∧ ∀ t, RepT C (g t) (a.tmps.getD t undef)
theorem FrOKF.put {C : Cx} {g : FG} {a : Act} {N : Nat} (hf : FrOKF C g a N) {d : Option Nat} {x : AV} {v : Value} (hx : RepT C x v) (hd : ∀ t, d = some t → t < N) : FrOKF C (updF g d x) (a.put d v) N := by
 cases d with
 | none => exact hf
 | some d =>
   refine ⟨by simp [Act.put, hf.1], fun t => ?_⟩
   by_cases h : t = d
   · subst h
     have e : (a.put (some t) v).tmps.getD t undef = v := by simp [Act.put, Array.getD, hf.1, hd t rfl]
     simpa [updF, e] using hx
   · have e : (a.put (some d) v).tmps.getD t undef = a.tmps.getD t undef := by simp [Act.put, Array.getElem?_setIfInBounds_ne (Ne.symm h)]
     rw [e]
     simpa [updF, h] using hf.2 t
theorem FrOKF.mono {C C' : Cx} (h : C.Le C') {g : FG} {a : Act} {N : Nat} (hf : FrOKF C g a N) : FrOKF C' g a N := ⟨hf.1, fun t => (hf.2 t).mono h⟩
theorem evF_rep {C : Cx} {g : FG} {a : Act} {N : Nat} (h : FrOKF C g a N) (x : Operand) : RepT C (evF g x) (a.eval x) := by
 cases x with
 | tmp t => exact h.2 t
 | const v => exact const_rep v
 | global g => exact .inl ⟨undef, rfl, .inl rfl⟩
 | func f => exact .inr ⟨by simp only [Rep, Value.cells, evF, Act.eval]; exact ⟨[], [], rfl, by simp [RepL], by simp [RepL], rfl, rfl, by simp, by simp⟩, rfl, rfl⟩
def AbsF (ops : Array Oper) (E : Env) (hpD : HP) (D : List Nat) (nx : Nat) (df : List Nat) (listed : Array Bool) (g : FG) (hp : HP) (a : Act) (w : World) : Prop :=
 ∃ ι dom im, (∀ o, dom o → o < nx ∨ ∃ j, listed.getD j false = true ∧ nx + 16 * j ≤ o ∧ o < nx + 16 * j + 16) ∧ HInv E hp ι dom im w ∧ FrOKF ⟨ι, dom, im, w⟩ g a E.N ∧
   ((∀ o ∈ df, dom o) ∧ a.defers = df.map fun o => ({ target := .collected (ι o), args := #[] } : Deferred)) ∧ StillD ops hpD D listed hp ∧ ClosedD ops listed
theorem anyT_sound (hC : CKok P CK) (hZ : Fun Z) (hdst : dstOK E.N ops = true) {nx : Nat} {df : List Nat} {Q : FG → HP → Prop} {Q' : Exit → Act → World → Prop}
 (hQ : ∀ listed g hp a w, listed.size = ops.size → Q g hp → AbsF ops E hpD D nx df listed g hp a w → Q' .normal a w) : ∀ (fuel : Nat) (listed : Array Bool) (g : FG) (hp : HP) (a : Act) (w : World), listed.size = ops.size →
 anyT P CK F Z ops hpD D nx Q fuel listed g hp → AbsF ops E hpD D nx df listed g hp a w → wpAnyIn (fence ro) 0 P .any ops Q' fuel listed a w := by
 have hd : ∀ (i : Nat) (o : Oper), ops[i]? = some o → ∀ t, o.dst = some t → t < E.N := by
  intro i o ho t ht
  have ho' := Array.mem_of_getElem? ho
  unfold dstOK at hdst
  have := List.all_eq_true.1 hdst o (by simpa using ho')
  rw [ht] at this
  simpa using this
 intro fuel
 induction fuel with
 | zero =>
   intro listed g hp a w hsz h ha
   exact ⟨h.1, hQ _ _ _ _ _ hsz h.2 ha⟩
 | succ fuel ih =>
   intro listed g hp a w hsz h ha
   refine ⟨fun h0 => hQ _ _ _ _ _ hsz (h.1 h0) ha, fun i hi => ?_⟩
   obtain ⟨hun, o, ho, hall⟩ := mem_ready.1 hi
   have hop := h.2 i hi o ho
   obtain ⟨ι, dom, im, hdom, hinv, hf, hdf, hkeep, hcl⟩ := ha
   have hil : i < listed.size := by
    rcases Nat.lt_or_ge i listed.size with h' | h'
    · exact h'
    · simp [Array.getElem?_eq_none h'] at hun
   have hunf : listed.getD i false = false := by simp [hil] at hun ⊢; exact hun
   have hid : ∀ k, k < 16 → ¬ dom (nx + 16 * i + k) := fun k hk h => by
    rcases hdom _ h with h | ⟨j, h1, h2, h3⟩
    · omega
    · have : j = i := by omega
      subst this
      rw [hunf] at h1; cases h1
   have hset : ∀ j, listed.getD j false = true → (listed.setIfInBounds i true).getD j false = true := fun j => getD_set_true
   have still : ∀ hp', StillD ops hpD D listed hp' → StillD ops hpD D (listed.setIfInBounds i true) hp' := fun hp' hs ⟨j, oj, h1, h2, h3⟩ => hs ⟨j, oj, h1, h2, by
    by_cases hij : i = j
    · subst hij
      rw [getD_set_self hil] at h3; cases h3
    · rwa [getD_set_ne true hij] at h3⟩
   have hseti : (listed.setIfInBounds i true).getD i false = true := by simp [hil]
   have hsetT : ∀ j, listed.getD j true = true → (listed.setIfInBounds i true).getD j true = true := fun j h => by
    by_cases hij : i = j
    · subst hij; exact getD_set_self hil
    · rw [getD_set_ne true hij]; exact h
   have hafter : ∀ e ∈ o.after, Region.binds .any e = true → listed.getD e.on true = true := fun e he hb => by
    have h4 := hall e he hb
    rcases Nat.lt_or_ge e.on listed.size with h' | h'
    · simpa [h'] using h4
    · simp [Array.getElem?_eq_none h'] at h4
   have hcl2 : ClosedD ops (listed.setIfInBounds i true) := fun k ok hk hlk e he hb => by
    by_cases hik : i = k
    · subst hik
      have : ok = o := Option.some.inj (hk.symm.trans ho)
      subst this
      exact hsetT _ (hafter e he hb)
    · refine hsetT _ (hcl k ok hk ?_ e he hb)
      rwa [getD_set_ne false hik] at hlk
   -- not wanted
   have skip : ∀ v, RepT ⟨ι, dom, im, w⟩ (.tup []) v → anyT P CK F Z ops hpD D nx Q fuel (listed.setIfInBounds i true) (updF g o.dst (.tup [])) hp → wpAnyIn (fence ro) 0 P .any ops Q' fuel (listed.setIfInBounds i true) (a.put o.dst v) w := fun v hv k =>
    ih _ _ _ _ _ (by simp [hsz]) k ⟨ι, dom, im, fun o h => (hdom o h).imp_right fun ⟨j, h1, h2⟩ => ⟨j, hset j h1, h2⟩, hinv, hf.put hv (hd i o ho), by rw [put_defers]; exact hdf, still hp hkeep, hcl2⟩
   have done : opD P CK F Z ops hpD D o (nx + 16 * i) (evF g) hp (fun v hp' => anyT P CK F Z ops hpD D nx Q fuel (listed.setIfInBounds i true) (updF g o.dst v) hp') →
    o.wpIn (fence ro) 0 P a w (wpAnyIn (fence ro) 0 P .any ops Q' fuel (listed.setIfInBounds i true)) Q' := fun hk => by
    have hk' : opK P CK o (nx + 16 * i) (evF g) hp (fun v hp' => StillD ops hpD D (listed.setIfInBounds i true) hp' ∧ anyT P CK F Z ops hpD D nx Q fuel (listed.setIfInBounds i true) (updF g o.dst v) hp') := by
     unfold opD at hk
     split at hk
     · rename_i hq
       have hk2 := opK_mono hC (K' := fun v _ => StillD ops hpD D (listed.setIfInBounds i true) hp ∧ anyT P CK F Z ops hpD D nx Q fuel (listed.setIfInBounds i true) (updF g o.dst v) hp) (fun v _ k => ⟨still hp hkeep, k⟩) hk
       cases hs : sensOp o with
       | true =>
         have hke : HP.keep D hp = hpD := hkeep ⟨i, o, ho, hs, by simp [hil] at hun ⊢; exact hun⟩
         exact opK_ext hq (fun o x hx => HP.get_keep D hp o x (by rw [hke]; exact hx)) hk2
       | false => exact opK_blind hq hs hk2
     split at hk
     · rename_i hq hz
       obtain ⟨v, k1, _, _, k4⟩ := zop_det hZ hz hk
       exact k4 _ hp _ ⟨still hp hkeep, k1⟩
     · refine opK_mono hC (fun v hp' k => ⟨?_, k.2⟩) hk
       rcases k.1 with hl | hke
       · rintro ⟨j, oj, h1, h2, h3⟩
         obtain ⟨e, he, hb, hj⟩ := lateD_spec hl h1 h2
         have hlj : listed.getD j true = true := by
          rcases hj with rfl | ⟨ok, hok, e2, he2, hb2, rfl⟩
          · exact hafter e he hb
          · have hk1 := hafter e he hb
            have hk2 : listed.getD e.on false = true := by
             have : e.on < listed.size := by rw [hsz]; exact (Array.getElem?_eq_some_iff.1 hok).1
             simpa [this] using hk1
            exact hcl e.on ok hok hk2 e2 he2 hb2
         rw [hsetT _ hlj] at h3
         cases h3
       · exact fun _ => hke
    refine op_wp hC.sound hinv hid (fun x => evF_rep hf x) hk' ?_
    intro v hp' ι' dom' im' w' val h1 h2 h3 h4 h5
    refine ih _ _ _ _ _ (by simp [hsz]) h1.2 ⟨ι', dom', im', ?_, h2, (hf.mono h3).put h4 (hd i o ho), ?_, h1.1, hcl2⟩
    · intro o' ho'
      rcases h5 o' ho' with h | h
      · exact (hdom o' h).imp_right fun ⟨j, k1, k2⟩ => ⟨j, hset j k1, k2⟩
      · exact .inr ⟨i, hseti, h⟩
    · rw [put_defers]
      refine ⟨fun x hx => h3.dom x (hdf.1 x hx), ?_⟩
      rw [hdf.2]
      apply List.map_congr_left
      intro x hx
      rw [show ι' x = ι x from h3.ι x (hdf.1 x hx)]
   unfold Go.wpOpIn
   simp only [ho]
   unfold opT at hop
   split at hop
   · rename_i hgd
     have hw : Region.wanted o (yielded ops a.tmps) = true := by simp [Region.wanted, hgd]
     rw [if_pos hw]
     exact done hop
   · rename_i j want hgd
     split at hop
     · exact hop.elim
     · rename_i d hgs
       have hy1 : ∀ b, a.tmps[d]? = some (.bool b) → yielded ops a.tmps j = some b := fun b h => by
        unfold guardSlot at hgs
        simp [yielded, hgs, h]
       have hy2 : a.tmps[d]? = none ∨ a.tmps[d]? = some (.tuple #[]) → yielded ops a.tmps j = none := fun h => by
        unfold guardSlot at hgs
        rcases h with h | h <;> simp [yielded, hgs, h]
       split at hop
       · rename_i b hgb
         have hb := hf.2 d
         rw [hgb] at hb
         have hbv := hb.bool_of
         have hdN : a.tmps[d]? = some (.bool b) := by
          simp only [Array.getD_eq_getD_getElem?] at hbv
          cases hh : a.tmps[d]? with
          | none => rw [hh] at hbv; simp [undef] at hbv
          | some v => rw [hh] at hbv; simp at hbv; rw [hbv]
         split at hop
         · rename_i hbw
           have hw : Region.wanted o (yielded ops a.tmps) = true := by simp [Region.wanted, hgd, hy1 _ hdN, hbw]
           rw [if_pos hw]
           exact done hop
         · rename_i hbw
           have hw : Region.wanted o (yielded ops a.tmps) = false := by simp [Region.wanted, hgd, hy1 _ hdN, hbw]
           rw [if_neg (by simp [hw])]
           exact ⟨fun _ _ => trivial, skip _ (.inr ⟨[], rfl, rfl⟩) hop⟩
       · rename_i hgb
         have hb := hf.2 d
         rw [hgb] at hb
         obtain ⟨vs, hv0, hv1⟩ := hb.isS (by simp)
         simp only [RepVs] at hv1
         subst hv1
         have hdN : yielded ops a.tmps j = none := by
          apply hy2
          simp only [Array.getD_eq_getD_getElem?] at hv0
          cases hh : a.tmps[d]? with
          | none => exact .inl rfl
          | some v => rw [hh] at hv0; simp at hv0; subst hv0; exact .inr rfl
         have hw : Region.wanted o (yielded ops a.tmps) = false := by simp [Region.wanted, hgd, hdN]
         rw [if_neg (by simp [hw])]
         exact ⟨fun _ _ => trivial, skip _ (.inr ⟨[], rfl, rfl⟩) hop⟩
       · exact hop.elim
def vcOpsD (P : Program) (CK : CallK) (F : List FuncId) (Z : ZT) (ops : Array Oper) (hpD : HP) (D : List Nat) (nx : Nat) : List Oper → Nat → S → (S → Prop) → Prop
 | [], k, s, K => K { s with nx := nx + 16 * k }
 | o :: rest, k, s, K =>
   match o.guard with
   | none => opD P CK F Z ops hpD D o (nx + 16 * k) s.evD s.hp fun v hp' => vcOpsD P CK F Z ops hpD D nx rest (k + 1) ({ s with hp := hp' }.put o.dst v) K
   | some (j, want) =>
     match guardSlot ops j with
     | some d => match s.fr.get d with
       | .bool b =>
         (b = want → opD P CK F Z ops hpD D o (nx + 16 * k) (s.put (some d) (.bool want)).evD s.hp fun v hp' => vcOpsD P CK F Z ops hpD D nx rest (k + 1) (({ s with hp := hp' }.put (some d) (.bool want)).put o.dst v) K) ∧
         (b = !want → vcOpsD P CK F Z ops hpD D nx rest (k + 1) ((s.put (some d) (.bool !want)).put o.dst (.tup [])) K)
       | .tup [] => vcOpsD P CK F Z ops hpD D nx rest (k + 1) (s.put o.dst (.tup [])) K
       | _ => False
     | none => False
theorem updF_self (g : FG) (d : Nat) (x : AV) (h : g d = x) : updF g (some d) x = g := by
 funext t
 unfold updF
 by_cases ht : t = d
 · subst ht; simp [h]
 · simp [ht]
theorem S.put_df (s : S) (d : Option Nat) (x : AV) : (s.put d x).df = s.df := by cases d <;> rfl
theorem S.put_hp (s : S) (d : Option Nat) (x : AV) : (s.put d x).hp = s.hp := by cases d <;> rfl
theorem vcOpsD_chain (hC : CKok P CK) {nx m : Nat} {df : List Nat} {K : S → Prop} : ∀ (l : List Oper) (k : Nat) (s : S), k + l.length = m → s.df = df → vcOpsD P CK F Z ops hpD D nx l k s K →
 chainT P CK F Z ops hpD D nx (fun g hp => ∃ s', s'.fr.get = g ∧ s'.hp = hp ∧ s'.nx = nx + 16 * m ∧ s'.df = df ∧ K s') l k s.fr.get s.hp
 | [], k, s, hm, hdf, h => ⟨{ s with nx := nx + 16 * k }, rfl, rfl, by simp at hm; subst hm; rfl, hdf, h⟩
 | o :: l, k, s, hm, hdf, h => by
   have hm' : k + 1 + l.length = m := by simp at hm; omega
   simp only [vcOpsD] at h
   simp only [chainT]
   unfold opT
   cases hg : o.guard with
   | none =>
     simp only [hg] at h
     simp only
     rw [ev_evF] at h
     refine opD_mono hC (fun v hp' k' => ?_) h
     have := vcOpsD_chain hC (nx := nx) (m := m) (df := df) l (k + 1) _ hm' (by rw [S.put_df]; exact hdf) k'
     rwa [get_putS, S.put_hp] at this
   | some p =>
     obtain ⟨j, want⟩ := p
     simp only [hg] at h
     simp only
     cases hs : guardSlot ops j with
     | none => rw [hs] at h; exact h.elim
     | some d =>
       rw [hs] at h
       simp only at h ⊢
       split at h
       · rename_i b hb
         try rw [hb]
         try simp only
         by_cases hw : b = want
         · rw [if_pos hw]
           have h := h.1 hw
           have e1 : (s.put (some d) (.bool want)).evD = evF s.fr.get := by rw [ev_evF, get_putS, updF_self _ _ _ (by rw [hb, hw])]
           rw [e1] at h
           refine opD_mono hC (fun v hp' k' => ?_) h
           have := vcOpsD_chain hC (nx := nx) (m := m) (df := df) l (k + 1) _ hm' (by rw [S.put_df, S.put_df]; exact hdf) k'
           rw [get_putS, S.put_hp, S.put_hp, get_putS, updF_self _ _ _ (by show s.fr.get d = _; rw [hb, hw])] at this
           exact this
         · rw [if_neg hw]
           have hbn : b = !want := by cases b <;> cases want <;> simp_all
           have := vcOpsD_chain hC (nx := nx) (m := m) (df := df) l (k + 1) _ hm' (by rw [S.put_df, S.put_df]; exact hdf) (h.2 hbn)
           rw [get_putS, S.put_hp, S.put_hp, get_putS, updF_self _ _ _ (by rw [hb, hbn])] at this
           exact this
       · rename_i hb
         try rw [hb]
         have := vcOpsD_chain hC (nx := nx) (m := m) (df := df) l (k + 1) _ hm' (by rw [S.put_df]; exact hdf) h
         rwa [get_putS, S.put_hp] at this
       · exact h.elim
theorem Abs.drew {s : S} {a : Act} {w : World} (h : Abs E s a w) : Abs E s a { w with drawn := w.drawn + 1 } := by
 obtain ⟨ι, dom, im, h1, h2, h3, h4⟩ := h
 have hle : Cx.Le ⟨ι, dom, im, w⟩ ⟨ι, dom, im, { w with drawn := w.drawn + 1 }⟩ := ⟨fun _ h => h, fun _ _ => rfl, fun _ h => h, fun _ _ _ => rfl, Nat.le_refl _, fun _ _ h => h⟩
 exact ⟨ι, dom, im, h1, h2.drew, h3.mono hle, h4⟩
theorem Tr.regionZ (hC : CKok P CK) (hZ : Fun Z) (hm : P.follows .mixedOrders = true) {id : Nat} {s : S} {K : Exit → S → Prop} (D : List Nat) (hd : dstOK E.N ops = true) (hl : lexZ F ops = true)
 (h : vcOpsD P CK F Z ops (HP.keep D s.hp) D s.nx ops.toList 0 s (K .normal)) : Tr P ro E (.region id ops true) s K := by
 intro a w ha
 have ha := ha.drew
 refine wpIn_region_any hm ?_
 have hch := vcOpsD_chain hC (m := ops.size) (df := s.df) ops.toList 0 s (by simp) rfl h
 have hany := anyT_lex hC hZ ops.toList 0 (Array.replicate ops.size false) s.fr.get s.hp (fun k ok _ hl => by simp [Array.getElem?_replicate] at hl; split at hl <;> simp at hl) (by simp) (by simpa [lexZ] using hl) hch
 refine anyT_sound (E := E) (df := s.df) hC hZ hd ?_ ops.size (Array.replicate ops.size false) s.fr.get s.hp a _ (by simp) (by simpa using hany) ?_
 · rintro listed g hp a' w' hsz ⟨s', rfl, rfl, h3, h4, h5⟩ ⟨ι, dom, im, k1, k2, k3, k4, k5, _⟩
   refine ⟨s', h5, ι, dom, im, fun o ho => ?_, k2, k3, by rw [h4]; exact k4⟩
   rw [h3]
   rcases k1 o ho with h | ⟨j, h6, h7, h8⟩
   · omega
   · have hj : j < ops.size := by
      rcases Nat.lt_or_ge j ops.size with h' | h'
      · exact h'
      · rw [← hsz] at h'
        simp [Array.getElem?_eq_none h'] at h6
     omega
 · obtain ⟨ι, dom, im, k1, k2, k3, k4⟩ := ha
   exact ⟨ι, dom, im, fun o ho => .inl (k1 o ho), k2, k3, k4, fun _ => rfl, fun k ok _ hl => by simp [Array.getElem?_replicate] at hl; split at hl <;> simp at hl⟩
theorem fun_nil : Fun [] := fun e1 h => (by cases h)
theorem Tr.regionD (hC : CKok P CK) (hm : P.follows .mixedOrders = true) {id : Nat} {s : S} {K : Exit → S → Prop} (D : List Nat) (hd : dstOK E.N ops = true) (hl : lexOK ops = true)
 (h : vcOpsD P CK [] [] ops (HP.keep D s.hp) D s.nx ops.toList 0 s (K .normal)) : Tr P ro E (.region id ops true) s K := Tr.regionZ hC fun_nil hm D hd hl h
theorem zcall_nil (o : Oper) : zcall [] o = false := by
 unfold zcall
 split
 · split <;> rfl
 · rfl
end
end Go.Ab
