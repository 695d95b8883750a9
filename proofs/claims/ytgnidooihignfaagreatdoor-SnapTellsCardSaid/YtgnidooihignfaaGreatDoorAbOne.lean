/- The abstract values of a walk, and how they stand for cells of memory. -/
import Derived.CallsIn
import Derived.RangeFuncIn
import Derived.Below
import Derived.Laws.Cells
import Derived.Laws.CopyRow
import Derived.Laws.AppendOwn
import Derived.Laws.StructEq
import Derived.Stop.BytesEq
import Derived.Laws.BytesString
namespace Go.Ab
open Go.RowKit
abbrev Root := { l : List UInt8 // l.length = 32 }
inductive AV where
 | bool (b : Bool)
 | int (k : IntKind) (n : Int)
 | str (s : ByteArray)
 | root (r : Root)
 | st (fs : List AV)
 | arr (xs : List AV)
 | sl (xs : List AV) (clip : Bool)
 | ms (o : Nat) (sz n : Nat)
 | ref (x : AV)
 | ptr (o : Nat) (p : List Nat) (off : Nat)
 | nilp
 | mp (o : Nat)
 | fn (f : Fn) (first cap : List AV)
 | nilf
 | tup (xs : List AV)
 | raw (v : Value)
instance : Inhabited AV := ⟨.nilp⟩
def rootCells (r : Root) : List Value := r.1.map fun b => .int .u8 b.toNat
theorem rootCells_length (r : Root) : (rootCells r).length = 32 := by simp [rootCells, r.2]
mutual
def AV.len : AV → Nat
 | .root _ => 32
 | .st fs => AV.lens fs
 | .arr xs => AV.lens xs
 | _ => 1
def AV.lens : List AV → Nat
 | [] => 0
 | x :: xs => x.len + AV.lens xs
end
def AV.agg : AV → Bool
 | .root _ | .st _ | .arr _ => true
 | _ => false
def AV.isTup : AV → Bool
 | .tup _ => true
 | _ => false
def isAggV : Value → Bool
 | .agg _ => true
 | _ => false
def isTupV : Value → Bool
 | .tuple _ => true
 | _ => false
structure Cx where
 ι : Nat → Nat
 dom : Nat → Prop
 im : Nat → Prop
 w : World
def cellsAt (w : World) (b off : Nat) (cs : List Value) : Prop := ∀ i v, cs[i]? = some v → w.cell? ⟨b, off + i, none⟩ = some v
mutual
def Rep (C : Cx) : AV → List Value → Prop
 | .bool b, cs => cs = [.bool b]
 | .int k n, cs => cs = [.int k n]
 | .str s, cs => cs = [.string s]
 | .root r, cs => cs = rootCells r
 | .st fs, cs => ∃ css, RepL C fs css ∧ cs = css.flatten
 | .arr fs, cs => ∃ css, RepL C fs css ∧ cs = css.flatten
 | .sl xs clip, cs => ∃ A c, cs = [.slice A xs.length c] ∧ xs.length ≤ c ∧ c ≤ maxLen ∧ (clip = true → c = xs.length) ∧
  (xs = [] ∨ ∃ b off css, A = some ⟨b, off, none⟩ ∧ C.im b ∧ b < C.w.heap.size ∧ RepL { C with dom := fun _ => False } xs css ∧ (∃ sz, ∀ x ∈ css, x.length = sz) ∧ cellsAt C.w b off css.flatten)
 | .ms o sz n, cs => ∃ A c, cs = [.slice A n c] ∧ C.dom o ∧ n ≤ c ∧ c ≤ maxLen ∧
  ((n = 0 ∧ c = 0) ∨ (0 < n ∧ A = some ⟨C.ι o, 0, none⟩ ∧ ∃ e, C.w.shape? (C.ι o) = some (e, c * sz)))
 | .ref x, cs => ∃ b off c, cs = [.pointer (some ⟨b, off, none⟩)] ∧ C.im b ∧ b < C.w.heap.size ∧ Rep { C with dom := fun _ => False } x c ∧ cellsAt C.w b off c
 | .ptr o _ off, cs => cs = [.pointer (some ⟨C.ι o, off, none⟩)] ∧ C.dom o
 | .nilp, cs => cs = [.pointer none]
 | .mp o, cs => cs = [.map (some (C.ι o))] ∧ C.dom o
 | .fn f a b, cs => ∃ va vb : List Value, cs = [.func f va.toArray vb.toArray] ∧ RepL C a (va.map fun v => v.cells.toList) ∧ RepL C b (vb.map fun v => v.cells.toList) ∧
  va.map isAggV = a.map AV.agg ∧ vb.map isAggV = b.map AV.agg ∧ (∀ v ∈ va, isTupV v = false) ∧ (∀ v ∈ vb, isTupV v = false)
 | .nilf, cs => cs = [.nilFunc]
 | .tup _, _ => False
 | .raw v, cs => cs = [v] ∧ isAggV v = false ∧ isTupV v = false
def RepL (C : Cx) : List AV → List (List Value) → Prop
 | [], css => css = []
 | x :: xs, css => ∃ c r, css = c :: r ∧ Rep C x c ∧ RepL C xs r
end
def RepV (C : Cx) (x : AV) (v : Value) : Prop := Rep C x v.cells.toList ∧ isAggV v = x.agg ∧ isTupV v = false
def RepVs (C : Cx) : List AV → List Value → Prop
 | [], vs => vs = []
 | x :: xs, vs => ∃ v r, vs = v :: r ∧ RepV C x v ∧ RepVs C xs r
def RepS (C : Cx) : AV → Value → Prop
 | .tup xs, v => ∃ vs : List Value, v = .tuple vs.toArray ∧ RepVs C xs vs
 | x, v => RepV C x v
structure Cx.Le (C C' : Cx) : Prop where
 dom : ∀ o, C.dom o → C'.dom o
 ι : ∀ o, C.dom o → C'.ι o = C.ι o
 im : ∀ b, C.im b → C'.im b
 same : ∀ b, C.im b → b < C.w.heap.size → C'.w.heap[b]? = C.w.heap[b]?
 size : C.w.heap.size ≤ C'.w.heap.size
 shape : ∀ b s, C.w.shape? b = some s → C'.w.shape? b = some s
theorem Cx.Le.refl (C : Cx) : C.Le C := ⟨fun _ h => h, fun _ _ => rfl, fun _ h => h, fun _ _ _ => rfl, Nat.le_refl _, fun _ _ h => h⟩
theorem Cx.Le.trans {A B C : Cx} (h : A.Le B) (k : B.Le C) : A.Le C :=
 ⟨fun o ho => k.dom o (h.dom o ho), fun o ho => (k.ι o (h.dom o ho)).trans (h.ι o ho), fun b hb => k.im b (h.im b hb),
  fun b hb hs => (k.same b (h.im b hb) (Nat.lt_of_lt_of_le hs h.size)).trans (h.same b hb hs), Nat.le_trans h.size k.size, fun b s hs => k.shape b s (h.shape b s hs)⟩
theorem Cx.Le.zero {A B : Cx} (h : A.Le B) : Cx.Le { A with dom := fun _ => False } { B with dom := fun _ => False } :=
 ⟨fun _ h => h, fun _ ho => ho.elim, h.im, h.same, h.size, h.shape⟩
theorem cell?_congr {w w' : World} {b i : Nat} (h : w'.heap[b]? = w.heap[b]?) : w'.cell? ⟨b, i, none⟩ = w.cell? ⟨b, i, none⟩ := by
 simp only [World.cell?, h]
theorem cellsAt.mono {w w' : World} {b off : Nat} {cs : List Value} (h : cellsAt w b off cs) (hb : w'.heap[b]? = w.heap[b]?) : cellsAt w' b off cs :=
 fun i v hv => (cell?_congr hb).trans (h i v hv)
mutual
theorem Rep.mono {C C' : Cx} (h : C.Le C') : ∀ (x : AV) (cs : List Value), Rep C x cs → Rep C' x cs
 | .bool _, _, hr => by simpa only [Rep] using hr
 | .int _ _, _, hr => by simpa only [Rep] using hr
 | .str _, _, hr => by simpa only [Rep] using hr
 | .root _, _, hr => by simpa only [Rep] using hr
 | .st fs, cs, hr => by
   simp only [Rep] at hr ⊢
   obtain ⟨css, h1, h2⟩ := hr
   exact ⟨css, RepL.mono h fs css h1, h2⟩
 | .arr fs, cs, hr => by
   simp only [Rep] at hr ⊢
   obtain ⟨css, h1, h2⟩ := hr
   exact ⟨css, RepL.mono h fs css h1, h2⟩
 | .sl xs clip, cs, hr => by
   simp only [Rep] at hr ⊢
   obtain ⟨A, c, h1, h2, h3, h4, h5⟩ := hr
   refine ⟨A, c, h1, h2, h3, h4, ?_⟩
   rcases h5 with h5 | ⟨b, off, css, k1, k2, k3, k4, k5, k6⟩
   · exact .inl h5
   · exact .inr ⟨b, off, css, k1, h.im b k2, Nat.lt_of_lt_of_le k3 h.size, RepL.mono h.zero xs css k4, k5, k6.mono (h.same b k2 k3)⟩
 | .ms o sz n, cs, hr => by
   simp only [Rep] at hr ⊢
   obtain ⟨A, c, h1, h2, h3, h4, h5⟩ := hr
   refine ⟨A, c, h1, h.dom o h2, h3, h4, ?_⟩
   rcases h5 with h5 | ⟨h5, h6, e, h7⟩
   · exact .inl h5
   · exact .inr ⟨h5, by rw [h.ι o h2]; exact h6, e, by rw [h.ι o h2]; exact h.shape _ _ h7⟩
 | .ref x, cs, hr => by
   simp only [Rep] at hr ⊢
   obtain ⟨b, off, c, k1, k2, k3, k4, k5⟩ := hr
   exact ⟨b, off, c, k1, h.im b k2, Nat.lt_of_lt_of_le k3 h.size, Rep.mono h.zero x c k4, k5.mono (h.same b k2 k3)⟩
 | .ptr o p off, cs, hr => by
   simp only [Rep] at hr ⊢
   exact ⟨by rw [h.ι o hr.2]; exact hr.1, h.dom o hr.2⟩
 | .nilp, _, hr => by simpa only [Rep] using hr
 | .mp o, cs, hr => by
   simp only [Rep] at hr ⊢
   exact ⟨by rw [h.ι o hr.2]; exact hr.1, h.dom o hr.2⟩
 | .fn f a b, cs, hr => by
   simp only [Rep] at hr ⊢
   obtain ⟨va, vb, h1, h2, h3, h4⟩ := hr
   exact ⟨va, vb, h1, RepL.mono h a _ h2, RepL.mono h b _ h3, h4⟩
 | .nilf, _, hr => by simpa only [Rep] using hr
 | .tup _, _, hr => by simp only [Rep] at hr
 | .raw _, _, hr => by simpa only [Rep] using hr
theorem RepL.mono {C C' : Cx} (h : C.Le C') : ∀ (xs : List AV) (css : List (List Value)), RepL C xs css → RepL C' xs css
 | [], _, hr => by simpa only [RepL] using hr
 | x :: xs, css, hr => by
   simp only [RepL] at hr ⊢
   obtain ⟨c, r, h1, h2, h3⟩ := hr
   exact ⟨c, r, h1, Rep.mono h x c h2, RepL.mono h xs r h3⟩
end
theorem RepV.mono {C C' : Cx} (h : C.Le C') {x : AV} {v : Value} (hr : RepV C x v) : RepV C' x v := ⟨hr.1.mono h x _, hr.2⟩
theorem RepVs.mono {C C' : Cx} (h : C.Le C') : ∀ (xs : List AV) (vs : List Value), RepVs C xs vs → RepVs C' xs vs
 | [], _, hr => hr
 | x :: xs, vs, hr => by
   obtain ⟨v, r, h1, h2, h3⟩ := hr
   exact ⟨v, r, h1, h2.mono h, RepVs.mono h xs r h3⟩
theorem RepS.mono {C C' : Cx} (h : C.Le C') {x : AV} {v : Value} (hr : RepS C x v) : RepS C' x v := by
 cases x <;> first
  | exact RepV.mono h hr
  | (obtain ⟨vs, h1, h2⟩ := hr; exact ⟨vs, h1, RepVs.mono h _ _ h2⟩)
mutual
theorem Rep.length {C : Cx} : ∀ (x : AV) (cs : List Value), Rep C x cs → cs.length = x.len
 | .bool _, _, hr => by simp only [Rep] at hr; subst hr; rfl
 | .int _ _, _, hr => by simp only [Rep] at hr; subst hr; rfl
 | .str _, _, hr => by simp only [Rep] at hr; subst hr; rfl
 | .root r, _, hr => by simp only [Rep] at hr; subst hr; simp [AV.len, rootCells_length]
 | .st fs, cs, hr => by
   simp only [Rep] at hr
   obtain ⟨css, h1, h2⟩ := hr
   subst h2
   simpa [AV.len] using RepL.length fs css h1
 | .arr fs, cs, hr => by
   simp only [Rep] at hr
   obtain ⟨css, h1, h2⟩ := hr
   subst h2
   simpa [AV.len] using RepL.length fs css h1
 | .sl xs clip, cs, hr => by
   simp only [Rep] at hr
   obtain ⟨A, c, h1, _⟩ := hr
   subst h1; rfl
 | .ms o sz n, cs, hr => by
   simp only [Rep] at hr
   obtain ⟨A, c, h1, _⟩ := hr
   subst h1; rfl
 | .ref x, cs, hr => by
   simp only [Rep] at hr
   obtain ⟨b, off, c, k1, _⟩ := hr
   subst k1; rfl
 | .ptr o p off, cs, hr => by simp only [Rep] at hr; rw [hr.1]; rfl
 | .nilp, _, hr => by simp only [Rep] at hr; subst hr; rfl
 | .mp o, cs, hr => by simp only [Rep] at hr; rw [hr.1]; rfl
 | .fn f a b, cs, hr => by
   simp only [Rep] at hr
   obtain ⟨va, vb, h1, _⟩ := hr
   subst h1; rfl
 | .nilf, _, hr => by simp only [Rep] at hr; subst hr; rfl
 | .tup _, _, hr => by simp only [Rep] at hr
 | .raw _, _, hr => by simp only [Rep] at hr; rw [hr.1]; rfl
theorem RepL.length {C : Cx} : ∀ (xs : List AV) (css : List (List Value)), RepL C xs css → css.flatten.length = AV.lens xs
 | [], _, hr => by simp only [RepL] at hr; subst hr; rfl
 | x :: xs, css, hr => by
   simp only [RepL] at hr
   obtain ⟨c, r, h1, h2, h3⟩ := hr
   subst h1
   have e1 := Rep.length x c h2
   have e2 := RepL.length xs r h3
   simp only [List.flatten_cons, List.length_append, AV.lens]
   omega
end
end Go.Ab
namespace Go.Ab
open Go.RowKit
inductive AO where
 | var (x : AV)
 | row (sz : Nat) (xs : List AV)
 | amap (es : List (AV × AV))
 | obj (o : Obj)
 /-- A package variable: its block reads so, and nobody writes it. -/
 | tab (g : Nat) (x : AV)
abbrev HP := List (Nat × AO)
def HP.get (hp : HP) (o : Nat) : Option AO := (hp.find? fun p => p.1 == o).map (·.2)
def HP.set (hp : HP) (o : Nat) (ob : AO) : HP := hp.map fun p => if p.1 == o then (p.1, ob) else p
def HP.del (hp : HP) (o : Nat) : HP := hp.filter fun p => !(p.1 == o)
theorem HP.get_nil (o : Nat) : HP.get [] o = none := rfl
theorem HP.get_cons (p : Nat × AO) (hp : HP) (o : Nat) : HP.get (p :: hp) o = if p.1 = o then some p.2 else HP.get hp o := by
 unfold HP.get
 by_cases h : p.1 = o <;> simp [h]
theorem HP.get_set (hp : HP) (o o' : Nat) (ob : AO) : HP.get (HP.set hp o ob) o' = if o' = o then (HP.get hp o).map (fun _ => ob) else HP.get hp o' := by
 induction hp with
 | nil => simp [HP.set, HP.get]
 | cons p hp ih =>
   have e : HP.set (p :: hp) o ob = (if p.1 == o then (p.1, ob) else p) :: HP.set hp o ob := rfl
   rw [e, HP.get_cons, HP.get_cons, HP.get_cons, ih]
   by_cases h1 : p.1 = o <;> by_cases h2 : o' = o <;> by_cases h3 : p.1 = o' <;> simp_all
theorem HP.get_del (hp : HP) (o o' : Nat) : HP.get (HP.del hp o) o' = if o' = o then none else HP.get hp o' := by
 induction hp with
 | nil => simp [HP.del, HP.get]
 | cons p hp ih =>
   by_cases h1 : p.1 = o
   · have e : HP.del (p :: hp) o = HP.del hp o := by simp [HP.del, h1]
     rw [e, ih, HP.get_cons]
     by_cases h2 : o' = o <;> by_cases h3 : p.1 = o' <;> simp_all
   · have e : HP.del (p :: hp) o = p :: HP.del hp o := by simp [HP.del, h1]
     rw [e, HP.get_cons, ih, HP.get_cons]
     by_cases h2 : o' = o <;> by_cases h3 : p.1 = o' <;> simp_all
def Owns (C : Cx) (b : Nat) : AO → Prop
 | .var x => ∃ cs e, C.w.heap[b]? = some (.cells cs e (0, 0)) ∧ Rep C x cs.toList
 | .row sz xs => xs = [] ∨ ∃ cs e css, C.w.heap[b]? = some (.cells cs e (0, 0)) ∧ RepL { C with dom := fun _ => False } xs css ∧ (∀ x ∈ css, x.length = sz) ∧ css.flatten <+: cs.toList
 | .amap es => ∃ (ms : Array MapEntry) (clock : Nat), C.w.heap[b]? = some (.map ms clock) ∧
  ∃ ks vs : List (List Value), RepL { C with dom := fun _ => False } (es.map (·.1)) ks ∧ RepL { C with dom := fun _ => False } (es.map (·.2)) vs ∧
    ms.toList.map (fun m => m.key.cells.toList) = ks ∧ ms.toList.map (fun m => m.val.cells.toList) = vs ∧
    ms.toList.map (fun m => isAggV m.key) = es.map (fun e => e.1.agg) ∧ ms.toList.map (fun m => isAggV m.val) = es.map (fun e => e.2.agg) ∧
    (∀ m ∈ ms, isTupV m.key = false ∧ isTupV m.val = false)
 | .obj ob => C.w.heap[b]? = some ob
 | .tab g x => Rep C (.ref x) [.pointer (some ⟨g, 0, none⟩)]
def AO.real : AO → Prop
 | .row _ [] => False
 | .tab _ _ => False
 | _ => True
structure Env where
 N : Nat
 w0 : World
 own0 : Nat → Prop
 im0 : Nat → Prop
 /-- Objects below it keep their blocks. -/
 pn : Nat
 blk : Nat → Nat
structure HInv (E : Env) (hp : HP) (ι : Nat → Nat) (dom im : Nat → Prop) (w : World) : Prop where
 own : ∀ o ob, HP.get hp o = some ob → Owns ⟨ι, dom, im, w⟩ (ι o) ob
 dm : ∀ o ob, HP.get hp o = some ob → dom o
 lt : ∀ o ob, HP.get hp o = some ob → ob.real → ι o < w.heap.size
 nim : ∀ o ob, HP.get hp o = some ob → ob.real → ¬ im (ι o)
 inj : ∀ o o' ob ob', HP.get hp o = some ob → HP.get hp o' = some ob' → ob.real → ob'.real → ι o = ι o' → o = o'
 loc : ∀ o ob, HP.get hp o = some ob → ob.real → E.own0 (ι o) ∨ E.w0.heap.size ≤ ι o
 imlt : ∀ b, im b → b < w.heap.size
 imsub : ∀ b, im b → E.im0 b ∨ E.own0 b ∨ E.w0.heap.size ≤ b
 im0 : ∀ b, E.im0 b → im b
 ext : ∀ b, b < E.w0.heap.size → ¬ E.own0 b → w.heap[b]? = E.w0.heap[b]?
 size : E.w0.heap.size ≤ w.heap.size
 os : w.os = E.w0.os
 tape : w.tape = E.w0.tape
 output : w.output = E.w0.output
 sh : ∀ b s, E.w0.shape? b = some s → w.shape? b = some s
 pin : ∀ o, o < E.pn → dom o ∧ ι o = E.blk o
abbrev FR := List (Nat × AV)
def FR.get (fr : FR) (t : Nat) : AV := ((fr.find? fun p => p.1 == t).map (·.2)).getD (.raw undef)
structure S where
 fr : FR
 hp : HP
 nx : Nat
 df : List Nat := []
def constAV : Value → AV
 | .bool b => .bool b
 | .int k n => .int k n
 | .string s => .str s
 | .pointer none => .nilp
 | .slice none 0 0 => .sl [] true
 | .nilFunc => .nilf
 | v => .raw v
def HP.tabOf (hp : HP) (g : Nat) : AV :=
 (hp.findSome? fun p => match HP.get hp p.1 with
  | some (.tab g' x) => if g' = g then some (AV.ref x) else none
  | _ => none).getD (.raw undef)
def S.ev (s : S) : Operand → AV
 | .tmp t => s.fr.get t
 | .const v => constAV v
 | .func f => .fn (.func f) [] []
 | .global g => s.hp.tabOf g
def S.put (s : S) (d : Option Nat) (x : AV) : S :=
 match d with
 | some t => { s with fr := (t, x) :: s.fr }
 | none => s
def RepT (C : Cx) (x : AV) (v : Value) : Prop := (∃ u, x = .raw u ∧ (isTupV u = true ∨ isAggV u = true)) ∨ RepS C x v
def FrOK (C : Cx) (fr : FR) (a : Act) (N : Nat) : Prop := a.tmps.size = N ∧ ∀ t, RepT C (fr.get t) (a.tmps.getD t undef)
def Abs (E : Env) (s : S) (a : Act) (w : World) : Prop :=
 ∃ ι dom im, (∀ o, dom o → o < s.nx) ∧ HInv E s.hp ι dom im w ∧ FrOK ⟨ι, dom, im, w⟩ s.fr a E.N ∧ (∀ o ∈ s.df, dom o) ∧ a.defers = s.df.map fun o => ({ target := .collected (ι o), args := #[] } : Deferred)
theorem FR.get_cons (p : Nat × AV) (fr : FR) (t : Nat) : FR.get (p :: fr) t = if p.1 = t then p.2 else FR.get fr t := by
 unfold FR.get
 by_cases h : p.1 = t <;> simp [h]
theorem RepT.mono {C C' : Cx} (h : C.Le C') {x : AV} {v : Value} (hr : RepT C x v) : RepT C' x v := by
 rcases hr with hr | hr
 · exact .inl hr
 · exact .inr (hr.mono h)
theorem FrOK.mono {C C' : Cx} (h : C.Le C') {fr : FR} {a : Act} {N : Nat} (hf : FrOK C fr a N) : FrOK C' fr a N :=
 ⟨hf.1, fun t => (hf.2 t).mono h⟩
theorem FrOK.put {C : Cx} {fr : FR} {a : Act} {N : Nat} (hf : FrOK C fr a N) {d : Nat} {x : AV} {v : Value} (hx : RepS C x v) (hd : d < N) :
 FrOK C ((d, x) :: fr) (a.put (some d) v) N := by
 refine ⟨by simp [Act.put, hf.1], fun t => ?_⟩
 rw [FR.get_cons]
 by_cases h : d = t
 · subst h
   have e : (a.put (some d) v).tmps.getD d undef = v := by
    simp [Act.put, Array.getD, hf.1, hd]
   simp only [if_true, e]
   exact .inr hx
 · have e : (a.put (some d) v).tmps.getD t undef = a.tmps.getD t undef := by
    simp [Act.put, Array.getElem?_setIfInBounds_ne h]
   simp only [h, if_false, e]
   exact hf.2 t
end Go.Ab
namespace Go.Ab
open Go.RowKit
def tAgg (P : Program) (t : TypeId) : Option Bool :=
 match P.underlying t with
 | some (.struct _) | some (.array _ _) => some true
 | some _ => some false
 | none => none
def tSize (P : Program) (t : TypeId) : Option Nat := (P.info? t).map (·.size)
def tElem (P : Program) (t : TypeId) : Option TypeId :=
 match P.underlying t with
 | some (.slice e) => some e
 | _ => none
theorem run_underlying' {P : Program} {t : TypeId} {d : TypeDesc} (h : P.underlying t = some d) (w : World) : (underlying t).run P w = .ok d w := run_underlying h w
theorem run_isAgg' {P : Program} {t : TypeId} {b : Bool} (h : tAgg P t = some b) (w : World) : (isAgg t).run P w = .ok b w := by
 unfold tAgg at h
 cases hu : P.underlying t with
 | none => simp [hu] at h
 | some d =>
   simp only [hu] at h
   unfold isAgg
   simp only [Sem.run_bind, run_underlying' hu, Result.andThen_ok]
   cases d <;> simp at h <;> subst h <;> rfl
theorem run_sizeOf' {P : Program} {t : TypeId} {n : Nat} (h : tSize P t = some n) (w : World) : (sizeOf t).run P w = .ok n w := by
 unfold tSize at h
 cases hu : P.info? t with
 | none => simp [hu] at h
 | some i =>
   simp only [hu, Option.map_some, Option.some.injEq] at h
   simp [sizeOf, typeInfo, hu, h]
theorem add_mk (b off j : Nat) : (⟨b, off, none⟩ : Addr).add j = ⟨b, off + j, none⟩ := by
 unfold Addr.add; split <;> simp_all
theorem run_loadCells' {P : Program} {w : World} {b off : Nat} {cs : List Value} (h : cellsAt w b off cs) :
 (loadCells ⟨b, off, none⟩ cs.length).run P w = .ok cs.toArray w :=
 run_loadCells_list w _ cs fun j v hv => by rw [add_mk]; exact h j v hv
def scalar (v : Value) : Prop := isAggV v = false ∧ isTupV v = false
theorem scalar.cells {v : Value} (h : scalar v) : v.cells = #[v] := by
 cases v <;> first | rfl | (simp [scalar, isAggV] at h; done)
theorem scalar.one {v : Value} (h : scalar v) : v.oneCell' = true := by
 obtain ⟨h1, h2⟩ := h
 cases v <;> first | rfl | (simp [isAggV] at h1; done) | (simp [isTupV] at h2; done)
mutual
theorem Rep.scalars {C : Cx} : ∀ (x : AV) (cs : List Value), Rep C x cs → ∀ u ∈ cs, scalar u
 | .bool _, _, hr => by simp only [Rep] at hr; subst hr; intro u hu; simp at hu; subst hu; exact ⟨rfl, rfl⟩
 | .int _ _, _, hr => by simp only [Rep] at hr; subst hr; intro u hu; simp at hu; subst hu; exact ⟨rfl, rfl⟩
 | .str _, _, hr => by simp only [Rep] at hr; subst hr; intro u hu; simp at hu; subst hu; exact ⟨rfl, rfl⟩
 | .root r, _, hr => by
   simp only [Rep] at hr; subst hr; intro u hu
   simp only [rootCells, List.mem_map] at hu
   obtain ⟨b, _, rfl⟩ := hu
   exact ⟨rfl, rfl⟩
 | .st fs, cs, hr => by
   simp only [Rep] at hr
   obtain ⟨css, h1, h2⟩ := hr
   subst h2
   intro u hu
   obtain ⟨c, hc, hu⟩ := List.mem_flatten.1 hu
   exact RepL.scalars fs css h1 c hc u hu
 | .arr fs, cs, hr => by
   simp only [Rep] at hr
   obtain ⟨css, h1, h2⟩ := hr
   subst h2
   intro u hu
   obtain ⟨c, hc, hu⟩ := List.mem_flatten.1 hu
   exact RepL.scalars fs css h1 c hc u hu
 | .sl xs clip, cs, hr => by
   simp only [Rep] at hr
   obtain ⟨A, c, h1, _⟩ := hr
   subst h1; intro u hu; simp at hu; subst hu; exact ⟨rfl, rfl⟩
 | .ms o sz n, cs, hr => by
   simp only [Rep] at hr
   obtain ⟨A, c, h1, _⟩ := hr
   subst h1; intro u hu; simp at hu; subst hu; exact ⟨rfl, rfl⟩
 | .ref x, cs, hr => by
   simp only [Rep] at hr
   obtain ⟨b, off, c, k1, _⟩ := hr
   subst k1; intro u hu; simp at hu; subst hu; exact ⟨rfl, rfl⟩
 | .ptr o p off, cs, hr => by simp only [Rep] at hr; rw [hr.1]; intro u hu; simp at hu; subst hu; exact ⟨rfl, rfl⟩
 | .nilp, _, hr => by simp only [Rep] at hr; subst hr; intro u hu; simp at hu; subst hu; exact ⟨rfl, rfl⟩
 | .mp o, cs, hr => by simp only [Rep] at hr; rw [hr.1]; intro u hu; simp at hu; subst hu; exact ⟨rfl, rfl⟩
 | .fn f a b, cs, hr => by
   simp only [Rep] at hr
   obtain ⟨va, vb, h1, _⟩ := hr
   subst h1; intro u hu; simp at hu; subst hu; exact ⟨rfl, rfl⟩
 | .nilf, _, hr => by simp only [Rep] at hr; subst hr; intro u hu; simp at hu; subst hu; exact ⟨rfl, rfl⟩
 | .tup _, _, hr => by simp only [Rep] at hr
 | .raw _, _, hr => by simp only [Rep] at hr; rw [hr.1]; intro u hu; simp at hu; subst hu; exact hr.2
theorem RepL.scalars {C : Cx} : ∀ (xs : List AV) (css : List (List Value)), RepL C xs css → ∀ c ∈ css, ∀ u ∈ c, scalar u
 | [], _, hr => by simp only [RepL] at hr; subst hr; intro c hc; cases hc
 | x :: xs, css, hr => by
   simp only [RepL] at hr
   obtain ⟨c, r, h1, h2, h3⟩ := hr
   subst h1
   intro c' hc'
   rcases List.mem_cons.1 hc' with rfl | hc'
   · exact Rep.scalars x _ h2
   · exact RepL.scalars xs r h3 c' hc'
end
theorem Rep.single {C : Cx} {x : AV} {cs : List Value} (h : Rep C x cs) (ha : x.agg = false) : ∃ u, cs = [u] ∧ scalar u := by
 have hl := Rep.length x cs h
 have h1 : x.len = 1 := by cases x <;> first | rfl | (simp [AV.agg] at ha; done)
 rw [h1] at hl
 match cs, hl with
 | [u], _ => exact ⟨u, rfl, Rep.scalars x _ h u (by simp)⟩
theorem run_loadVar' {P : Program} {C : Cx} {t : TypeId} {x : AV} {b off : Nat} {cs : List Value} (hx : Rep C x cs) (hc : cellsAt C.w b off cs)
 (ha : tAgg P t = some x.agg) (hs : tSize P t = some x.len) : ∃ v, (loadVar t ⟨b, off, none⟩).run P C.w = .ok v C.w ∧ RepV C x v := by
 have hl := Rep.length x cs hx
 unfold loadVar
 simp only [Sem.run_bind, run_isAgg' ha, Result.andThen_ok]
 cases hagg : x.agg with
 | true =>
   refine ⟨.agg cs.toArray, ?_, by simpa [Value.cells] using hx, by simp [isAggV, hagg], rfl⟩
   simp only [if_true, Sem.run_bind, run_sizeOf' hs, Result.andThen_ok, ← hl, run_loadCells' hc]
   rfl
 | false =>
   obtain ⟨u, rfl, hu⟩ := hx.single hagg
   have h0 := hc 0 u rfl
   refine ⟨u, ?_, ?_, by rw [hu.1, hagg], hu.2⟩
   · simp only [Bool.false_eq_true, if_false, run_load]
     rw [show off + 0 = off from rfl] at h0
     rw [h0]
   · rw [hu.cells]; exact hx
mutual
def AV.sub : AV → List Nat → Option AV
 | x, [] => some x
 | .st fs, i :: p => AV.subL fs i p
 | .arr xs, i :: p => AV.subL xs i p
 | .root r, [i] => (r.1[i]?).map fun b => .int .u8 b.toNat
 | _, _ => none
def AV.subL : List AV → Nat → List Nat → Option AV
 | [], _, _ => none
 | x :: _, 0, p => AV.sub x p
 | _ :: xs, i + 1, p => AV.subL xs i p
end
mutual
def AV.offs : AV → List Nat → Option Nat
 | _, [] => some 0
 | .st fs, i :: p => AV.offsL fs i p
 | .arr xs, i :: p => AV.offsL xs i p
 | .root _, [i] => some i
 | _, _ => none
def AV.offsL : List AV → Nat → List Nat → Option Nat
 | [], _, _ => none
 | x :: _, 0, p => AV.offs x p
 | x :: xs, i + 1, p => (AV.offsL xs i p).map (x.len + ·)
end
def rootSet (r : Root) (i : Nat) (n : Int) : Root := ⟨r.1.set i (UInt8.ofNat n.toNat), by simp [r.2]⟩
mutual
def AV.upd : AV → List Nat → AV → Option AV
 | _, [], y => some y
 | .st fs, i :: p, y => (AV.updL fs i p y).map .st
 | .arr xs, i :: p, y => (AV.updL xs i p y).map .arr
 | .root r, [i], .int .u8 n => if i < 32 ∧ 0 ≤ n ∧ n < 256 then some (.root (rootSet r i n)) else none
 | _, _, _ => none
def AV.updL : List AV → Nat → List Nat → AV → Option (List AV)
 | [], _, _, _ => none
 | x :: xs, 0, p, y => (AV.upd x p y).map (· :: xs)
 | x :: xs, i + 1, p, y => (AV.updL xs i p y).map (x :: ·)
end
mutual
theorem Rep.sub {C : Cx} : ∀ (x : AV) (p : List Nat) (y : AV) (k : Nat) (cs : List Value), x.sub p = some y → x.offs p = some k → Rep C x cs → Rep C y ((cs.drop k).take y.len) ∧ k + y.len ≤ x.len
 | x, [], y, k, cs, h1, h2, hr => by
   have e1 : AV.sub x [] = some x := by cases x <;> simp [AV.sub]
   have e2 : AV.offs x [] = some 0 := by cases x <;> simp [AV.offs]
   rw [e1] at h1; rw [e2] at h2
   cases h1; cases h2
   have hl := Rep.length x cs hr
   refine ⟨?_, by omega⟩
   rw [List.drop_zero, ← hl, List.take_length]
   exact hr
 | .st fs, i :: p, y, k, cs, h1, h2, hr => by
   simp only [AV.sub] at h1
   simp only [AV.offs] at h2
   simp only [Rep] at hr
   obtain ⟨css, h3, rfl⟩ := hr
   have := Rep.subL fs i p y k css h1 h2 h3
   simpa [AV.len] using this
 | .arr fs, i :: p, y, k, cs, h1, h2, hr => by
   simp only [AV.sub] at h1
   simp only [AV.offs] at h2
   simp only [Rep] at hr
   obtain ⟨css, h3, rfl⟩ := hr
   have := Rep.subL fs i p y k css h1 h2 h3
   simpa [AV.len] using this
 | .root r, [i], y, k, cs, h1, h2, hr => by
   simp only [AV.offs, Option.some.injEq] at h2
   subst h2
   simp only [AV.sub, Option.map_eq_some_iff] at h1
   obtain ⟨b, hb, rfl⟩ := h1
   simp only [Rep] at hr
   subst hr
   have hlt : i < 32 := by
    have := (List.getElem?_eq_some_iff.1 hb).1
    have := r.2
    omega
   refine ⟨?_, by simp [AV.len]; omega⟩
   have hi : (rootCells r)[i]? = some (.int .u8 b.toNat) := by simp [rootCells, hb]
   simp only [Rep, AV.len]
   rw [List.take_one, List.head?_drop, hi]
   rfl
 | .root _, _ :: _ :: _, _, _, _, h1, _, _ => by simp [AV.sub] at h1
 | .bool _, _ :: _, _, _, _, h1, _, _ => by simp [AV.sub] at h1
 | .int _ _, _ :: _, _, _, _, h1, _, _ => by simp [AV.sub] at h1
 | .str _, _ :: _, _, _, _, h1, _, _ => by simp [AV.sub] at h1
 | .sl _ _, _ :: _, _, _, _, h1, _, _ => by simp [AV.sub] at h1
 | .ms _ _ _, _ :: _, _, _, _, h1, _, _ => by simp [AV.sub] at h1
 | .ref _, _ :: _, _, _, _, h1, _, _ => by simp [AV.sub] at h1
 | .ptr _ _ _, _ :: _, _, _, _, h1, _, _ => by simp [AV.sub] at h1
 | .nilp, _ :: _, _, _, _, h1, _, _ => by simp [AV.sub] at h1
 | .mp _, _ :: _, _, _, _, h1, _, _ => by simp [AV.sub] at h1
 | .fn _ _ _, _ :: _, _, _, _, h1, _, _ => by simp [AV.sub] at h1
 | .nilf, _ :: _, _, _, _, h1, _, _ => by simp [AV.sub] at h1
 | .tup _, _ :: _, _, _, _, h1, _, _ => by simp [AV.sub] at h1
 | .raw _, _ :: _, _, _, _, h1, _, _ => by simp [AV.sub] at h1
theorem Rep.subL {C : Cx} : ∀ (xs : List AV) (i : Nat) (p : List Nat) (y : AV) (k : Nat) (css : List (List Value)), AV.subL xs i p = some y → AV.offsL xs i p = some k → RepL C xs css →
 Rep C y ((css.flatten.drop k).take y.len) ∧ k + y.len ≤ AV.lens xs
 | [], _, _, _, _, _, h1, _, _ => by simp [AV.subL] at h1
 | x :: xs, 0, p, y, k, css, h1, h2, hr => by
   simp only [AV.subL] at h1
   simp only [AV.offsL] at h2
   simp only [RepL] at hr
   obtain ⟨c, r, rfl, h3, h4⟩ := hr
   have hl := Rep.length x c h3
   obtain ⟨h5, h6⟩ := Rep.sub x p y k c h1 h2 h3
   refine ⟨?_, by simp only [AV.lens]; omega⟩
   rw [List.flatten_cons, List.drop_append_of_le_length (by omega), List.take_append_of_le_length (by simp; omega)]
   exact h5
 | x :: xs, i + 1, p, y, k, css, h1, h2, hr => by
   simp only [AV.subL] at h1
   simp only [AV.offsL, Option.map_eq_some_iff] at h2
   obtain ⟨k', h2, rfl⟩ := h2
   simp only [RepL] at hr
   obtain ⟨c, r, rfl, h3, h4⟩ := hr
   have hl := Rep.length x c h3
   obtain ⟨h5, h6⟩ := Rep.subL xs i p y k' r h1 h2 h4
   refine ⟨?_, by simp only [AV.lens]; omega⟩
   have e : (c ++ r.flatten).drop (c.length + k') = r.flatten.drop k' := by rw [← List.drop_drop]; simp
   rw [List.flatten_cons, ← hl, e]
   exact h5
end
theorem rootCells_set (r : Root) (i : Nat) (n : Int) (_hi : i < 32) (h0 : 0 ≤ n) (h1 : n < 256) :
 rootCells (rootSet r i n) = (rootCells r).set i (.int .u8 n) := by
 have e : ((UInt8.ofNat n.toNat).toNat : Int) = n := by
  rw [UInt8.toNat_ofNat']
  omega
 simp only [rootCells, rootSet, List.map_set, e]
mutual
theorem Rep.upd {C : Cx} : ∀ (x : AV) (p : List Nat) (y y' x' : AV) (k : Nat) (cs cs' : List Value), x.sub p = some y → x.offs p = some k → x.upd p y' = some x' → y'.len = y.len →
 Rep C x cs → Rep C y' cs' → Rep C x' (cs.take k ++ cs' ++ cs.drop (k + y.len)) ∧ x'.len = x.len
 | x, [], y, y', x', k, cs, cs', h1, h2, h3, hl, hr, hr' => by
   have e1 : AV.sub x [] = some x := by cases x <;> simp [AV.sub]
   have e2 : AV.offs x [] = some 0 := by cases x <;> simp [AV.offs]
   have e3 : AV.upd x [] y' = some y' := by cases x <;> simp [AV.upd]
   rw [e1] at h1; rw [e2] at h2; rw [e3] at h3
   cases h1; cases h2; cases h3
   have h4 := Rep.length x cs hr
   refine ⟨?_, hl⟩
   rw [List.take_zero, List.nil_append, List.drop_of_length_le (by omega), List.append_nil]
   exact hr'
 | .st fs, i :: p, y, y', x', k, cs, cs', h1, h2, h3, hl, hr, hr' => by
   simp only [AV.sub] at h1
   simp only [AV.offs] at h2
   simp only [AV.upd, Option.map_eq_some_iff] at h3
   obtain ⟨xs', h3, rfl⟩ := h3
   simp only [Rep] at hr
   obtain ⟨css, h4, rfl⟩ := hr
   obtain ⟨⟨css', h5, h6⟩, h7⟩ := Rep.updL fs i p y y' xs' k css cs' h1 h2 h3 hl h4 hr'
   simp only [Rep]
   exact ⟨⟨css', h5, h6⟩, by simpa [AV.len] using h7⟩
 | .arr fs, i :: p, y, y', x', k, cs, cs', h1, h2, h3, hl, hr, hr' => by
   simp only [AV.sub] at h1
   simp only [AV.offs] at h2
   simp only [AV.upd, Option.map_eq_some_iff] at h3
   obtain ⟨xs', h3, rfl⟩ := h3
   simp only [Rep] at hr
   obtain ⟨css, h4, rfl⟩ := hr
   obtain ⟨⟨css', h5, h6⟩, h7⟩ := Rep.updL fs i p y y' xs' k css cs' h1 h2 h3 hl h4 hr'
   simp only [Rep]
   exact ⟨⟨css', h5, h6⟩, by simpa [AV.len] using h7⟩
 | .root r, [i], y, y', x', k, cs, cs', h1, h2, h3, hl, hr, hr' => by
   simp only [AV.offs, Option.some.injEq] at h2
   subst h2
   simp only [AV.sub, Option.map_eq_some_iff] at h1
   obtain ⟨b, hb, rfl⟩ := h1
   unfold AV.upd at h3
   split at h3
   · simp_all
   · simp_all
   · simp_all
   · rename_i r' i' n heq1 heq2
     cases heq1
     cases heq2
     split at h3
     · rename_i hc
       simp only [Option.some.injEq] at h3
       subst h3
       simp only [Rep] at hr hr' ⊢
       subst hr; subst hr'
       refine ⟨?_, rfl⟩
       rw [rootCells_set r i n hc.1 hc.2.1 hc.2.2]
       simp only [AV.len]
       have hlt : i < (rootCells r).length := by rw [rootCells_length]; exact hc.1
       rw [List.set_eq_take_append_cons_drop, if_pos hlt]
       simp
     · cases h3
   · cases h3
 | .root _, _ :: _ :: _, _, _, _, _, _, _, h1, _, _, _, _, _ => by simp [AV.sub] at h1
 | .bool _, _ :: _, _, _, _, _, _, _, h1, _, _, _, _, _ => by simp [AV.sub] at h1
 | .int _ _, _ :: _, _, _, _, _, _, _, h1, _, _, _, _, _ => by simp [AV.sub] at h1
 | .str _, _ :: _, _, _, _, _, _, _, h1, _, _, _, _, _ => by simp [AV.sub] at h1
 | .sl _ _, _ :: _, _, _, _, _, _, _, h1, _, _, _, _, _ => by simp [AV.sub] at h1
 | .ms _ _ _, _ :: _, _, _, _, _, _, _, h1, _, _, _, _, _ => by simp [AV.sub] at h1
 | .ref _, _ :: _, _, _, _, _, _, _, h1, _, _, _, _, _ => by simp [AV.sub] at h1
 | .ptr _ _ _, _ :: _, _, _, _, _, _, _, h1, _, _, _, _, _ => by simp [AV.sub] at h1
 | .nilp, _ :: _, _, _, _, _, _, _, h1, _, _, _, _, _ => by simp [AV.sub] at h1
 | .mp _, _ :: _, _, _, _, _, _, _, h1, _, _, _, _, _ => by simp [AV.sub] at h1
 | .fn _ _ _, _ :: _, _, _, _, _, _, _, h1, _, _, _, _, _ => by simp [AV.sub] at h1
 | .nilf, _ :: _, _, _, _, _, _, _, h1, _, _, _, _, _ => by simp [AV.sub] at h1
 | .tup _, _ :: _, _, _, _, _, _, _, h1, _, _, _, _, _ => by simp [AV.sub] at h1
 | .raw _, _ :: _, _, _, _, _, _, _, h1, _, _, _, _, _ => by simp [AV.sub] at h1
theorem Rep.updL {C : Cx} : ∀ (xs : List AV) (i : Nat) (p : List Nat) (y y' : AV) (xs' : List AV) (k : Nat) (css : List (List Value)) (cs' : List Value),
 AV.subL xs i p = some y → AV.offsL xs i p = some k → AV.updL xs i p y' = some xs' → y'.len = y.len → RepL C xs css → Rep C y' cs' →
 (∃ css', RepL C xs' css' ∧ css.flatten.take k ++ cs' ++ css.flatten.drop (k + y.len) = css'.flatten) ∧ AV.lens xs' = AV.lens xs
 | [], _, _, _, _, _, _, _, _, h1, _, _, _, _, _ => by simp [AV.subL] at h1
 | x :: xs, 0, p, y, y', xs', k, css, cs', h1, h2, h3, hl, hr, hr' => by
   simp only [AV.subL] at h1
   simp only [AV.offsL] at h2
   simp only [AV.updL, Option.map_eq_some_iff] at h3
   obtain ⟨x', h3, rfl⟩ := h3
   simp only [RepL] at hr
   obtain ⟨c, r, rfl, h4, h5⟩ := hr
   have hlen := Rep.length x c h4
   obtain ⟨_, hb⟩ := Rep.sub x p y k c h1 h2 h4
   obtain ⟨h6, h7⟩ := Rep.upd x p y y' x' k c cs' h1 h2 h3 hl h4 hr'
   refine ⟨⟨(c.take k ++ cs' ++ c.drop (k + y.len)) :: r, ⟨_, _, rfl, h6, h5⟩, ?_⟩, by simp only [AV.lens, h7]⟩
   rw [List.flatten_cons, List.flatten_cons, List.take_append_of_le_length (by omega), List.drop_append_of_le_length (by omega)]
   simp only [List.append_assoc]
 | x :: xs, i + 1, p, y, y', xs', k, css, cs', h1, h2, h3, hl, hr, hr' => by
   simp only [AV.subL] at h1
   simp only [AV.offsL, Option.map_eq_some_iff] at h2
   obtain ⟨k', h2, rfl⟩ := h2
   simp only [AV.updL, Option.map_eq_some_iff] at h3
   obtain ⟨xs'', h3, rfl⟩ := h3
   simp only [RepL] at hr
   obtain ⟨c, r, rfl, h4, h5⟩ := hr
   have hlen := Rep.length x c h4
   obtain ⟨⟨css', h6, h7⟩, h8⟩ := Rep.updL xs i p y y' xs'' k' r cs' h1 h2 h3 hl h5 hr'
   refine ⟨⟨c :: css', ⟨_, _, rfl, h4, h6⟩, ?_⟩, by simp only [AV.lens, h8]⟩
   have e1 : (c ++ r.flatten).take (c.length + k') = c ++ r.flatten.take k' := by rw [List.take_append]; simp [List.take_of_length_le]
   have e2 : (c ++ r.flatten).drop (c.length + k' + y.len) = r.flatten.drop (k' + y.len) := by rw [Nat.add_assoc, ← List.drop_drop]; simp
   rw [List.flatten_cons, List.flatten_cons, ← hlen, e1, e2, ← h7]
   simp only [List.append_assoc]
end
end Go.Ab
namespace Go.Ab
open Go.RowKit
theorem Owns.mono {C C' : Cx} (h : C.Le C') {b : Nat} {ob : AO} (hb : ob.real → C'.w.heap[b]? = C.w.heap[b]?) (ho : Owns C b ob) : Owns C' b ob := by
 cases ob with
 | var x =>
   obtain ⟨cs, e, h1, h2⟩ := ho
   exact ⟨cs, e, (hb trivial).trans h1, h2.mono h⟩
 | row sz xs =>
   cases xs with
   | nil => exact .inl rfl
   | cons x xs =>
     rcases ho with ho | ⟨cs, e, css, h1, h2, h3⟩
     · cases ho
     · exact .inr ⟨cs, e, css, (hb trivial).trans h1, h2.mono h.zero, h3⟩
 | amap es =>
   obtain ⟨ms, clock, h1, ks, vs, h2, h3, h4⟩ := ho
   exact ⟨ms, clock, (hb trivial).trans h1, ks, vs, h2.mono h.zero, h3.mono h.zero, h4⟩
 | obj ob => exact (hb trivial).trans ho
 | tab g x => exact Rep.mono h _ _ ho
theorem Cx.Le.alloc (C : Cx) (o : Obj) : C.Le { C with w := C.w.alloc o } :=
 ⟨fun _ h => h, fun _ _ => rfl, fun _ h => h, fun _ _ hlt => heap_alloc_old C.w o _ hlt, by simp, fun b s hs => by
  have hlt : b < C.w.heap.size := by
   unfold World.shape? at hs
   rcases Nat.lt_or_ge b C.w.heap.size with h | h
   · exact h
   · simp [Array.getElem?_eq_none h] at hs
  unfold World.shape? at hs ⊢
  rw [heap_alloc_old C.w o b hlt]
  exact hs⟩
theorem Cx.Le.drew (C : Cx) : C.Le { C with w := C.w.drew } :=
 ⟨fun _ h => h, fun _ _ => rfl, fun _ h => h, fun _ _ _ => rfl, Nat.le_refl _, fun _ _ h => h⟩
theorem Cx.Le.grow (C : Cx) {ι' : Nat → Nat} {dom' im' : Nat → Prop} (hd : ∀ o, C.dom o → dom' o) (hι : ∀ o, C.dom o → ι' o = C.ι o) (hi : ∀ b, C.im b → im' b) :
 C.Le ⟨ι', dom', im', C.w⟩ :=
 ⟨hd, hι, hi, fun _ _ _ => rfl, Nat.le_refl _, fun _ _ h => h⟩
section
variable {E : Env} {hp : HP} {ι : Nat → Nat} {dom im : Nat → Prop} {w : World}
theorem HInv.drew (h : HInv E hp ι dom im w) : HInv E hp ι dom im w.drew :=
 ⟨fun o ob ho => (h.own o ob ho).mono (Cx.Le.drew ⟨ι, dom, im, w⟩) (fun _ => rfl), h.dm, h.lt, h.nim, h.inj, h.loc, h.imlt, h.imsub, h.im0, h.ext, h.size, h.os, h.tape, h.output, fun b s hs => h.sh b s hs, h.pin⟩
theorem HInv.allocIm (h : HInv E hp ι dom im w) (ob : Obj) : HInv E hp ι dom (fun b => im b ∨ b = w.heap.size) (w.alloc ob) := by
 have hle : Cx.Le ⟨ι, dom, im, w⟩ ⟨ι, dom, fun b => im b ∨ b = w.heap.size, w.alloc ob⟩ :=
  (Cx.Le.alloc ⟨ι, dom, im, w⟩ ob).trans (Cx.Le.grow ⟨ι, dom, im, w.alloc ob⟩ (fun _ h => h) (fun _ _ => rfl) (fun _ h => .inl h))
 refine ⟨fun o ob' ho => (h.own o ob' ho).mono hle (fun hr => heap_alloc_old w ob _ (h.lt o ob' ho hr)), h.dm, fun o ob' ho hr => by have := h.lt o ob' ho hr; simp; omega,
  fun o ob' ho hr hi => ?_, h.inj, h.loc, ?_, ?_, fun b hb => .inl (h.im0 b hb), fun b hb hn => ?_, by have := h.size; simp; omega, h.os, h.tape, h.output, fun b s hs => hle.shape b s (h.sh b s hs), h.pin⟩
 · rcases hi with hi | hi
   · exact h.nim o ob' ho hr hi
   · have := h.lt o ob' ho hr; omega
 · intro b hb
   rcases hb with hb | hb
   · have := h.imlt b hb; simp; omega
   · simp; omega
 · intro b hb
   rcases hb with hb | hb
   · exact h.imsub b hb
   · exact .inr (.inr (by have := h.size; omega))
 · exact (heap_alloc_old w ob b (by have := h.size; omega)).trans (h.ext b hb hn)
def updι (ι : Nat → Nat) (id b : Nat) : Nat → Nat := fun o => if o = id then b else ι o
theorem Cx.Le.upd {id b : Nat} (hid : ¬ dom id) : Cx.Le ⟨ι, dom, im, w⟩ ⟨updι ι id b, fun o => dom o ∨ o = id, im, w⟩ :=
 Cx.Le.grow ⟨ι, dom, im, w⟩ (fun _ h => .inl h) (fun o ho => by unfold updι; rw [if_neg (show o ≠ id from fun e => hid (e ▸ ho))]) (fun _ h => h)
theorem HInv.allocOwn (h : HInv E hp ι dom im w) {id : Nat} (hid : ¬ dom id) {ob : Obj} {ao : AO}
 (ho : Owns ⟨updι ι id w.heap.size, fun o => dom o ∨ o = id, im, w.alloc ob⟩ w.heap.size ao) :
 HInv E ((id, ao) :: hp) (updι ι id w.heap.size) (fun o => dom o ∨ o = id) im (w.alloc ob) := by
 have hle : Cx.Le ⟨ι, dom, im, w⟩ ⟨updι ι id w.heap.size, fun o => dom o ∨ o = id, im, w.alloc ob⟩ :=
  (Cx.Le.alloc ⟨ι, dom, im, w⟩ ob).trans (Cx.Le.upd hid)
 have hnew : updι ι id w.heap.size id = w.heap.size := by simp [updι]
 have hold : ∀ o ob', HP.get hp o = some ob' → updι ι id w.heap.size o = ι o := fun o ob' hg => by
  unfold updι; rw [if_neg (show o ≠ id from fun e => hid (e ▸ h.dm o ob' hg))]
 have cases' : ∀ o ob', HP.get ((id, ao) :: hp) o = some ob' → (o = id ∧ ob' = ao) ∨ HP.get hp o = some ob' := fun o ob' hg => by
  rw [HP.get_cons] at hg
  by_cases e : id = o
  · simp only [e, if_true, Option.some.injEq] at hg
    exact .inl ⟨e.symm, hg.symm⟩
  · simp only [e, if_false] at hg
    exact .inr hg
 refine ⟨fun o ob' hg => ?_, fun o ob' hg => ?_, fun o ob' hg hr => ?_, fun o ob' hg hr hi => ?_, fun o o' ob1 ob2 hg hg' hr hr' he => ?_, fun o ob' hg hr => ?_, fun b hb => ?_, h.imsub, h.im0, fun b hb hn => ?_,
  by have := h.size; simp; omega, h.os, h.tape, h.output, fun b s hs => hle.shape b s (h.sh b s hs), fun o ho => ⟨.inl (h.pin o ho).1, by rw [← (h.pin o ho).2]; unfold updι; rw [if_neg (show o ≠ id from fun e => hid (e ▸ (h.pin o ho).1))]⟩⟩
 · rcases cases' o ob' hg with ⟨rfl, rfl⟩ | hg
   · rw [hnew]; exact ho
   · rw [hold o ob' hg]; exact (h.own o ob' hg).mono hle (fun hr => heap_alloc_old w ob _ (h.lt o ob' hg hr))
 · rcases cases' o ob' hg with ⟨rfl, rfl⟩ | hg
   · exact .inr rfl
   · exact .inl (h.dm o ob' hg)
 · rcases cases' o ob' hg with ⟨rfl, rfl⟩ | hg
   · rw [hnew]; simp
   · rw [hold o ob' hg]; have := h.lt o ob' hg hr; simp; omega
 · rcases cases' o ob' hg with ⟨rfl, rfl⟩ | hg
   · rw [hnew] at hi; have := h.imlt _ hi; omega
   · rw [hold o ob' hg] at hi; exact h.nim o ob' hg hr hi
 · rcases cases' o ob1 hg with ⟨e1, _⟩ | hg1 <;> rcases cases' o' ob2 hg' with ⟨e2, _⟩ | hg2
   · rw [e1, e2]
   · rw [e1, hnew, hold o' ob2 hg2] at he; have := h.lt o' ob2 hg2 hr'; omega
   · rw [e2, hnew, hold o ob1 hg1] at he; have := h.lt o ob1 hg1 hr; omega
   · rw [hold o ob1 hg1, hold o' ob2 hg2] at he; exact h.inj o o' ob1 ob2 hg1 hg2 hr hr' he
 · rcases cases' o ob' hg with ⟨rfl, rfl⟩ | hg
   · rw [hnew]; exact .inr h.size
   · rw [hold o ob' hg]; exact h.loc o ob' hg hr
 · have := h.imlt b hb; simp; omega
 · exact (heap_alloc_old w ob b (by have := h.size; omega)).trans (h.ext b hb hn)
theorem HInv.write (h : HInv E hp ι dom im w) {w' : World} {o : Nat} {ao ao' : AO} (hg : HP.get hp o = some ao) (hreal : ao.real)
 (hsize : w'.heap.size = w.heap.size) (hos : w'.os = w.os) (htape : w'.tape = w.tape) (hout : w'.output = w.output)
 (hoth : ∀ b, b ≠ ι o → w'.heap[b]? = w.heap[b]?) (hsh : ∀ s, w.shape? (ι o) = some s → w'.shape? (ι o) = some s)
 (ho : Cx.Le ⟨ι, dom, im, w⟩ ⟨ι, dom, im, w'⟩ → Owns ⟨ι, dom, im, w'⟩ (ι o) ao') :
 HInv E (HP.set hp o ao') ι dom im w' ∧ Cx.Le ⟨ι, dom, im, w⟩ ⟨ι, dom, im, w'⟩ := by
 have hle : Cx.Le ⟨ι, dom, im, w⟩ ⟨ι, dom, im, w'⟩ :=
  ⟨fun _ h => h, fun _ _ => rfl, fun _ h => h, fun b hb _ => hoth b (fun e => h.nim o ao hg hreal (e ▸ hb)), by simp [hsize], fun b s hs => by
   by_cases e : b = ι o
   · subst e; exact hsh s hs
   · unfold World.shape? at hs ⊢
     simp only at hs ⊢
     rw [hoth b e]; exact hs⟩
 have ho := ho hle
 have cases' : ∀ o' ob', HP.get (HP.set hp o ao') o' = some ob' → (o' = o ∧ ob' = ao') ∨ (o' ≠ o ∧ HP.get hp o' = some ob') := fun o' ob' hg' => by
  rw [HP.get_set] at hg'
  by_cases e : o' = o
  · simp only [e, if_true, hg, Option.map_some, Option.some.injEq] at hg'
    exact .inl ⟨e, hg'.symm⟩
  · simp only [e, if_false] at hg'
    exact .inr ⟨e, hg'⟩
 have any : ∀ o' ob', HP.get (HP.set hp o ao') o' = some ob' → ob'.real → ∃ ob'', HP.get hp o' = some ob'' ∧ ob''.real := fun o' ob' hg' hr => by
  rcases cases' o' ob' hg' with ⟨rfl, _⟩ | ⟨_, h'⟩
  · exact ⟨ao, hg, hreal⟩
  · exact ⟨_, h', hr⟩
 refine ⟨⟨fun o' ob' hg' => ?_, fun o' ob' hg' => ?_, fun o' ob' hg' hr => ?_, fun o' ob' hg' hr => ?_, fun o1 o2 ob1 ob2 hg1 hg2 hr1 hr2 he => ?_, fun o' ob' hg' hr => ?_, fun b hb => by rw [hsize]; exact h.imlt b hb, h.imsub, h.im0, fun b hb hn => ?_,
  by rw [hsize]; exact h.size, hos.trans h.os, htape.trans h.tape, hout.trans h.output, fun b s hs => hle.shape b s (h.sh b s hs), h.pin⟩, hle⟩
 · rcases cases' o' ob' hg' with ⟨rfl, rfl⟩ | ⟨hne, hg'⟩
   · exact ho
   · exact (h.own o' ob' hg').mono hle (fun hr => hoth _ (fun e => hne (h.inj o' o ob' ao hg' hg hr hreal e)))
 · rcases cases' o' ob' hg' with ⟨rfl, rfl⟩ | ⟨hne, hg'⟩
   · exact h.dm _ _ hg
   · exact h.dm _ _ hg'
 · obtain ⟨ob'', hg'', hr''⟩ := any o' ob' hg' hr
   rw [hsize]; exact h.lt o' ob'' hg'' hr''
 · obtain ⟨ob'', hg'', hr''⟩ := any o' ob' hg' hr
   exact h.nim o' ob'' hg'' hr''
 · obtain ⟨ob1', hg1', hr1'⟩ := any o1 ob1 hg1 hr1
   obtain ⟨ob2', hg2', hr2'⟩ := any o2 ob2 hg2 hr2
   exact h.inj o1 o2 _ _ hg1' hg2' hr1' hr2' he
 · obtain ⟨ob'', hg'', hr''⟩ := any o' ob' hg' hr
   exact h.loc o' ob'' hg'' hr''
 · rw [hoth b (fun e => ?_)]
   · exact h.ext b hb hn
   · rcases h.loc o ao hg hreal with hl | hl
     · exact hn (e ▸ hl)
     · omega
end
def Yields (P : Program) (E : Env) (ι : Nat → Nat) (dom im : Nat → Prop) (w : World) (id : Nat) (x : Sem Value) (K : AV → HP → Prop) : Prop :=
 ∃ v hp' ι' dom' im' w' val, K v hp' ∧ x.run P w = .ok val w' ∧ HInv E hp' ι' dom' im' w' ∧ Cx.Le ⟨ι, dom, im, w⟩ ⟨ι', dom', im', w'⟩ ∧ RepS ⟨ι', dom', im', w'⟩ v val ∧ (∀ o, dom' o → dom o ∨ o = id)
section
variable {P : Program} {E : Env} {hp : HP} {ι : Nat → Nat} {dom im : Nat → Prop} {w : World} {id : Nat} {K : AV → HP → Prop}
theorem Yields.same (h : HInv E hp ι dom im w) {x : Sem Value} {v : AV} {val : Value} (hk : K v hp) (hr : x.run P w = .ok val w) (hv : RepS ⟨ι, dom, im, w⟩ v val) :
 Yields P E ι dom im w id x K := ⟨v, hp, ι, dom, im, w, val, hk, hr, h, Cx.Le.refl _, hv, fun _ h => .inl h⟩
theorem RepS.of {C : Cx} {x : AV} {v : Value} (h : RepV C x v) : RepS C x v := by
 cases x <;> first | exact h | (simp [RepV, Rep] at h; done)
theorem RepS.notup {C : Cx} {x : AV} {v : Value} (h : RepS C x v) (hx : x.isTup = false) : RepV C x v := by
 cases x <;> first | exact h | (simp [AV.isTup] at hx; done)
end
end Go.Ab
namespace Go.Ab
open Go.RowKit
theorem RepV.agg_of {C : Cx} {x : AV} {v : Value} (h : RepV C x v) (ha : x.agg = true) : ∃ cs : List Value, v = .agg cs.toArray ∧ Rep C x cs := by
 obtain ⟨h1, h2, h3⟩ := h
 rw [ha] at h2
 cases v <;> simp [isAggV] at h2
 rename_i cs
 exact ⟨cs.toList, by simp, by simpa [Value.cells] using h1⟩
theorem run_part' {P : Program} {C : Cx} {t : TypeId} {x : AV} {cs : List Value} {off : Nat} (hx : Rep C x ((cs.drop off).take x.len)) (w : World)
 (ha : tAgg P t = some x.agg) (hs : tSize P t = some x.len) : ∃ v, (part t cs.toArray off).run P w = .ok v w ∧ RepV C x v := by
 have hl := Rep.length x _ hx
 unfold part
 simp only [Sem.run_bind, run_isAgg' ha, Result.andThen_ok]
 cases hagg : x.agg with
 | true =>
   refine ⟨.agg ((cs.drop off).take x.len).toArray, ?_, by simpa [Value.cells] using hx, by simp [isAggV, hagg], rfl⟩
   simp only [if_true, Sem.run_bind, run_sizeOf' hs, Result.andThen_ok, Sem.run_pure]
   congr 2
   apply Array.ext'
   simp [List.extract]
 | false =>
   obtain ⟨u, hu, hsc⟩ := hx.single hagg
   have h1 : x.len = 1 := by cases x <;> first | rfl | (simp [AV.agg] at hagg; done)
   rw [h1, List.take_one] at hu
   have h0 : cs[off]? = some u := by
    rw [← List.head?_drop]
    cases hh : (cs.drop off).head? with
    | none => simp [hh] at hu
    | some v => simp [hh] at hu; rw [hu]
   refine ⟨u, ?_, ?_, by rw [hsc.1, hagg], hsc.2⟩
   · simp [h0]
   · rw [hsc.cells, ← hu, ← List.take_one, ← h1]; exact hx
mutual
def fits (P : Program) : AV → TypeId → Bool
 | .bool _, t => match P.underlying t with | some .bool => true | _ => false
 | .int k _, t => match P.underlying t with | some (.int k') => decide (k' = k) | _ => false
 | .str _, t => match P.underlying t with | some .string => true | _ => false
 | .root _, t => match P.underlying t with
   | some (.array n e) => decide (n = 32) && (match P.underlying e with | some (.int .u8) => true | _ => false) && decide (tSize P e = some 1)
   | _ => false
 | .st fs, t => match P.underlying t with
   | some (.struct fl) => !P.stoodInHeld t && fitsL P fs fl.toList 0
   | _ => false
 | _, _ => false
def fitsL (P : Program) : List AV → List Field → Nat → Bool
 | [], [], _ => true
 | x :: xs, f :: fl, off => decide (f.name ≠ "_") && decide (f.offset = off) && decide (tAgg P f.type = some x.agg) && decide (tSize P f.type = some x.len) && fits P x f.type && fitsL P xs fl (off + x.len)
 | _, _, _ => false
end
mutual
def AV.eqb : AV → AV → Bool
 | .bool a, .bool b => a == b
 | .int _ a, .int _ b => a == b
 | .str a, .str b => a.toList == b.toList
 | .root a, .root b => decide (a = b)
 | .st xs, .st ys => AV.eqbL xs ys
 | _, _ => false
def AV.eqbL : List AV → List AV → Bool
 | [], [] => true
 | x :: xs, y :: ys => x.eqb y && AV.eqbL xs ys
 | _, _ => false
end
mutual
def AV.depth : AV → Nat
 | .st fs => AV.depths fs + 1
 | _ => 1
def AV.depths : List AV → Nat
 | [] => 0
 | x :: xs => max x.depth (AV.depths xs)
end
section
variable {P : Program} {C : Cx}
mutual
theorem equal_sound : ∀ (x y : AV) (d : Nat) (t : TypeId) (vx vy : Value) (w : World), fits P x t = true → fits P y t = true → x.depth ≤ d → RepV C x vx → RepV C y vy →
 (Op.equalIn (d + 1) t vx vy).run P w = .ok (x.eqb y) w
 | .bool a, y, d, t, vx, vy, w, hx, hy, hd, rx, ry => by
   simp only [fits] at hx
   split at hx
   · rename_i hu
     have hx2 := (scalar.cells (v := vx) ⟨by rw [rx.2.1]; rfl, rx.2.2⟩)
     cases y <;> simp only [fits, hu] at hy <;> try (simp at hy; done)
     rename_i b
     have e1 := rx.1; have e2 := ry.1
     have hy2 := (scalar.cells (v := vy) ⟨by rw [ry.2.1]; rfl, ry.2.2⟩)
     rw [hx2] at e1; rw [hy2] at e2
     simp [Rep] at e1 e2
     subst e1; subst e2
     exact run_equalIn_bool w d t a b hu
   · cases hx
 | .int k a, y, d, t, vx, vy, w, hx, hy, hd, rx, ry => by
   simp only [fits] at hx
   split at hx
   · rename_i k' hu
     have hx2 := (scalar.cells (v := vx) ⟨by rw [rx.2.1]; rfl, rx.2.2⟩)
     cases y <;> simp only [fits, hu] at hy <;> try (simp at hy; done)
     rename_i k2 b
     simp at hx hy
     subst hx; subst hy
     have e1 := rx.1; have e2 := ry.1
     have hy2 := (scalar.cells (v := vy) ⟨by rw [ry.2.1]; rfl, ry.2.2⟩)
     rw [hx2] at e1; rw [hy2] at e2
     simp [Rep] at e1 e2
     subst e1; subst e2
     exact run_equalIn_int w d t _ _ a b hu
   · cases hx
 | .str a, y, d, t, vx, vy, w, hx, hy, hd, rx, ry => by
   simp only [fits] at hx
   split at hx
   · rename_i hu
     have hx2 := (scalar.cells (v := vx) ⟨by rw [rx.2.1]; rfl, rx.2.2⟩)
     cases y <;> simp only [fits, hu] at hy <;> try (simp at hy; done)
     rename_i b
     have e1 := rx.1; have e2 := ry.1
     have hy2 := (scalar.cells (v := vy) ⟨by rw [ry.2.1]; rfl, ry.2.2⟩)
     rw [hx2] at e1; rw [hy2] at e2
     simp [Rep] at e1 e2
     subst e1; subst e2
     exact run_equalIn_string w d t a b hu
   · cases hx
 | .root a, y, d, t, vx, vy, w, hx, hy, hd, rx, ry => by
   simp only [fits] at hx
   split at hx
   · rename_i n e hu
     simp only [Bool.and_eq_true, decide_eq_true_eq] at hx
     obtain ⟨⟨hn, he⟩, hs⟩ := hx
     split at he
     · rename_i hue
       cases y <;> simp only [fits, hu] at hy <;> try (simp at hy; done)
       rename_i b
       obtain ⟨ca, rfl, h1⟩ := rx.agg_of rfl
       obtain ⟨cb, rfl, h2⟩ := ry.agg_of rfl
       simp only [Rep] at h1 h2
       subst h1; subst h2
       obtain ⟨d, rfl⟩ : ∃ m, d = m + 1 := ⟨d - 1, by simp [AV.depth] at hd; omega⟩
       have := run_equalIn_bytes w d t e n hu hue (fun w => run_sizeOf' hs w) a.1 b.1 (a.2.trans hn.symm) (b.2.trans hn.symm)
       have e3 : (a.1 == b.1) = AV.eqb (.root a) (.root b) := by
        simp only [AV.eqb]
        rw [Bool.eq_iff_iff]
        simp [Subtype.ext_iff]
       rw [← e3]
       exact this
     · cases he
   · cases hx
 | .st xs, y, d, t, vx, vy, w, hx, hy, hd, rx, ry => by
   simp only [fits] at hx
   split at hx
   · rename_i fl hu
     cases y <;> simp only [fits, hu] at hy <;> try (simp at hy; done)
     rename_i ys
     simp only [Bool.and_eq_true, Bool.not_eq_true'] at hx hy
     obtain ⟨ca, rfl, h1⟩ := rx.agg_of rfl
     obtain ⟨cb, rfl, h2⟩ := ry.agg_of rfl
     simp only [Rep] at h1 h2
     obtain ⟨cssa, h1, rfl⟩ := h1
     obtain ⟨cssb, h2, rfl⟩ := h2
     have hfl : P.fieldsOf t = fl := by simp [Program.fieldsOf, hu]
     obtain ⟨d, rfl⟩ : ∃ m, d = m + 1 := ⟨d - 1, by simp [AV.depth] at hd; omega⟩
     rw [run_equalIn_struct w (d + 1) t _ _ (by rw [hfl]; exact hu) hx.1, hfl]
     have := equalL_sound xs ys d fl.toList [] [] cssa cssb w 0 hx.2 hy.2 (by simp [AV.depth] at hd; omega) h1 h2 (by simp) (by simp)
     simpa [AV.eqb] using this
   · cases hx
 | .arr _, _, _, _, _, _, _, hx, _, _, _, _ => by simp [fits] at hx
 | .sl _ _, _, _, _, _, _, _, hx, _, _, _, _ => by simp [fits] at hx
 | .ms _ _ _, _, _, _, _, _, _, hx, _, _, _, _ => by simp [fits] at hx
 | .ref _, _, _, _, _, _, _, hx, _, _, _, _ => by simp [fits] at hx
 | .ptr _ _ _, _, _, _, _, _, _, hx, _, _, _, _ => by simp [fits] at hx
 | .nilp, _, _, _, _, _, _, hx, _, _, _, _ => by simp [fits] at hx
 | .mp _, _, _, _, _, _, _, hx, _, _, _, _ => by simp [fits] at hx
 | .fn _ _ _, _, _, _, _, _, _, hx, _, _, _, _ => by simp [fits] at hx
 | .nilf, _, _, _, _, _, _, hx, _, _, _, _ => by simp [fits] at hx
 | .tup _, _, _, _, _, _, _, hx, _, _, _, _ => by simp [fits] at hx
 | .raw _, _, _, _, _, _, _, hx, _, _, _, _ => by simp [fits] at hx
theorem equalL_sound : ∀ (xs ys : List AV) (d : Nat) (fl : List Field) (pa pb : List Value) (cssa cssb : List (List Value)) (w : World) (off : Nat), fitsL P xs fl off = true → fitsL P ys fl off = true → AV.depths xs ≤ d →
 RepL C xs cssa → RepL C ys cssb → pa.length = off → pb.length = off →
 (Op.eqFields (d + 1) (pa ++ cssa.flatten).toArray (pb ++ cssb.flatten).toArray fl).run P w = .ok (AV.eqbL xs ys) w
 | [], ys, d, fl, pa, pb, cssa, cssb, w, off, hx, hy, hd, h1, h2, ha, hb => by
   cases fl with
   | nil =>
     cases ys with
     | nil => simp [Op.eqFields, AV.eqbL]
     | cons _ _ => simp [fitsL] at hy
   | cons _ _ => simp [fitsL] at hx
 | x :: xs, ys, d, fl, pa, pb, cssa, cssb, w, off, hx, hy, hd, h1, h2, ha, hb => by
   cases fl with
   | nil => simp [fitsL] at hx
   | cons f fl =>
     cases ys with
     | nil => simp [fitsL] at hy
     | cons y ys =>
       simp only [fitsL, Bool.and_eq_true, decide_eq_true_eq] at hx hy
       obtain ⟨⟨⟨⟨⟨hn, ho⟩, hag⟩, hsz⟩, hf⟩, hr⟩ := hx
       obtain ⟨⟨⟨⟨⟨_, _⟩, hag'⟩, hsz'⟩, hf'⟩, hr'⟩ := hy
       simp only [RepL] at h1 h2
       obtain ⟨ca, ra, rfl, h3, h4⟩ := h1
       obtain ⟨cb, rb, rfl, h5, h6⟩ := h2
       have la := Rep.length x ca h3
       have lb := Rep.length y cb h5
       have hlen : y.len = x.len := by rw [hsz] at hsz'; simpa using hsz'.symm
       have e1 : ((pa ++ (ca ++ ra.flatten)).drop f.offset).take x.len = ca := by
        rw [ho, ← ha, List.drop_left, ← la, List.take_left]
       have e2 : ((pb ++ (cb ++ rb.flatten)).drop f.offset).take y.len = cb := by
        rw [ho, ← hb, List.drop_left, ← lb, List.take_left]
       obtain ⟨va, p1, r1⟩ := run_part' (P := P) (C := C) (t := f.type) (x := x) (cs := pa ++ (ca ++ ra.flatten)) (off := f.offset) (by rw [e1]; exact h3) w hag hsz
       obtain ⟨vb, p2, r2⟩ := run_part' (P := P) (C := C) (t := f.type) (x := y) (cs := pb ++ (cb ++ rb.flatten)) (off := f.offset) (by rw [e2]; exact h5) w hag' hsz'
       simp only [AV.depths] at hd
       have q := equal_sound x y d f.type va vb w hf hf' (by omega) r1 r2
       have ih := equalL_sound xs ys d fl (pa ++ ca) (pb ++ cb) ra rb w (off + x.len) hr (by rw [← hlen]; exact hr') (by omega) h4 h6 (by simp [ha, la]) (by simp [hb, lb, hlen])
       simp only [List.flatten_cons, Op.eqFields, ne_eq, hn, not_false_iff, if_true, Sem.run_bind, p1, p2, q, Result.andThen_ok, AV.eqbL]
       cases hq : x.eqb y with
       | false => simp
       | true =>
         simp only [Bool.not_true, Bool.false_eq_true, if_false, Bool.true_and]
         simpa only [List.append_assoc] using ih
end
end
end Go.Ab
namespace Go.Ab
open Go.RowKit
def bitsI (op : BinOp) (k : IntKind) (a b : Int) : Int :=
 let x := BitVec.ofInt k.bits a
 let y := BitVec.ofInt k.bits b
 match op with
 | .and => k.wrap (x &&& y).toNat
 | .or => k.wrap (x ||| y).toNat
 | .xor => k.wrap (x ^^^ y).toNat
 | _ => k.wrap (x &&& ~~~y).toNat
def intsOf (k : IntKind) : List AV → Option (List Int)
 | [] => some []
 | .int k' n :: r => if k' = k then (intsOf k r).map (n :: ·) else none
 | _ => none
def arrInts (P : Program) (t : TypeId) (xs : List AV) : Option (List Int) :=
 match P.underlying t with
 | some (.array n e) => match P.underlying e with
   | some (.int k) => if n = xs.length ∧ tSize P e = some 1 then intsOf k xs else none
   | _ => none
 | _ => none
def binK (P : Program) (op : BinOp) (t : TypeId) (x y : AV) (K : AV → Prop) : Prop :=
 match x, y with
 | .int k a, .int k' b =>
   match op with
   | .shl => 0 ≤ b ∧ K (.int k (k.wrap (a * 2 ^ (min b.toNat k.bits))))
   | .shr => 0 ≤ b ∧ K (.int k (a.fdiv (2 ^ (min b.toNat k.bits))))
   | .add => k = k' ∧ K (.int k (k.wrap (a + b)))
   | .sub => k = k' ∧ K (.int k (k.wrap (a - b)))
   | .mul => k = k' ∧ K (.int k (k.wrap (a * b)))
   | .quo => k = k' ∧ b ≠ 0 ∧ K (.int k (k.wrap (a.tdiv b)))
   | .rem => k = k' ∧ b ≠ 0 ∧ K (.int k (a.tmod b))
   | .and => k = k' ∧ K (.int k (bitsI .and k a b))
   | .or => k = k' ∧ K (.int k (bitsI .or k a b))
   | .xor => k = k' ∧ K (.int k (bitsI .xor k a b))
   | .andNot => k = k' ∧ K (.int k (bitsI .andNot k a b))
   | .eql => k = k' ∧ K (.bool (a == b))
   | .neq => k = k' ∧ K (.bool (a != b))
   | .lss => k = k' ∧ K (.bool (decide (a < b)))
   | .leq => k = k' ∧ K (.bool (decide (a ≤ b)))
   | .gtr => k = k' ∧ K (.bool (decide (b < a)))
   | .geq => k = k' ∧ K (.bool (decide (b ≤ a)))
 | .str a, .str b =>
   match op with
   | .eql => K (.bool (a.toList == b.toList))
   | .neq => K (.bool !(a.toList == b.toList))
   | _ => False
 | .arr xs, .arr ys =>
   match op, arrInts P t xs, arrInts P t ys with
   | .eql, some a, some b => P.eqGuardType P.depth t = false ∧ K (.bool (a == b))
   | .neq, some a, some b => P.eqGuardType P.depth t = false ∧ K (.bool !(a == b))
   | _, _, _ => False
 | x, y =>
   match op with
   | .eql => fits P x t = true ∧ fits P y t = true ∧ x.depth ≤ 9999 ∧ P.eqGuardType P.depth t = false ∧ K (.bool (x.eqb y))
   | .neq => fits P x t = true ∧ fits P y t = true ∧ x.depth ≤ 9999 ∧ P.eqGuardType P.depth t = false ∧ K (.bool !(x.eqb y))
   | _ => False
def unK (op : UnOp) (x : AV) (K : AV → Prop) : Prop :=
 match op, x with
 | .not, .bool b => K (.bool !b)
 | .neg, .int k n => K (.int k (k.wrap (0 - n)))
 | .xor, .int k n => K (.int k (bitsI .xor k (if k.signed then -1 else k.max) n))
 | _, _ => False
section
variable {P : Program} {E : Env} {hp : HP} {ι : Nat → Nat} {dom im : Nat → Prop} {w : World} {id : Nat} {K : AV → HP → Prop}
theorem RepT.isS {C : Cx} {x : AV} {v : Value} (h : RepT C x v) (hx : ∀ u, x ≠ .raw u) : RepS C x v := by
 rcases h with ⟨u, rfl, _⟩ | h
 · exact absurd rfl (hx u)
 · exact h
theorem RepT.int_of {C : Cx} {k : IntKind} {n : Int} {v : Value} (h : RepT C (.int k n) v) : v = .int k n := by
 have h := h.isS (by simp)
 have h1 := h.1
 rw [scalar.cells ⟨h.2.1, h.2.2⟩] at h1
 simpa [Rep] using h1
theorem RepT.bool_of {C : Cx} {b : Bool} {v : Value} (h : RepT C (.bool b) v) : v = .bool b := by
 have h := h.isS (by simp)
 have h1 := h.1
 rw [scalar.cells ⟨h.2.1, h.2.2⟩] at h1
 simpa [Rep] using h1
theorem RepT.str_of {C : Cx} {b : ByteArray} {v : Value} (h : RepT C (.str b) v) : v = .string b := by
 have h := h.isS (by simp)
 have h1 := h.1
 rw [scalar.cells ⟨h.2.1, h.2.2⟩] at h1
 simpa [Rep] using h1
theorem RepT.V {C : Cx} {x : AV} {v : Value} (h : RepT C x v) (hx : ∀ u, x ≠ .raw u) (ht : x.isTup = false) : RepV C x v := (h.isS hx).notup ht
theorem RepT.one {C : Cx} {x : AV} {v : Value} (h : RepT C x v) (hx : ∀ u, x ≠ .raw u) (ht : x.isTup = false) (ha : x.agg = false) : Rep C x [v] := by
 have h := h.V hx ht
 have h1 := h.1
 rw [scalar.cells ⟨h.2.1.trans ha, h.2.2⟩] at h1
 simpa using h1
theorem repS_int {C : Cx} (k : IntKind) (n : Int) : RepT C (.int k n) (.int k n) := .inr ⟨by simp [Rep, Value.cells], rfl, rfl⟩
theorem repS_bool {C : Cx} (b : Bool) : RepT C (.bool b) (.bool b) := .inr ⟨by simp [Rep, Value.cells], rfl, rfl⟩
theorem repS_str {C : Cx} (b : ByteArray) : RepT C (.str b) (.string b) := .inr ⟨by simp [Rep, Value.cells], rfl, rfl⟩
theorem fits_notraw {P : Program} {x : AV} {t : TypeId} (h : fits P x t = true) : (∀ u, x ≠ .raw u) ∧ x.isTup = false := by
 cases x <;> first | (simp [fits] at h; done) | exact ⟨fun _ => by simp, rfl⟩
theorem run_eqGuard' {op : BinOp} {t : TypeId} {x y : Operand} {a b : Value} (hg : P.eqGuardType P.depth t = false) (hn : a ≠ .nilIface) (w : World) : (eqGuard op t x y a b).run P w = .ok () w := by
 unfold eqGuard
 split
 · simp only [Bool.not_true, Bool.false_eq_true, if_false]
   split
   · exact absurd rfl hn
   · simp [hg]
   · simp
 · simp only [Bool.not_true, Bool.false_eq_true, if_false]
   split
   · exact absurd rfl hn
   · simp [hg]
   · simp
 · simp
theorem intsOf_eq {k : IntKind} : ∀ (xs : List AV) (a : List Int), intsOf k xs = some a → xs = a.map (AV.int k)
 | [], a, h => by simp only [intsOf, Option.some.injEq] at h; subst h; rfl
 | x :: xs, a, h => by
   cases x <;> simp only [intsOf] at h <;> try (cases h; done)
   split at h
   · rename_i hk
     subst hk
     cases hr : intsOf _ xs with
     | none => rw [hr] at h; cases h
     | some r =>
       rw [hr] at h
       simp only [Option.map_some, Option.some.injEq] at h
       subst h
       rw [intsOf_eq xs r hr, List.map_cons]
   · cases h
theorem arrInts_spec {t : TypeId} {xs : List AV} {a : List Int} (h : arrInts P t xs = some a) : ∃ e k, P.underlying t = some (.array a.length e) ∧ P.underlying e = some (.int k) ∧ tSize P e = some 1 ∧ xs = a.map (AV.int k) := by
 unfold arrInts at h
 split at h
 · rename_i n e hu
   split at h
   · rename_i k hue
     split at h
     · rename_i hc
       have := intsOf_eq xs a h
       refine ⟨e, k, ?_, hue, hc.2, this⟩
       rw [hu, hc.1, this, List.length_map]
     · cases h
   · cases h
 · cases h
theorem repL_ints {C : Cx} {k : IntKind} : ∀ (a : List Int) (css : List (List Value)), RepL C (a.map (AV.int k)) css → css.flatten = a.map (Value.int k)
 | [], css, h => by simp only [List.map_nil, RepL] at h; subst h; rfl
 | n :: a, css, h => by
   simp only [List.map_cons, RepL, Rep] at h
   obtain ⟨c, r, rfl, rfl, h2⟩ := h
   simp [repL_ints a r h2]
theorem all_range_ints (xs ys : List Int) (h : xs.length = ys.length) : ((List.range xs.length).all fun i => xs.getD i 0 == ys.getD i 0) = (xs == ys) := by
 rw [Bool.eq_iff_iff, List.all_eq_true, beq_iff_eq]
 constructor
 · intro hh
   apply List.ext_getElem h
   intro i h1 h2
   have := hh i (List.mem_range.2 h1)
   simpa [h1, h2] using this
 · rintro rfl i _
   simp
theorem run_equalIn_ints (w : World) (d : Nat) (t e : TypeId) (n : Nat) (k : IntKind) (ht : P.underlying t = some (.array n e)) (he : P.underlying e = some (.int k)) (hsz : ∀ w, (sizeOf e).run P w = .ok 1 w)
 (xs ys : List Int) (hx : xs.length = n) (hy : ys.length = n) :
 (Op.equalIn (d + 2) t (.agg (xs.map (Value.int k)).toArray) (.agg (ys.map (Value.int k)).toArray)).run P w = .ok (xs == ys) w := by
 rw [← all_range_ints xs ys (hx.trans hy.symm), hx, List.range_eq_range', Op.equalIn]
 simp only [Sem.run_bind, run_underlying ht, Result.andThen_ok, hsz, Std.Legacy.Range.forIn_eq_forIn_range', Std.Legacy.Range.size, Nat.sub_zero, Nat.add_sub_cancel, Nat.div_one]
 have hl : ∀ i ∈ List.range' 0 n 1, i < n := fun i hi => by simpa using (List.mem_range'_1.1 hi).2
 generalize List.range' 0 n 1 = l at hl ⊢
 induction l with
 | nil => simp
 | cons i l ih =>
   have hi : i < n := hl i (by simp)
   have px : (part e (xs.map (Value.int k)).toArray (i * 1)).run P w = .ok (.int k (xs.getD i 0)) w := by
    simp [part, isAgg, run_underlying he, List.getD, List.getElem?_eq_getElem (show i < xs.length by omega)]
   have py : (part e (ys.map (Value.int k)).toArray (i * 1)).run P w = .ok (.int k (ys.getD i 0)) w := by
    simp [part, isAgg, run_underlying he, List.getD, List.getElem?_eq_getElem (show i < ys.length by omega)]
   have pe : (Op.equalIn (d + 1) e (.int k (xs.getD i 0)) (.int k (ys.getD i 0))).run P w = .ok (xs.getD i 0 == ys.getD i 0) w :=
    run_equalIn_int w d e k k _ _ he
   simp only [List.forIn_cons, Sem.run_bind, px, py, pe, Result.andThen_ok, List.all_cons]
   cases hb : (xs.getD i 0 == ys.getD i 0)
   · simp
   · simp only [Bool.not_true, Bool.false_eq_true, if_false, Sem.run_pure, Result.andThen_ok, Bool.true_and]
     exact ih fun j hj => hl j (by simp [hj])
theorem arr_sound {t : TypeId} {xs ys : List AV} {a b : List Int} {va vb : Value} {C : Cx} (w : World) (hx : RepT C (.arr xs) va) (hy : RepT C (.arr ys) vb) (ha : arrInts P t xs = some a) (hb : arrInts P t ys = some b) :
 (Op.equal t va vb).run P w = .ok (a == b) w ∧ (∃ cs, va = .agg cs) := by
 obtain ⟨e, k, hu, hue, hs, rfl⟩ := arrInts_spec ha
 obtain ⟨e', k', hu', hue', hs', rfl⟩ := arrInts_spec hb
 rw [hu] at hu'
 injection hu' with hu'
 injection hu' with hl he
 subst he
 rw [hue] at hue'
 injection hue' with hue'
 injection hue' with hk
 subst hk
 obtain ⟨ca, rfl, h1⟩ := (hx.V (fun _ h => by cases h) rfl).agg_of rfl
 obtain ⟨cb, rfl, h2⟩ := (hy.V (fun _ h => by cases h) rfl).agg_of rfl
 simp only [Rep] at h1 h2
 obtain ⟨css, h1, rfl⟩ := h1
 obtain ⟨css', h2, rfl⟩ := h2
 rw [repL_ints a css h1, repL_ints b css' h2]
 exact ⟨run_equalIn_ints w 9998 t e a.length k hu hue (fun w => run_sizeOf' hs w) a b rfl hl.symm, _, rfl⟩
theorem bin_sound {op : BinOp} {t : TypeId} {x y : AV} {ox oy : Operand} {a b : Value} {K : AV → Prop} {C : Cx} (w : World) (hx : RepT C x a) (hy : RepT C y b) (hk : binK P op t x y K) :
 ∃ r v, K r ∧ (do eqGuard op t ox oy a b; binOp op t a b : Sem Value).run P w = .ok v w ∧ RepT C r v := by
 have gen : (op = .eql ∨ op = .neq) → fits P x t = true → fits P y t = true → x.depth ≤ 9999 → P.eqGuardType P.depth t = false → (∀ k m k' n, x = .int k m → y = .int k' n → False) → (∀ m n, x = .str m → y = .str n → False) →
  K (.bool (if op = .eql then x.eqb y else !(x.eqb y))) → ∃ r v, K r ∧ (do eqGuard op t ox oy a b; binOp op t a b : Sem Value).run P w = .ok v w ∧ RepT C r v := by
  intro ho h1 h2 h3 h4 hi hs hk
  have rx := hx.V (fits_notraw h1).1 (fits_notraw h1).2
  have ry := hy.V (fits_notraw h2).1 (fits_notraw h2).2
  have he := equal_sound (P := P) (C := C) x y 9999 t a b w h1 h2 h3 rx ry
  have hn : a ≠ .nilIface := by
   rintro rfl
   cases x <;> first | (simp [fits] at h1; done) | (simp [RepV, Rep, Value.cells, isAggV, AV.agg] at rx; done)
  refine ⟨_, .bool (if op = .eql then x.eqb y else !(x.eqb y)), hk, ?_, repS_bool _⟩
  simp only [Sem.run_bind, run_eqGuard' h4 hn, Result.andThen_ok]
  have hb : ∀ k n, a ≠ .int k n := by
   intro k n ha
   subst ha
   cases x <;> simp [RepV, Rep, Value.cells, isAggV, AV.agg] at rx <;> try (simp [fits] at h1; done)
   clear rx
   simp only [fits] at h1
   split at h1
   · rename_i k' hu
     cases y <;> simp only [fits, hu] at h2 <;> try (simp at h2; done)
     exact hi _ _ _ _ rfl rfl
   · cases h1
  have hs : ∀ m, a ≠ .string m := by
   intro m ha
   subst ha
   cases x <;> simp [RepV, Rep, Value.cells, isAggV, AV.agg] at rx <;> try (simp [fits] at h1; done)
   clear rx
   simp only [fits] at h1
   split at h1
   · rename_i hu
     cases y <;> simp only [fits, hu] at h2 <;> try (simp at h2; done)
     exact hs _ _ rfl rfl
   · cases h1
  have key : ∀ o, o = .eql ∨ o = .neq → binOp o t a b = if o = .eql then (do pure (.bool (← Op.equal t a b))) else (do pure (.bool (!(← Op.equal t a b)))) := by
   intro o ho
   have nof : ∀ k n, a ≠ .float k n := by
    rintro k n rfl
    cases x <;> first | (simp [fits] at h1; done) | (simp [RepV, Rep, Value.cells, isAggV, AV.agg] at rx; done)
   have noc : ∀ k n m, a ≠ .complex k n m := by
    rintro k n m rfl
    cases x <;> first | (simp [fits] at h1; done) | (simp [RepV, Rep, Value.cells, isAggV, AV.agg] at rx; done)
   rcases ho with rfl | rfl <;> cases a <;> first | (exact absurd rfl (hb _ _)) | (exact absurd rfl (nof _ _)) | (exact absurd rfl (noc _ _ _)) | (exact absurd rfl (hs _)) | (simp [binOp]; done)
  rw [key op ho]
  have he' : (Op.equal t a b).run P w = .ok (x.eqb y) w := he
  rcases ho with rfl | rfl
  · simp [he']
  · simp [he']
 unfold binK at hk
 split at hk
 · rename_i k m k' n
   have ha := RepT.int_of hx
   have hb := RepT.int_of hy
   subst ha; subst hb
   have eg : ∀ o : BinOp, (eqGuard o t ox oy (.int k m) (.int k' n)).run P w = .ok () w := fun o => by
    unfold eqGuard; split <;> simp
   cases op <;> simp only at hk <;> first
    | exact hk.elim
    | (obtain ⟨rfl, h0, hk⟩ := hk
       exact ⟨_, _, hk, by simp [eg, binOp, Op.intDiv, h0], repS_int _ _⟩)
    | (obtain ⟨rfl, hk⟩ := hk
       refine ⟨_, _, hk, ?_, by first | exact repS_int _ _ | exact repS_bool _⟩
       simp [eg, binOp, Op.intArith, Op.intBits, Op.intCmp, bitsI])
    | (obtain ⟨h0, hk⟩ := hk
       exact ⟨_, _, hk, by simp [eg, binOp, Op.shift, show ¬ n < 0 by omega], repS_int _ _⟩)
 · rename_i m n
   have ha := RepT.str_of hx
   have hb := RepT.str_of hy
   subst ha; subst hb
   have eg : ∀ o : BinOp, (eqGuard o t ox oy (.string m) (.string n)).run P w = .ok () w := fun o => by
    unfold eqGuard; split <;> simp
   cases op <;> simp only at hk <;> first
    | exact hk.elim
    | exact ⟨_, _, hk, by simp [eg, binOp, Op.stringOp], repS_bool _⟩
 · split at hk
   · rename_i ha hb
     obtain ⟨he, cs, rfl⟩ := arr_sound (P := P) w hx hy ha hb
     refine ⟨_, _, hk.2, ?_, repS_bool _⟩
     have hn : Value.agg cs ≠ .nilIface := by simp
     simp [run_eqGuard' hk.1 hn, binOp, he]
   · rename_i ha hb
     obtain ⟨he, cs, rfl⟩ := arr_sound (P := P) w hx hy ha hb
     refine ⟨_, _, hk.2, ?_, repS_bool _⟩
     have hn : Value.agg cs ≠ .nilIface := by simp
     simp [run_eqGuard' hk.1 hn, binOp, he]
   · exact hk.elim
 · rename_i hni hns _
   cases op <;> simp only at hk <;> first
    | exact hk.elim
    | (obtain ⟨h1, h2, h3, h4, hk⟩ := hk; exact gen (by simp) h1 h2 h3 h4 hni hns (by simpa using hk))
theorem un_sound {op : UnOp} {x : AV} {a : Value} {K : AV → Prop} {C : Cx} (w : World) (hx : RepT C x a) (hk : unK op x K) :
 ∃ r v, K r ∧ (Op.unary op a).run P w = .ok v w ∧ RepT C r v := by
 unfold unK at hk
 split at hk
 · have ha := RepT.bool_of hx
   subst ha
   exact ⟨_, _, hk, by simp [Op.unary], repS_bool _⟩
 · have ha := RepT.int_of hx
   subst ha
   exact ⟨_, _, hk, by simp [Op.unary, Op.intArith], repS_int _ _⟩
 · have ha := RepT.int_of hx
   subst ha
   exact ⟨_, _, hk, by simp [Op.unary, Op.intBits, bitsI], repS_int _ _⟩
 · exact hk.elim
def byteOf : AV → UInt8
 | .int _ n => UInt8.ofNat n.toNat
 | _ => 0
def isByte : AV → Prop
 | .int .u8 _ => True
 | _ => False
def isSl : TypeDesc → Bool
 | .slice _ => true
 | _ => false
def elemsOf (hp : HP) : AV → Option (List AV)
 | .sl xs _ => some xs
 | .ms o sz n => match HP.get hp o with
   | some (.row sz' xs) => if sz = sz' ∧ n = xs.length then some xs else none
   | some (.var (.root r)) => if sz = 1 ∧ n = 32 then some (r.1.map fun b => .int .u8 b.toNat) else none
   | _ => none
 | _ => none
def convK (P : Program) (src dst : TypeId) (hp : HP) (x : AV) (K : AV → Prop) : Prop :=
 match P.underlying src, P.underlying dst, x with
 | some _, some (.int k), .int _ n => K (.int k (k.wrap n))
 | some (.slice e), some .string, x => P.underlying e = some (.int .u8) ∧
   match elemsOf hp x with
   | some xs => (∀ y ∈ xs, isByte y) ∧ K (.str ⟨(xs.map byteOf).toArray⟩)
   | none => False
 | _, _, _ => False
end
end Go.Ab
namespace Go.Ab
open Go.RowKit
section
variable {P : Program} {E : Env} {hp : HP} {ι : Nat → Nat} {dom im : Nat → Prop} {w : World} {id : Nat} {K : AV → HP → Prop}
theorem RepL.append {C : Cx} : ∀ (xs ys : List AV) (c1 c2 : List (List Value)), RepL C xs c1 → RepL C ys c2 → RepL C (xs ++ ys) (c1 ++ c2)
 | [], ys, c1, c2, h, k => by simp only [RepL] at h; subst h; exact k
 | x :: xs, ys, c1, c2, h, k => by
   simp only [RepL] at h
   obtain ⟨c, r, rfl, h1, h2⟩ := h
   simp only [List.cons_append, RepL]
   exact ⟨c, r ++ c2, rfl, h1, RepL.append xs ys r c2 h2 k⟩
theorem RepL.len_eq {C : Cx} : ∀ (xs : List AV) (css : List (List Value)), RepL C xs css → css.length = xs.length
 | [], css, h => by simp only [RepL] at h; subst h; rfl
 | x :: xs, css, h => by
   simp only [RepL] at h
   obtain ⟨c, r, rfl, h1, h2⟩ := h
   simp [RepL.len_eq xs r h2]
theorem RepL.get {C : Cx} : ∀ (xs : List AV) (css : List (List Value)) (i : Nat) (x : AV), RepL C xs css → xs[i]? = some x → ∃ c, css[i]? = some c ∧ Rep C x c
 | [], _, _, _, _, h => by simp at h
 | y :: ys, css, i, x, hr, h => by
   simp only [RepL] at hr
   obtain ⟨c, r, rfl, h1, h2⟩ := hr
   cases i with
   | zero => simp at h; subst h; exact ⟨c, rfl, h1⟩
   | succ i =>
     simp at h
     obtain ⟨c', h3, h4⟩ := RepL.get ys r i x h2 h
     exact ⟨c', by simpa using h3, h4⟩
theorem RepL.drop {C : Cx} : ∀ (xs : List AV) (css : List (List Value)) (n : Nat), RepL C xs css → RepL C (xs.drop n) (css.drop n)
 | [], css, n, h => by simp only [RepL] at h; subst h; simp [RepL]
 | x :: xs, css, n, h => by
   simp only [RepL] at h
   obtain ⟨c, r, rfl, h1, h2⟩ := h
   cases n with
   | zero => simp only [List.drop_zero, RepL]; exact ⟨c, r, rfl, h1, h2⟩
   | succ n => simpa using RepL.drop xs r n h2
theorem RepL.take {C : Cx} : ∀ (xs : List AV) (css : List (List Value)) (n : Nat), RepL C xs css → RepL C (xs.take n) (css.take n)
 | [], css, n, h => by simp only [RepL] at h; subst h; simp [RepL]
 | x :: xs, css, n, h => by
   simp only [RepL] at h
   obtain ⟨c, r, rfl, h1, h2⟩ := h
   cases n with
   | zero => simp [RepL]
   | succ n => simp only [List.take_succ_cons, RepL]; exact ⟨c, r.take n, rfl, h1, RepL.take xs r n h2⟩
theorem flatten_uniform {css : List (List Value)} {sz : Nat} (h : ∀ c ∈ css, c.length = sz) (i : Nat) : (css.take i).flatten.length = (min i css.length) * sz := by
 induction css generalizing i with
 | nil => simp
 | cons c r ih =>
   cases i with
   | zero => simp
   | succ i =>
     simp only [List.take_succ_cons, List.flatten_cons, List.length_append, ih (fun c hc => h c (by simp [hc])), h c (by simp), List.length_cons]
     rw [Nat.succ_min_succ, Nat.succ_mul]
     omega
theorem flatten_drop_uniform {css : List (List Value)} {sz : Nat} (h : ∀ c ∈ css, c.length = sz) (i : Nat) (hi : i ≤ css.length) : css.flatten.drop (i * sz) = (css.drop i).flatten := by
 have e := List.take_append_drop i css
 have hl := flatten_uniform h i
 rw [Nat.min_eq_left hi] at hl
 conv => lhs; rw [← e, List.flatten_append, ← hl, List.drop_left]
theorem cellsAt.part {w : World} {b off k : Nat} {cs ds : List Value} (h : cellsAt w b off cs) (hd : ds <+: cs.drop k) : cellsAt w b (off + k) ds := by
 intro i v hv
 obtain ⟨t, ht⟩ := hd
 have hi : i < ds.length := (List.getElem?_eq_some_iff.1 hv).1
 have : cs[k + i]? = some v := by
  rw [← List.getElem?_drop, ← ht, List.getElem?_append_left hi]
  exact hv
 have := h _ _ this
 rw [Nat.add_assoc]
 exact this
def ElemsAt (C : Cx) (v : Value) (xs : List AV) : Prop :=
 ∃ A c, v = .slice A xs.length c ∧ xs.length ≤ c ∧ c ≤ maxLen ∧
   (xs = [] ∨ ∃ b off css, A = some ⟨b, off, none⟩ ∧ b < C.w.heap.size ∧ RepL { C with dom := fun _ => False } xs css ∧ (∃ sz, ∀ x ∈ css, x.length = sz) ∧ cellsAt C.w b off css.flatten)
theorem cell_of_block {w : World} {b : Nat} {cs : Array Value} {e : TypeId} {fr : Nat × Nat} (h : w.heap[b]? = some (.cells cs e fr)) (i : Nat) : w.cell? ⟨b, i, none⟩ = cs[i]? := cell_of_row w b i cs e fr h
theorem cellsAt_of_block {w : World} {b : Nat} {cs : Array Value} {e : TypeId} {fr : Nat × Nat} (h : w.heap[b]? = some (.cells cs e fr)) : cellsAt w b 0 cs.toList := by
 intro i v hv
 rw [Nat.zero_add, cell_of_block h]
 simpa using hv
theorem rootBytes_rep {C : Cx} (r : Root) : RepL C (r.1.map fun b => .int .u8 b.toNat) ((rootCells r).map fun v => [v]) := by
 unfold rootCells
 generalize r.1 = l
 induction l with
 | nil => simp [RepL]
 | cons a l ih => simp only [List.map_cons, RepL]; exact ⟨_, _, rfl, by simp [Rep], ih⟩
theorem flatten_single (l : List Value) : (l.map fun v => [v]).flatten = l := by
 induction l with
 | nil => rfl
 | cons a l ih => simp [ih]
theorem elems_at (hi : HInv E hp ι dom im w) {x : AV} {v : Value} {xs : List AV} (hx : RepT ⟨ι, dom, im, w⟩ x v) (he : elemsOf hp x = some xs) : ElemsAt ⟨ι, dom, im, w⟩ v xs := by
 unfold elemsOf at he
 split at he
 · simp only [Option.some.injEq] at he
   subst he
   have h1 := hx.one (by simp) rfl rfl
   simp only [Rep] at h1
   obtain ⟨A, c, h1, h2, h3, _, h5⟩ := h1
   simp only [List.cons.injEq, and_true] at h1
   refine ⟨A, c, h1, h2, h3, ?_⟩
   rcases h5 with h5 | ⟨b, off, css, k1, _, k3, k4, k5, k6⟩
   · exact .inl h5
   · exact .inr ⟨b, off, css, k1, k3, k4, k5, k6⟩
 · rename_i o sz n
   split at he
   · rename_i sz' ys hg
     split at he
     · rename_i hle
       obtain ⟨hsz, hle⟩ := hle
       simp only [Option.some.injEq] at he
       subst he
       have h1 := hx.one (by simp) rfl rfl
       simp only [Rep] at h1
       obtain ⟨A, c, h1, h2, h3, h4, h5⟩ := h1
       simp only [List.cons.injEq, and_true] at h1
       refine ⟨A, c, by rw [← hle]; exact h1, by omega, h4, ?_⟩
       cases ys with
       | nil => exact .inl rfl
       | cons y ys =>
         rcases h5 with h5 | ⟨_, h6, e, h7⟩
         · simp at hle; omega
         · rcases hi.own o _ hg with hn | ⟨cs, e', css, k1, k2, k3, k4⟩
           · cases hn
           · refine .inr ⟨ι o, 0, css, h6, hi.lt o _ hg trivial, k2, ⟨sz', k3⟩, ?_⟩
             exact (cellsAt_of_block k1).part (k := 0) (by simpa using k4)
     · cases he
   · rename_i r hg
     split at he
     · rename_i hle
       obtain ⟨rfl, rfl⟩ := hle
       simp only [Option.some.injEq] at he
       subst he
       have h1 := hx.one (by simp) rfl rfl
       simp only [Rep] at h1
       obtain ⟨A, c, h1, h2, h3, h4, h5⟩ := h1
       simp only [List.cons.injEq, and_true] at h1
       refine ⟨A, c, by simp [h1, r.2], by simp [r.2]; omega, h4, ?_⟩
       rcases h5 with h5 | ⟨_, h6, e, h7⟩
       · omega
       · obtain ⟨cs, e', k1, k2⟩ := hi.own o _ hg
         simp only [Rep] at k2
         refine .inr ⟨ι o, 0, (rootCells r).map fun v => [v], h6, hi.lt o _ hg trivial, rootBytes_rep r, ⟨1, fun x hx => ?_⟩, ?_⟩
         · simp only [List.mem_map] at hx
           obtain ⟨v, _, rfl⟩ := hx
           rfl
         · rw [flatten_single, ← k2]
           exact cellsAt_of_block k1
     · cases he
   · cases he
 · cases he
theorem bytes_flatten {C : Cx} : ∀ (xs : List AV) (css : List (List Value)), RepL C xs css → (∀ y ∈ xs, isByte y) → css.flatten = (xs.map fun y => match y with | .int _ n => n | _ => 0).map (Value.int .u8)
 | [], css, h, _ => by simp only [RepL] at h; subst h; rfl
 | x :: xs, css, h, hb => by
   simp only [RepL] at h
   obtain ⟨c, r, rfl, h1, h2⟩ := h
   have hx := hb x (by simp)
   have ih := bytes_flatten xs r h2 (fun y hy => hb y (by simp [hy]))
   unfold isByte at hx
   split at hx
   · simp only [Rep] at h1
     subst h1
     simp [ih]
   · exact hx.elim
theorem foldl_push (ns : List Int) : ∀ (s : ByteArray), (ns.foldl (fun r n => r.push (UInt8.ofNat n.toNat)) s).data = s.data ++ (ns.map fun n => UInt8.ofNat n.toNat).toArray := by
 induction ns with
 | nil => intro s; simp
 | cons n ns ih => intro s; simp [ih]
theorem conv_sound {src dst : TypeId} {x : AV} {a : Value} {K : AV → Prop} (hi : HInv E hp ι dom im w) (hx : RepT ⟨ι, dom, im, w⟩ x a) (hk : convK P src dst hp x K) :
 ∃ r v, K r ∧ (convert src dst a).run P w = .ok v w ∧ RepT ⟨ι, dom, im, w⟩ r v := by
 unfold convK at hk
 split at hk
 · rename_i hs hd
   have ha := RepT.int_of hx
   subst ha
   exact ⟨_, _, hk, by simp [convert, run_underlying' hs, run_underlying' hd, Conv.intToInt], repS_int _ _⟩
 · rename_i e hs hd
   obtain ⟨he, hk⟩ := hk
   split at hk
   · rename_i xs hel
     obtain ⟨hb, hk⟩ := hk
     obtain ⟨A, c, rfl, h1, h2, h3⟩ := elems_at hi hx hel
     refine ⟨_, _, hk, ?_, repS_str _⟩
     have e1 : (convert src dst (.slice A xs.length c)).run P w = (Conv.bytesToString (.slice A xs.length c)).run P w := by
      simp [convert, run_underlying' hs, run_underlying' hd, run_underlying' he]
     rw [e1]
     rcases h3 with rfl | ⟨b, off, css, rfl, _, k2, ⟨sz, k3⟩, k4⟩
     · cases A with
       | none => simp [Conv.bytesToString]; rfl
       | some a =>
         rw [run_bytesToString w a _ _ [] (by simp [loadCells, loadCellsFrom])]
         rfl
     · have hf := bytes_flatten xs css k2 hb
       have hl : css.flatten.length = xs.length := by rw [hf]; simp
       have := run_loadCells' (P := P) k4
       rw [hl, hf] at this
       rw [run_bytesToString w _ _ _ _ this]
       congr 2
       apply ByteArray.ext
       rw [foldl_push]
       simp only [ByteArray.empty, List.map_map]
       simp
       intro y hy
       unfold byteOf
       split <;> simp_all
   · exact hk.elim
 · exact hk.elim
def nilCheckK (x : AV) (K : AV → Prop) : Prop :=
 match x with
 | .ptr _ _ _ | .ref _ => K x
 | .fn (.func _) _ _ => K x
 | _ => False
def tFieldI (P : Program) (t : TypeId) (f : Nat) : Option (Nat × Nat × Bool) :=
 match P.underlying t with
 | some (.struct fs) => match fs[f]? with
   | some fl => match tSize P fl.type, tAgg P fl.type with
     | some n, some a => some (fl.offset, n, a)
     | _, _ => none
   | none => none
 | _ => none
def fieldAddrK (P : Program) (t : TypeId) (x : AV) (f : Nat) (K : AV → Prop) : Prop :=
 match tFieldI P t f with
 | some (off', sz, _) => sz ≠ 0 ∧
   match x with
   | .ptr o p off => K (.ptr o (p ++ [f]) (off + off'))
   | .ref (.st fs) => match fs[f]? with
     | some y => AV.lens (fs.take f) = off' ∧ K (.ref y)
     | none => False
   | _ => False
 | none => False
def fieldK (P : Program) (t : TypeId) (x : AV) (f : Nat) (K : AV → Prop) : Prop :=
 match tFieldI P t f with
 | some (off', sz, ag) =>
   match x with
   | .st fs => match fs[f]? with
     | some y => AV.lens (fs.take f) = off' ∧ y.len = sz ∧ y.agg = ag ∧ K y
     | none => False
   | _ => False
 | none => False
theorem RepT.ptr_of {C : Cx} {o : Nat} {p : List Nat} {off : Nat} {v : Value} (h : RepT C (.ptr o p off) v) : v = .pointer (some ⟨C.ι o, off, none⟩) ∧ C.dom o := by
 have h1 := h.one (by simp) rfl rfl
 simp only [Rep, List.cons.injEq, and_true] at h1
 exact h1
theorem repT_ptr {C : Cx} {o : Nat} (p : List Nat) (off : Nat) (h : C.dom o) : RepT C (.ptr o p off) (.pointer (some ⟨C.ι o, off, none⟩)) :=
 .inr ⟨by simp [Rep, Value.cells, h], rfl, rfl⟩
theorem RepT.ref_of {C : Cx} {x : AV} {v : Value} (h : RepT C (.ref x) v) : ∃ b off c, v = .pointer (some ⟨b, off, none⟩) ∧ C.im b ∧ b < C.w.heap.size ∧ Rep { C with dom := fun _ => False } x c ∧ cellsAt C.w b off c := by
 have h1 := h.one (by simp) rfl rfl
 simp only [Rep] at h1
 obtain ⟨b, off, c, h1, h2⟩ := h1
 simp only [List.cons.injEq, and_true] at h1
 exact ⟨b, off, c, h1, h2⟩
theorem repT_ref {C : Cx} {x : AV} {b off : Nat} {c : List Value} (h1 : C.im b) (h2 : b < C.w.heap.size) (h3 : Rep { C with dom := fun _ => False } x c) (h4 : cellsAt C.w b off c) :
 RepT C (.ref x) (.pointer (some ⟨b, off, none⟩)) := .inr ⟨by simp only [Rep, Value.cells]; exact ⟨b, off, c, rfl, h1, h2, h3, h4⟩, rfl, rfl⟩
theorem nilCheck_sound {x : AV} {a : Value} {K : AV → Prop} {C : Cx} {o : Oper} {ρ : Operand → Value} {y : Operand} (w : World) (ho : o.op = .nilCheck y) (hy : ρ y = a) (hx : RepT C x a) (hk : nilCheckK x K) :
 ∃ r v, K r ∧ (execOp ρ o).run P w = .ok (.value v) w ∧ RepT C r v := by
 unfold nilCheckK at hk
 split at hk
 · obtain ⟨rfl, _⟩ := hx.ptr_of
   exact ⟨_, _, hk, by simp [execOp, ho, hy], hx⟩
 · obtain ⟨b, off, c, rfl, _⟩ := hx.ref_of
   exact ⟨_, _, hk, by simp [execOp, ho, hy], hx⟩
 · have h1 := hx.one (by simp) rfl rfl
   simp only [Rep] at h1
   obtain ⟨va, vb, h1, _⟩ := h1
   simp only [List.cons.injEq, and_true] at h1
   subst h1
   exact ⟨_, _, hk, by simp [execOp, ho, hy], hx⟩
 · exact hk.elim
theorem tFieldI_spec {t : TypeId} {f off sz : Nat} {ag : Bool} (h : tFieldI P t f = some (off, sz, ag)) :
 ∃ fs fl, P.underlying t = some (.struct fs) ∧ fs[f]? = some fl ∧ fl.offset = off ∧ tSize P fl.type = some sz ∧ tAgg P fl.type = some ag := by
 unfold tFieldI at h
 split at h
 · rename_i fs hu
   split at h
   · rename_i fl hf
     split at h
     · rename_i n a hs ha
       simp only [Option.some.injEq, Prod.mk.injEq] at h
       obtain ⟨rfl, rfl, rfl⟩ := h
       exact ⟨fs, fl, hu, hf, rfl, hs, ha⟩
     · cases h
   · cases h
 · cases h
theorem sub_one (fs : List AV) (f : Nat) : AV.subL fs f [] = fs[f]? := by
 induction fs generalizing f with
 | nil => simp [AV.subL]
 | cons x xs ih =>
   cases f with
   | zero => cases x <;> simp [AV.subL, AV.sub]
   | succ f => simp [AV.subL, ih]
theorem offs_one (fs : List AV) (f : Nat) (h : f < fs.length) : AV.offsL fs f [] = some (AV.lens (fs.take f)) := by
 induction fs generalizing f with
 | nil => simp at h
 | cons x xs ih =>
   cases f with
   | zero => cases x <;> simp [AV.offsL, AV.offs, AV.lens]
   | succ f => simp [AV.offsL, ih f (by simpa using h), AV.lens]
theorem fieldAddr_sound {t : TypeId} {x : AV} {a : Value} {f : Nat} {K : AV → Prop} {C : Cx} (hx : RepT C x a) (hk : fieldAddrK P t x f K) :
 ∃ r v, K r ∧ (Instr.fieldAt t a f).run P C.w = .ok v C.w ∧ RepT C r v := by
 unfold fieldAddrK at hk
 split at hk
 · rename_i off' sz ag hti
   obtain ⟨hsz, hk⟩ := hk
   obtain ⟨fs, fl, hu, hf, ho, hs, _⟩ := tFieldI_spec hti
   have run : ∀ b off, (Instr.fieldAt t (.pointer (some ⟨b, off, none⟩)) f).run P C.w = .ok (.pointer (some ⟨b, off + off', none⟩)) C.w := by
    intro b off
    simp [Instr.fieldAt, run_underlying' hu, hf, Instr.sureAddr, fieldPlace, run_sizeOf' hs, hsz, ho, add_mk]
   split at hk
   · obtain ⟨rfl, hd⟩ := hx.ptr_of
     exact ⟨_, _, hk, run _ _, repT_ptr _ _ hd⟩
   · rename_i gs
     obtain ⟨b, off, c, rfl, h1, h2, h3, h4⟩ := hx.ref_of
     split at hk
     · rename_i y hy
       obtain ⟨hl, hk⟩ := hk
       have hlt : f < gs.length := (List.getElem?_eq_some_iff.1 hy).1
       obtain ⟨h5, h6⟩ := Rep.sub (.st gs) [f] y off' c (by simp only [AV.sub]; rw [sub_one]; exact hy) (by simp only [AV.offs]; rw [offs_one gs f hlt, hl]) h3
       refine ⟨_, _, hk, run _ _, repT_ref h1 h2 h5 (h4.part (List.take_prefix _ _))⟩
     · exact hk.elim
   · exact hk.elim
 · exact hk.elim
theorem field_sound {t : TypeId} {x : AV} {a : Value} {f : Nat} {K : AV → Prop} {C : Cx} (hx : RepT C x a) (hk : fieldK P t x f K) :
 ∃ r v, K r ∧ (Instr.field t a f).run P C.w = .ok v C.w ∧ RepT C r v := by
 unfold fieldK at hk
 split at hk
 · rename_i off' sz ag hti
   obtain ⟨fs, fl, hu, hf, ho, hs, hag⟩ := tFieldI_spec hti
   split at hk
   · rename_i gs
     obtain ⟨cs, rfl, h3⟩ := (hx.V (by simp) rfl).agg_of rfl
     split at hk
     · rename_i y hy
       obtain ⟨hl, hyl, hya, hk⟩ := hk
       have hlt : f < gs.length := (List.getElem?_eq_some_iff.1 hy).1
       obtain ⟨h5, h6⟩ := Rep.sub (.st gs) [f] y off' cs (by simp only [AV.sub]; rw [sub_one]; exact hy) (by simp only [AV.offs]; rw [offs_one gs f hlt, hl]) h3
       obtain ⟨v, hv, hr⟩ := run_part' (P := P) h5 C.w (hag.trans (by rw [hya])) (hs.trans (by rw [hyl]))
       refine ⟨_, v, hk, ?_, .inr (RepS.of hr)⟩
       simp [Instr.field, run_underlying' hu, hf, asAgg, ho, hv]
     · exact hk.elim
   · exact hk.elim
 · exact hk.elim
end
end Go.Ab
namespace Go.Ab
open Go.RowKit
section
variable {P : Program} {E : Env} {hp : HP} {ι : Nat → Nat} {dom im : Nat → Prop} {w : World} {id : Nat} {K : AV → HP → Prop}
def loadK (P : Program) (t : TypeId) (hp : HP) (x : AV) (K : AV → HP → Prop) : Prop :=
 match x with
 | .ref y => tAgg P t = some y.agg ∧ tSize P t = some y.len ∧ K y hp
 | .ptr o p off => match HP.get hp o with
   | some (.var z) => match z.sub p with
     | some y => z.offs p = some off ∧ tAgg P t = some y.agg ∧ tSize P t = some y.len ∧ K y hp
     | none => False
   | some (.row sz xs) => match p with
     | i :: q => match xs[i]? with
       | some z => match z.sub q with
         | some y => (z.offs q).map (i * sz + ·) = some off ∧ tAgg P t = some y.agg ∧ tSize P t = some y.len ∧ K y hp
         | none => False
       | none => False
     | [] => False
   | _ => False
 | _ => False
theorem row_elem {C : Cx} {xs : List AV} {css : List (List Value)} {sz i : Nat} {z : AV} (h : RepL C xs css) (hs : ∀ x ∈ css, x.length = sz) (hz : xs[i]? = some z) :
 ∃ c, Rep C z c ∧ c.length = sz ∧ c <+: css.flatten.drop (i * sz) ∧ css.flatten = (css.take i).flatten ++ (c ++ (css.drop (i + 1)).flatten) ∧ (css.take i).flatten.length = i * sz := by
 obtain ⟨c, hc, hr⟩ := RepL.get xs css i z h hz
 have hlt : i < css.length := (List.getElem?_eq_some_iff.1 hc).1
 have hcs : c ∈ css := List.mem_of_getElem? hc
 have e : css = css.take i ++ c :: css.drop (i + 1) := by
  have := List.take_append_drop i css
  rw [List.drop_eq_getElem_cons hlt] at this
  have hce : css[i] = c := by rw [List.getElem?_eq_getElem hlt] at hc; simpa using hc
  rw [hce] at this
  exact this.symm
 have hl := flatten_uniform hs i
 rw [Nat.min_eq_left (by omega)] at hl
 have e2 : css.flatten = (css.take i).flatten ++ (c ++ (css.drop (i + 1)).flatten) := by
  conv => lhs; rw [e]
  simp
 refine ⟨c, hr, hs c hcs, ?_, e2, hl⟩
 rw [e2, ← hl, List.drop_left]
 exact List.prefix_append _ _
theorem RepL.anydom {C : Cx} : ∀ {xs : List AV} {css : List (List Value)}, RepL { C with dom := fun _ => False } xs css → RepL C xs css :=
 fun {xs css} h => RepL.mono (Cx.Le.grow { C with dom := fun _ => False } (fun _ h => False.elim h) (fun _ h => False.elim h) (fun _ h => h)) xs css h
theorem Rep.anydom {C : Cx} {x : AV} {cs : List Value} (h : Rep { C with dom := fun _ => False } x cs) : Rep C x cs :=
 Rep.mono (Cx.Le.grow { C with dom := fun _ => False } (fun _ h => False.elim h) (fun _ h => False.elim h) (fun _ h => h)) x cs h
theorem load_sound {t : TypeId} {x : AV} {a : Value} (hi : HInv E hp ι dom im w) (hx : RepT ⟨ι, dom, im, w⟩ x a) (hk : loadK P t hp x K) :
 ∃ r v, K r hp ∧ (Instr.loadAt t a).run P w = .ok v w ∧ RepT ⟨ι, dom, im, w⟩ r v := by
 have go : ∀ {y : AV} {b off : Nat} {c : List Value}, Rep ⟨ι, dom, im, w⟩ y c → cellsAt w b off c → tAgg P t = some y.agg → tSize P t = some y.len →
  ∃ v, (Instr.loadAt t (.pointer (some ⟨b, off, none⟩))).run P w = .ok v w ∧ RepT ⟨ι, dom, im, w⟩ y v := by
  intro y b off c h1 h2 h3 h4
  obtain ⟨v, hv, hr⟩ := run_loadVar' (P := P) (C := ⟨ι, dom, im, w⟩) h1 h2 h3 h4
  refine ⟨v, ?_, .inr (RepS.of hr)⟩
  simp only [Instr.loadAt, Instr.sureAddr, Sem.run_bind, Sem.run_pure, Result.andThen_ok]
  exact hv
 unfold loadK at hk
 split at hk
 · rename_i y
   obtain ⟨h1, h2, hk⟩ := hk
   obtain ⟨b, off, c, rfl, k1, k2, k3, k4⟩ := hx.ref_of
   obtain ⟨v, hv, hr⟩ := go (Rep.anydom k3) k4 h1 h2
   exact ⟨y, v, hk, hv, hr⟩
 · rename_i o p off
   obtain ⟨rfl, hd⟩ := hx.ptr_of
   split at hk
   · rename_i z hg
     obtain ⟨cs, e, k1, k2⟩ := hi.own o _ hg
     split at hk
     · rename_i y hs
       obtain ⟨ho, h1, h2, hk⟩ := hk
       obtain ⟨h3, h4⟩ := Rep.sub z p y off cs.toList hs ho k2
       have c0 := (cellsAt_of_block k1).part (k := off) (List.take_prefix y.len _)
       rw [Nat.zero_add] at c0
       obtain ⟨v, hv, hr⟩ := go h3 c0 h1 h2
       exact ⟨y, v, hk, hv, hr⟩
     · exact hk.elim
   · rename_i sz xs hg
     rcases hi.own o _ hg with hnil | ⟨cs, e, css, k1, k2, k3, k4⟩
     · subst hnil; cases p <;> simp at hk
     split at hk
     · rename_i i q
       split at hk
       · rename_i z hz
         split at hk
         · rename_i y hs
           obtain ⟨ho, h1, h2, hk⟩ := hk
           simp only [Option.map_eq_some_iff] at ho
           obtain ⟨k, ho, rfl⟩ := ho
           obtain ⟨c, r1, r2, r3, _⟩ := row_elem k2 k3 hz
           obtain ⟨h3, h4⟩ := Rep.sub z q y k c hs ho (Rep.anydom r1)
           have c0 := (cellsAt_of_block k1).part (k := 0) (ds := css.flatten) (by simpa using k4)
           have c1 := (c0.part (k := i * sz) r3).part (k := k) (List.take_prefix y.len _)
           simp only [Nat.zero_add] at c1
           obtain ⟨v, hv, hr⟩ := go h3 c1 h1 h2
           exact ⟨y, v, hk, hv, hr⟩
         · exact hk.elim
       · exact hk.elim
     · exact hk.elim
   · exact hk.elim
 · exact hk.elim
mutual
def AV.idf : AV → Bool
 | .ms _ _ _ => false
 | .ptr _ _ _ => false
 | .mp _ => false
 | .st fs => AV.idfL fs
 | .arr xs => AV.idfL xs
 | .fn _ a b => AV.idfL a && AV.idfL b
 | .tup xs => AV.idfL xs
 | _ => true
def AV.idfL : List AV → Bool
 | [] => true
 | x :: xs => x.idf && AV.idfL xs
end
mutual
theorem Rep.idf {C : Cx} : ∀ (x : AV) (cs : List Value), x.idf = true → Rep C x cs → Rep { C with dom := fun _ => False } x cs
 | .bool _, _, _, hr => by simpa only [Rep] using hr
 | .int _ _, _, _, hr => by simpa only [Rep] using hr
 | .str _, _, _, hr => by simpa only [Rep] using hr
 | .root _, _, _, hr => by simpa only [Rep] using hr
 | .st fs, cs, h, hr => by
   simp only [Rep] at hr ⊢
   obtain ⟨css, h1, h2⟩ := hr
   exact ⟨css, RepL.idf fs css (by simpa [AV.idf] using h) h1, h2⟩
 | .arr fs, cs, h, hr => by
   simp only [Rep] at hr ⊢
   obtain ⟨css, h1, h2⟩ := hr
   exact ⟨css, RepL.idf fs css (by simpa [AV.idf] using h) h1, h2⟩
 | .sl xs clip, cs, _, hr => by simpa only [Rep] using hr
 | .ms _ _ _, _, h, _ => by simp [AV.idf] at h
 | .ref x, cs, _, hr => by simpa only [Rep] using hr
 | .ptr _ _ _, _, h, _ => by simp [AV.idf] at h
 | .nilp, _, _, hr => by simpa only [Rep] using hr
 | .mp _, _, h, _ => by simp [AV.idf] at h
 | .fn f a b, cs, h, hr => by
   simp only [AV.idf, Bool.and_eq_true] at h
   simp only [Rep] at hr ⊢
   obtain ⟨va, vb, h1, h2, h3, h4⟩ := hr
   exact ⟨va, vb, h1, RepL.idf a _ h.1 h2, RepL.idf b _ h.2 h3, h4⟩
 | .nilf, _, _, hr => by simpa only [Rep] using hr
 | .tup _, _, _, hr => by simp only [Rep] at hr
 | .raw _, _, _, hr => by simpa only [Rep] using hr
theorem RepL.idf {C : Cx} : ∀ (xs : List AV) (css : List (List Value)), AV.idfL xs = true → RepL C xs css → RepL { C with dom := fun _ => False } xs css
 | [], _, _, hr => by simpa only [RepL] using hr
 | x :: xs, css, h, hr => by
   simp only [AV.idfL, Bool.and_eq_true] at h
   simp only [RepL] at hr ⊢
   obtain ⟨c, r, h1, h2, h3⟩ := hr
   exact ⟨c, r, h1, Rep.idf x c h.1 h2, RepL.idf xs r h.2 h3⟩
end
def AV.ok : AV → Bool
 | .raw _ | .tup _ => false
 | _ => true
theorem RepT.ok {C : Cx} {x : AV} {v : Value} (h : RepT C x v) (ho : x.ok = true) : RepV C x v :=
 h.V (fun u e => by subst e; simp [AV.ok] at ho) (by cases x <;> first | rfl | (simp [AV.ok] at ho; done))
def storeK (P : Program) (t : TypeId) (hp : HP) (x y' : AV) (K : AV → HP → Prop) : Prop :=
 match x with
 | .ptr o p off => match HP.get hp o with
   | some (.var z) => match z.sub p, z.upd p y' with
     | some y, some z' => z.offs p = some off ∧ y'.len = y.len ∧ tSize P t = some y'.len ∧ y'.ok = true ∧ K (.tup []) (HP.set hp o (.var z'))
     | _, _ => False
   | some (.row sz xs) => match p with
     | i :: q => match xs[i]? with
       | some z => match z.sub q, z.upd q y' with
         | some y, some z' => (z.offs q).map (i * sz + ·) = some off ∧ y'.len = y.len ∧ tSize P t = some y'.len ∧ y'.ok = true ∧ y'.idf = true ∧ K (.tup []) (HP.set hp o (.row sz (xs.set i z')))
         | _, _ => False
       | none => False
     | [] => False
   | _ => False
 | _ => False
theorem setRow_other' (w : World) (g k : Nat) (cs : Array Value) (h : k ≠ g) : (w.setRow g cs).heap[k]? = w.heap[k]? := setRow_other w g k cs h
theorem setRow_shape {w : World} {g : Nat} {cs cs' : Array Value} {e : TypeId} {fr : Nat × Nat} (h : w.heap[g]? = some (.cells cs e fr)) (hs : cs'.size = cs.size) (s : TypeId × Nat) (hw : w.shape? g = some s) : (w.setRow g cs').shape? g = some s := by
 unfold World.shape? at hw ⊢
 rw [setRow_heap w g cs cs' e fr h]
 rw [h] at hw
 simp only [hs]
 exact hw
theorem run_storeAt' {t : TypeId} {b off : Nat} {cs : Array Value} {e : TypeId} {v : Value} {y' : AV} {C : Cx} (hb : w.heap[b]? = some (.cells cs e (0, 0))) (hv : RepV C y' v) (hs : tSize P t = some y'.len) (hle : off + y'.len ≤ cs.size) :
 (Instr.storeAt t (.pointer (some ⟨b, off, none⟩)) v).run P w = .ok () (w.setRow b (cs.toList.take off ++ v.cells.toList ++ cs.toList.drop (off + v.cells.toList.length)).toArray) := by
 have hl := Rep.length y' _ hv.1
 have hsz : v.cells.size = y'.len := by rw [← hl]; simp
 have := run_storeCells_at P b off e v.cells.toList 0 cs w hb (by simp; omega) (fun u hu => (Rep.scalars y' _ hv.1 u hu).one)
 simp only [Nat.add_zero] at this
 simp only [Instr.storeAt, Instr.sureAddr, storeVar, Sem.run_bind, Sem.run_pure, Result.andThen_ok, run_sizeOf' hs, hsz, ne_eq, not_true, if_false]
 exact this
theorem store_sound {t : TypeId} {x y' : AV} {a v : Value} (hi : HInv E hp ι dom im w) (hx : RepT ⟨ι, dom, im, w⟩ x a) (hy : RepT ⟨ι, dom, im, w⟩ y' v) (hk : storeK P t hp x y' K) :
 ∃ hp' w', K (.tup []) hp' ∧ (Instr.storeAt t a v).run P w = .ok () w' ∧ HInv E hp' ι dom im w' ∧ Cx.Le ⟨ι, dom, im, w⟩ ⟨ι, dom, im, w'⟩ := by
 unfold storeK at hk
 split at hk
 · rename_i o p off
   obtain ⟨rfl, hd⟩ := hx.ptr_of
   split at hk
   · rename_i z hg
     obtain ⟨cs, e, k1, k2⟩ := hi.own o _ hg
     split at hk
     · rename_i y z' hs hu
       obtain ⟨ho, hl, ht, hok, hk⟩ := hk
       have ry := hy.ok hok
       have hvl := Rep.length y' _ ry.1
       obtain ⟨h3, h4⟩ := Rep.sub z p y off cs.toList hs ho k2
       have hzl := Rep.length z _ k2
       obtain ⟨h5, h6⟩ := Rep.upd z p y y' z' off cs.toList v.cells.toList hs ho hu hl k2 ry.1
       have hle : off + y'.len ≤ cs.size := by simp at hzl; omega
       have hrun := run_storeAt' (P := P) (t := t) (C := ⟨ι, dom, im, w⟩) k1 ry ht hle
       obtain ⟨hi', hle'⟩ := hi.write (w' := w.setRow (ι o) (cs.toList.take off ++ v.cells.toList ++ cs.toList.drop (off + v.cells.toList.length)).toArray) hg trivial (ao' := .var z')
        (by simp) rfl rfl rfl (fun b hb => setRow_other' w (ι o) b _ hb) (fun s hs => setRow_shape k1 (by simp; simp at hzl hvl; omega) s hs)
        (fun hle => ⟨_, e, setRow_heap w (ι o) cs _ e _ k1, by
         have := Rep.mono hle z' _ h5
         rw [hl.symm, ← hvl] at this
         simpa using this⟩)
       exact ⟨_, _, hk, hrun, hi', hle'⟩
     · exact hk.elim
   · rename_i sz xs hg
     rcases hi.own o _ hg with hnil | ⟨cs, e, css, k1, k2, k3, k4⟩
     · subst hnil; cases p <;> simp at hk
     split at hk
     · rename_i i q
       split at hk
       · rename_i z hz
         split at hk
         · rename_i y z' hs hu
           obtain ⟨ho, hl, ht, hok, hid, hk⟩ := hk
           simp only [Option.map_eq_some_iff] at ho
           obtain ⟨k, ho, rfl⟩ := ho
           have ry := hy.ok hok
           have hvl := Rep.length y' _ ry.1
           obtain ⟨c, r1, r2, r3, r4, r5⟩ := row_elem k2 k3 hz
           obtain ⟨h3, h4⟩ := Rep.sub z q y k c hs ho r1
           have hzl := Rep.length z c r1
           have ry0 : Rep ⟨ι, fun _ => False, im, w⟩ y' v.cells.toList := Rep.idf (C := ⟨ι, dom, im, w⟩) y' _ hid ry.1
           obtain ⟨h5, h6⟩ := Rep.upd z q y y' z' k c v.cells.toList hs ho hu hl r1 ry0
           obtain ⟨tl, htl⟩ := k4
           have hcl : css.flatten.length + tl.length = cs.size := by
            have := congrArg List.length htl
            simpa using this
           have hfl : css.flatten.length = i * sz + (c.length + (css.drop (i + 1)).flatten.length) := by
            rw [r4, List.length_append, List.length_append, r5]
           have hle : i * sz + k + y'.len ≤ cs.size := by omega
           have hrun := run_storeAt' (P := P) (t := t) (C := ⟨ι, dom, im, w⟩) k1 ry ht hle
           have e1 : cs.toList.take (i * sz + k) = (css.take i).flatten ++ c.take k := by
            rw [← htl, r4, List.append_assoc, ← r5, List.take_length_add_append]
            congr 1
            rw [List.append_assoc, List.take_append_of_le_length (by omega)]
           have e2 : cs.toList.drop (i * sz + k + y'.len) = c.drop (k + y'.len) ++ ((css.drop (i + 1)).flatten ++ tl) := by
            rw [← htl, r4, List.append_assoc, ← r5, Nat.add_assoc, List.drop_length_add_append]
            rw [List.append_assoc, List.drop_append_of_le_length (by omega)]
           have hnew : RepL ⟨ι, fun _ => False, im, w⟩ (xs.set i z') (css.take i ++ (c.take k ++ v.cells.toList ++ c.drop (k + y'.len)) :: css.drop (i + 1)) := by
            have hlt : i < xs.length := (List.getElem?_eq_some_iff.1 hz).1
            rw [List.set_eq_take_append_cons_drop, if_pos hlt]
            refine RepL.append _ _ _ _ (RepL.take _ _ i k2) ?_
            simp only [RepL]
            refine ⟨_, _, rfl, ?_, RepL.drop _ _ (i + 1) k2⟩
            rw [hl]; exact h5
           obtain ⟨hi', hle'⟩ := hi.write (w' := w.setRow (ι o) (cs.toList.take (i * sz + k) ++ v.cells.toList ++ cs.toList.drop (i * sz + k + v.cells.toList.length)).toArray) hg (by cases xs with
            | nil => simp at hz
            | cons _ _ => trivial) (ao' := .row sz (xs.set i z'))
            (by simp) rfl rfl rfl (fun b hb => setRow_other' w (ι o) b _ hb) (fun s hs => setRow_shape k1 (by simp; simp at hvl; omega) s hs)
            (fun hle => .inr ⟨_, e, _, setRow_heap w (ι o) cs _ e _ k1, RepL.mono hle.zero _ _ hnew, by
             intro x hx
             simp only [List.mem_append, List.mem_cons] at hx
             rcases hx with hx | rfl | hx
             · exact k3 x (List.mem_of_mem_take hx)
             · simp; simp at hvl; omega
             · exact k3 x (List.mem_of_mem_drop hx), by
             rw [hvl, e1, e2]
             simp⟩)
           exact ⟨_, _, hk, hrun, hi', hle'⟩
         · exact hk.elim
       · exact hk.elim
     · exact hk.elim
   · exact hk.elim
 · exact hk.elim
end
end Go.Ab
