/- New memory; slices cut and indexed. -/
import Derived.WideKeyRuns
import Derived.Laws.Strings
import Derived.Test.YtgnidooihignfaaGreatDoorAbOne
namespace Go.Ab
open Go.RowKit
section
variable {P : Program} {E : Env} {hp : HP} {ι : Nat → Nat} {dom im : Nat → Prop} {w : World} {id : Nat} {K : AV → HP → Prop}
def zroot : Root := ⟨List.replicate 32 0, rfl⟩
def zAV (P : Program) : Nat → TypeId → AV
 | 0, _ => .nilp
 | d + 1, t =>
   match P.underlying t with
   | some .bool => .bool false
   | some (.int k) => .int k 0
   | some .string => .str .empty
   | some (.slice _) => .sl [] true
   | some (.pointer _) => .nilp
   | some (.map _ _) => .raw (.map none)
   | some (.func _ _ _) => .nilf
   | some (.struct fs) => .st (fs.toList.map fun f => zAV P d f.type)
   | some (.array n e) => match P.underlying e with
     | some (.int .u8) => if n = 32 then .root zroot else .arr (List.replicate n (zAV P d e))
     | _ => .arr (List.replicate n (zAV P d e))
   | _ => .nilp
mutual
def AV.flat0 : AV → Option (List Value)
 | .bool b => some [.bool b]
 | .int k n => some [.int k n]
 | .str s => some [.string s]
 | .root r => some (rootCells r)
 | .st fs => AV.flat0L fs
 | .arr xs => AV.flat0L xs
 | .sl [] true => some [.slice none 0 0]
 | .nilp => some [.pointer none]
 | .nilf => some [.nilFunc]
 | .raw (.map none) => some [.map none]
 | _ => none
def AV.flat0L : List AV → Option (List Value)
 | [] => some []
 | x :: xs => match x.flat0, AV.flat0L xs with
   | some a, some b => some (a ++ b)
   | _, _ => none
end
mutual
theorem flat0_rep {C : Cx} : ∀ (x : AV) (cs : List Value), x.flat0 = some cs → Rep C x cs
 | .bool _, cs, h => by simp [AV.flat0] at h; simp [Rep, h]
 | .int _ _, cs, h => by simp [AV.flat0] at h; simp [Rep, h]
 | .str _, cs, h => by simp [AV.flat0] at h; simp [Rep, h]
 | .root r, cs, h => by simp [AV.flat0] at h; simp [Rep, h]
 | .st fs, cs, h => by
   simp only [AV.flat0] at h
   obtain ⟨css, h1, h2⟩ := flat0L_rep fs cs h
   simp only [Rep]
   exact ⟨css, h1, h2⟩
 | .arr fs, cs, h => by
   simp only [AV.flat0] at h
   obtain ⟨css, h1, h2⟩ := flat0L_rep fs cs h
   simp only [Rep]
   exact ⟨css, h1, h2⟩
 | .sl [] true, cs, h => by
   simp [AV.flat0] at h
   subst h
   simp only [Rep]
   exact ⟨none, 0, rfl, Nat.le_refl _, by simp [maxLen], fun _ => rfl, .inl (by trivial)⟩
 | .sl [] false, cs, h => by simp [AV.flat0] at h
 | .sl (_ :: _) _, cs, h => by simp [AV.flat0] at h
 | .nilp, cs, h => by simp [AV.flat0] at h; simp [Rep, h]
 | .nilf, cs, h => by simp [AV.flat0] at h; simp [Rep, h]
 | .ms _ _ _, cs, h => by simp [AV.flat0] at h
 | .ref _, cs, h => by simp [AV.flat0] at h
 | .ptr _ _ _, cs, h => by simp [AV.flat0] at h
 | .mp _, cs, h => by simp [AV.flat0] at h
 | .fn _ _ _, cs, h => by simp [AV.flat0] at h
 | .tup _, cs, h => by simp [AV.flat0] at h
 | .raw v, cs, h => by
   unfold AV.flat0 at h
   split at h <;> simp_all [Rep]
   subst h
   exact ⟨rfl, rfl⟩
theorem flat0L_rep {C : Cx} : ∀ (xs : List AV) (cs : List Value), AV.flat0L xs = some cs → ∃ css, RepL C xs css ∧ cs = css.flatten
 | [], cs, h => by simp [AV.flat0L] at h; subst h; exact ⟨[], by simp [RepL], rfl⟩
 | x :: xs, cs, h => by
   simp only [AV.flat0L] at h
   split at h
   · rename_i a b ha hb
     simp only [Option.some.injEq] at h
     subst h
     obtain ⟨css, h1, h2⟩ := flat0L_rep xs b hb
     exact ⟨a :: css, by simp only [RepL]; exact ⟨a, css, rfl, flat0_rep x a ha, h1⟩, by simp [h2]⟩
   · cases h
end
def sameV : Value → Value → Bool
 | .bool a, .bool b => a == b
 | .int j a, .int k b => decide (j = k) && decide (a = b)
 | .string a, .string b => decide (a = b)
 | .slice none 0 0, .slice none 0 0 => true
 | .pointer none, .pointer none => true
 | .map none, .map none => true
 | .nilFunc, .nilFunc => true
 | _, _ => false
theorem sameV_eq {a b : Value} (h : sameV a b = true) : a = b := by
 unfold sameV at h
 split at h <;> simp_all
def sameVs : List Value → List Value → Bool
 | [], [] => true
 | a :: x, b :: y => sameV a b && sameVs x y
 | _, _ => false
theorem sameVs_eq : ∀ {a b : List Value}, sameVs a b = true → a = b
 | [], [], _ => rfl
 | a :: x, b :: y, h => by simp [sameVs] at h; rw [sameV_eq h.1, sameVs_eq h.2]
 | [], _ :: _, h => by simp [sameVs] at h
 | _ :: _, [], h => by simp [sameVs] at h
def tZero (P : Program) (t : TypeId) : Option AV :=
 match P.info? t with
 | some i => match i.zero with
   | some v => match (zAV P 8 t).flat0 with
     | some cs => if sameVs cs v.cells.toList && (isAggV v == (zAV P 8 t).agg) && !isTupV v && (zAV P 8 t).idf then some (zAV P 8 t) else none
     | none => none
   | none => none
 | none => none
theorem tZero_spec {t : TypeId} {z : AV} (h : tZero P t = some z) : ∃ i v, P.info? t = some i ∧ i.zero = some v ∧ (∀ C, RepV C z v) ∧ z.idf = true := by
 unfold tZero at h
 split at h
 · rename_i i hi
   split at h
   · rename_i v hv
     split at h
     · rename_i cs hc
       split at h
       · rename_i hb
         simp only [Option.some.injEq] at h
         subst h
         simp only [Bool.and_eq_true, beq_iff_eq, Bool.not_eq_true'] at hb
         refine ⟨i, v, hi, hv, fun C => ⟨?_, hb.1.1.2, hb.1.2⟩, hb.2⟩
         rw [← sameVs_eq hb.1.1.1]
         exact flat0_rep _ _ hc
       · cases h
     · cases h
   · cases h
 · cases h
def allocK (P : Program) (e : TypeId) (hp : HP) (id : Nat) (K : AV → HP → Prop) : Prop :=
 match tZero P e with
 | some z => K (.ptr id [] 0) ((id, .var z) :: hp)
 | none => False
theorem newVar_sound {e : TypeId} {x : AV} {v : Value} (hi : HInv E hp ι dom im w) (hid : ¬ dom id) (hx : RepV ⟨ι, dom, im, w⟩ x v) :
 ∃ ι' w', (newVar e v).run P w = .ok ⟨w.heap.size, 0, none⟩ w' ∧ HInv E ((id, .var x) :: hp) ι' (fun o => dom o ∨ o = id) im w' ∧ Cx.Le ⟨ι, dom, im, w⟩ ⟨ι', fun o => dom o ∨ o = id, im, w'⟩ ∧ ι' id = w.heap.size := by
 have hle : Cx.Le ⟨ι, dom, im, w⟩ ⟨updι ι id w.heap.size, fun o => dom o ∨ o = id, im, w.alloc (.cells v.cells e)⟩ :=
  (Cx.Le.alloc ⟨ι, dom, im, w⟩ _).trans (Cx.Le.upd hid)
 refine ⟨updι ι id w.heap.size, w.alloc (.cells v.cells e), ?_, hi.allocOwn hid ⟨v.cells, e, heap_alloc_new w _, hx.1.mono hle⟩, hle, by simp [updι]⟩
 simp [newVar, newRow]
theorem alloc_sound {e : TypeId} (hi : HInv E hp ι dom im w) (hid : ¬ dom id) (hk : allocK P e hp id K) :
 ∃ r hp' v ι' w', K r hp' ∧ (Instr.alloc e true (.tuple #[])).run P w = .ok v w' ∧ HInv E hp' ι' (fun o => dom o ∨ o = id) im w' ∧ Cx.Le ⟨ι, dom, im, w⟩ ⟨ι', fun o => dom o ∨ o = id, im, w'⟩ ∧ RepT ⟨ι', fun o => dom o ∨ o = id, im, w'⟩ r v := by
 unfold allocK at hk
 split at hk
 · rename_i z hz
   obtain ⟨i, v, h1, h2, h3, _⟩ := tZero_spec hz
   obtain ⟨ι', w', h4, h5, h6, h7⟩ := newVar_sound (P := P) (e := e) hi hid (h3 ⟨ι, dom, im, w⟩)
   refine ⟨_, _, .pointer (some ⟨w.heap.size, 0, none⟩), ι', w', hk, ?_, h5, h6, ?_⟩
   · simp [Instr.alloc, zeroValue, typeInfo, h1, h2, h4]
   · have := repT_ptr (C := ⟨ι', fun o => dom o ∨ o = id, im, w'⟩) (o := id) [] 0 (.inr rfl)
     simp only [h7] at this
     exact this
 · exact hk.elim
theorem box_sound {e : TypeId} {x : AV} {a : Value} (hi : HInv E hp ι dom im w) (hid : ¬ dom id) (hx : RepT ⟨ι, dom, im, w⟩ x a) (hok : x.ok = true) (hk : K (.ptr id [] 0) ((id, .var x) :: hp)) :
 ∃ r hp' v ι' w', K r hp' ∧ (Instr.box e a).run P w = .ok v w' ∧ HInv E hp' ι' (fun o => dom o ∨ o = id) im w' ∧ Cx.Le ⟨ι, dom, im, w⟩ ⟨ι', fun o => dom o ∨ o = id, im, w'⟩ ∧ RepT ⟨ι', fun o => dom o ∨ o = id, im, w'⟩ r v := by
 obtain ⟨ι', w', h4, h5, h6, h7⟩ := newVar_sound (P := P) (e := e) hi hid (hx.ok hok)
 refine ⟨_, _, .pointer (some ⟨w.heap.size, 0, none⟩), ι', w', hk, ?_, h5, h6, ?_⟩
 · simp [Instr.box, h4]
 · have := repT_ptr (C := ⟨ι', fun o => dom o ∨ o = id, im, w'⟩) (o := id) [] 0 (.inr rfl)
   simp only [h7] at this
   exact this
def tArr (P : Program) (t : TypeId) : Option (Nat × TypeId) :=
 match P.underlying t with
 | some (.array n e) => some (n, e)
 | _ => none
def nth (xs : List AV) (n : Int) : Option AV := if 0 ≤ n then xs[n.toNat]? else none
def indexAddrK (P : Program) (t : TypeId) (x i : AV) (K : AV → Prop) : Prop :=
 match x, i with
 | .sl xs _, .int _ n => match tElem P t, nth xs n with
   | some e, some y => tSize P e = some y.len ∧ K (.ref y)
   | _, _ => False
 | .ms o sz m, .int _ n => match tElem P t with
   | some e => 0 ≤ n ∧ n < m ∧ tSize P e = some sz ∧ K (.ptr o [n.toNat] (n.toNat * sz))
   | none => False
 | .ptr o p off, .int _ n => match tArr P t with
   | some (len, e) => match tSize P e with
     | some sz => 0 ≤ n ∧ n < len ∧ K (.ptr o (p ++ [n.toNat]) (off + n.toNat * sz))
     | none => False
   | none => False
 | .ref (.root r), .int _ n => match tArr P t with
   | some (len, e) => match r.1[n.toNat]? with
     | some b => len = 32 ∧ tSize P e = some 1 ∧ 0 ≤ n ∧ K (.ref (.int .u8 b.toNat))
     | none => False
   | none => False
 | .ref (.arr xs), .int _ n => match tArr P t, nth xs n with
   | some (len, e), some y => len = xs.length ∧ tSize P e = some y.len ∧ (∀ z ∈ xs, z.len = y.len) ∧ K (.ref y)
   | _, _ => False
 | _, _ => False
theorem tElem_spec {t e : TypeId} (h : tElem P t = some e) : P.underlying t = some (.slice e) := by
 unfold tElem at h; split at h <;> simp_all
theorem tArr_spec {t e : TypeId} {n : Nat} (h : tArr P t = some (n, e)) : P.underlying t = some (.array n e) := by
 unfold tArr at h; split at h <;> simp_all
theorem nth_spec {xs : List AV} {n : Int} {y : AV} (h : nth xs n = some y) : 0 ≤ n ∧ n < xs.length ∧ xs[n.toNat]? = some y := by
 unfold nth at h
 split at h
 · rename_i h0
   have := (List.getElem?_eq_some_iff.1 h).1
   exact ⟨h0, by omega, h⟩
 · cases h
theorem lens_uniform : ∀ (xs : List AV) (l i : Nat), (∀ z ∈ xs, z.len = l) → AV.lens (xs.take i) = (min i xs.length) * l
 | [], l, i, _ => by simp [AV.lens]
 | x :: xs, l, i, h => by
   cases i with
   | zero => simp [AV.lens]
   | succ i =>
     simp only [List.take_succ_cons, AV.lens, lens_uniform xs l i (fun z hz => h z (by simp [hz])), h x (by simp), List.length_cons]
     rw [Nat.succ_min_succ, Nat.succ_mul]
     omega
theorem indexAddr_sound {t : TypeId} {x i : AV} {a b : Value} {K : AV → Prop} (hx : RepT ⟨ι, dom, im, w⟩ x a) (hn : RepT ⟨ι, dom, im, w⟩ i b) (hk : indexAddrK P t x i K) :
 ∃ r v, K r ∧ (Instr.indexAt t a b).run P w = .ok v w ∧ RepT ⟨ι, dom, im, w⟩ r v := by
 unfold indexAddrK at hk
 split at hk
 · rename_i xs clip k n
   have hb := hn.int_of
   subst hb
   split at hk
   · rename_i e y he hy
     obtain ⟨hsz, hk⟩ := hk
     obtain ⟨h0, h1, h2⟩ := nth_spec hy
     have h3 := hx.one (by simp) rfl rfl
     simp only [Rep] at h3
     obtain ⟨A, c, h3, _, _, _, h5⟩ := h3
     simp only [List.cons.injEq, and_true] at h3
     subst h3
     rcases h5 with rfl | ⟨b, off, css, rfl, k2, k3, k4, ⟨sz, k5⟩, k6⟩
     · simp at h2
     obtain ⟨c', r1, r2, r3, _⟩ := row_elem k4 k5 h2
     have hl := Rep.length y c' r1
     refine ⟨_, .pointer (some ⟨b, off + n.toNat * sz, none⟩), hk, ?_, repT_ref k2 k3 r1 (k6.part r3)⟩
     have hsz' : tSize P e = some sz := by rw [hsz, ← hl, r2]
     have hu := tElem_spec he
     have : n < (xs.length : Int) := h1
     simp [Instr.indexAt, asIntOf, run_underlying' hu, h0, this, run_sizeOf' hsz', add_mk]
   · exact hk.elim
 · rename_i o sz m k n
   have hb := hn.int_of
   subst hb
   split at hk
   · rename_i e he
     obtain ⟨h0, h1, hsz, hk⟩ := hk
     have h3 := hx.one (by simp) rfl rfl
     simp only [Rep] at h3
     obtain ⟨A, c, h3, hd, _, _, h5⟩ := h3
     simp only [List.cons.injEq, and_true] at h3
     subst h3
     rcases h5 with h5 | ⟨_, rfl, _⟩
     · omega
     have hu := tElem_spec he
     refine ⟨_, .pointer (some ⟨ι o, n.toNat * sz, none⟩), hk, ?_, repT_ptr (C := ⟨ι, dom, im, w⟩) _ _ hd⟩
     simp [Instr.indexAt, asIntOf, run_underlying' hu, h0, h1, run_sizeOf' hsz, add_mk]
   · exact hk.elim
 · rename_i o p off k n
   have hb := hn.int_of
   subst hb
   split at hk
   · rename_i len e he
     split at hk
     · rename_i sz hsz
       obtain ⟨h0, h1, hk⟩ := hk
       obtain ⟨rfl, hd⟩ := hx.ptr_of
       have hu := tArr_spec he
       refine ⟨_, .pointer (some ⟨ι o, off + n.toNat * sz, none⟩), hk, ?_, repT_ptr (C := ⟨ι, dom, im, w⟩) _ _ hd⟩
       simp [Instr.indexAt, asIntOf, run_underlying' hu, h0, h1, run_sizeOf' hsz, add_mk, Instr.sureAddr]
     · exact hk.elim
   · exact hk.elim
 · rename_i r k n
   have hb := hn.int_of
   subst hb
   split at hk
   · rename_i len e he
     split at hk
     · rename_i b0 hb0
       obtain ⟨rfl, hsz, h0, hk⟩ := hk
       obtain ⟨b, off, c, rfl, k1, k2, k3, k4⟩ := hx.ref_of
       have hu := tArr_spec he
       have hlt := (List.getElem?_eq_some_iff.1 hb0).1
       rw [r.2] at hlt
       obtain ⟨h5, h6⟩ := Rep.sub (.root r) [n.toNat] (.int .u8 b0.toNat) n.toNat c (by simp [AV.sub, hb0]) (by simp [AV.offs]) k3
       refine ⟨_, .pointer (some ⟨b, off + n.toNat, none⟩), hk, ?_, repT_ref k1 k2 h5 (k4.part (List.take_prefix _ _))⟩
       simp [Instr.indexAt, asIntOf, run_underlying' hu, h0, show n < (32 : Int) by omega, run_sizeOf' hsz, add_mk, Instr.sureAddr]
     · exact hk.elim
   · exact hk.elim
 · rename_i xs k n
   have hb := hn.int_of
   subst hb
   split at hk
   · rename_i len e y he hy
     obtain ⟨hlen, hsz, hun, hk⟩ := hk
     obtain ⟨h0, h1, h2⟩ := nth_spec hy
     obtain ⟨b, off, c, rfl, k1, k2, k3, k4⟩ := hx.ref_of
     have hu := tArr_spec he
     have hlt := (List.getElem?_eq_some_iff.1 h2).1
     obtain ⟨h5, h6⟩ := Rep.sub (.arr xs) [n.toNat] y (n.toNat * y.len) c (by simp only [AV.sub]; rw [sub_one]; exact h2)
      (by simp only [AV.offs]; rw [offs_one xs _ hlt, lens_uniform xs y.len n.toNat hun, Nat.min_eq_left (by omega)]) k3
     refine ⟨_, .pointer (some ⟨b, off + n.toNat * y.len, none⟩), hk, ?_, repT_ref k1 k2 h5 (k4.part (List.take_prefix _ _))⟩
     simp [Instr.indexAt, asIntOf, run_underlying' hu, h0, show n < (len : Int) by omega, run_sizeOf' hsz, add_mk, Instr.sureAddr]
   · exact hk.elim
 · exact hk.elim
def indexK (P : Program) (t : TypeId) (x i : AV) (K : AV → Prop) : Prop :=
 match x, i with
 | .root r, .int _ n => match tArr P t with
   | some (len, e) => match r.1[n.toNat]? with
     | some b => len = 32 ∧ tSize P e = some 1 ∧ tAgg P e = some false ∧ 0 ≤ n ∧ K (.int .u8 b.toNat)
     | none => False
   | none => False
 | .arr xs, .int _ n => match tArr P t, nth xs n with
   | some (len, e), some y => len = xs.length ∧ tSize P e = some y.len ∧ tAgg P e = some y.agg ∧ (∀ z ∈ xs, z.len = y.len) ∧ K y
   | _, _ => False
 | _, _ => False
theorem index_sound {t : TypeId} {x i : AV} {a b : Value} {K : AV → Prop} (hx : RepT ⟨ι, dom, im, w⟩ x a) (hn : RepT ⟨ι, dom, im, w⟩ i b) (hk : indexK P t x i K) :
 ∃ r v, K r ∧ (Instr.index t a b).run P w = .ok v w ∧ RepT ⟨ι, dom, im, w⟩ r v := by
 unfold indexK at hk
 split at hk
 · rename_i r k n
   have hb := hn.int_of
   subst hb
   split at hk
   · rename_i len e he
     split at hk
     · rename_i b0 hb0
       obtain ⟨rfl, hsz, hag, h0, hk⟩ := hk
       obtain ⟨cs, rfl, k3⟩ := (hx.ok rfl).agg_of rfl
       have hu := tArr_spec he
       have hlt := (List.getElem?_eq_some_iff.1 hb0).1
       rw [r.2] at hlt
       obtain ⟨h5, h6⟩ := Rep.sub (.root r) [n.toNat] (.int .u8 b0.toNat) n.toNat cs (by simp [AV.sub, hb0]) (by simp [AV.offs]) k3
       obtain ⟨v, hv, hr⟩ := run_part' (P := P) h5 w hag hsz
       refine ⟨_, v, hk, ?_, .inr (RepS.of hr)⟩
       simp [Instr.index, asIntOf, run_underlying' hu, h0, show n < (32 : Int) by omega, run_sizeOf' hsz, hv]
     · exact hk.elim
   · exact hk.elim
 · rename_i xs k n
   have hb := hn.int_of
   subst hb
   split at hk
   · rename_i len e y he hy
     obtain ⟨hlen, hsz, hag, hun, hk⟩ := hk
     obtain ⟨h0, h1, h2⟩ := nth_spec hy
     obtain ⟨cs, rfl, k3⟩ := (hx.ok rfl).agg_of rfl
     have hu := tArr_spec he
     have hlt := (List.getElem?_eq_some_iff.1 h2).1
     obtain ⟨h5, h6⟩ := Rep.sub (.arr xs) [n.toNat] y (n.toNat * y.len) cs (by simp only [AV.sub]; rw [sub_one]; exact h2)
      (by simp only [AV.offs]; rw [offs_one xs _ hlt, lens_uniform xs y.len n.toNat hun, Nat.min_eq_left (by omega)]) k3
     obtain ⟨v, hv, hr⟩ := run_part' (P := P) h5 w hag hsz
     refine ⟨_, v, hk, ?_, .inr (RepS.of hr)⟩
     simp [Instr.index, asIntOf, run_underlying' hu, h0, show n < (len : Int) by omega, run_sizeOf' hsz, hv]
   · exact hk.elim
 · exact hk.elim
end
end Go.Ab
namespace Go.Ab
open Go.RowKit
section
variable {P : Program} {E : Env} {hp : HP} {ι : Nat → Nat} {dom im : Nat → Prop} {w : World} {id : Nat} {K : AV → HP → Prop}
def boundOf (x : Option AV) (d : Nat) : Option Nat :=
 match x with
 | none => some d
 | some (.int _ n) => if 0 ≤ n then some n.toNat else none
 | some _ => none
def sliceK (P : Program) (t : TypeId) (x : AV) (lo hi mx : Option AV) (K : AV → Prop) : Prop :=
 match x with
 | .sl xs clip => match tElem P t, mx, boundOf lo 0, boundOf hi xs.length with
   | some e, none, some l, some h => l ≤ h ∧ h ≤ xs.length ∧ (tSize P e).isSome ∧ (∀ y ∈ xs, tSize P e = some y.len) ∧ K (.sl ((xs.take h).drop l) (clip && decide (h = xs.length)))
   | some e, some m, some l, some h => match boundOf (some m) 0 with
     | some m => hi.isSome = true ∧ l ≤ h ∧ h ≤ m ∧ m ≤ xs.length ∧ (tSize P e).isSome ∧ (∀ y ∈ xs, tSize P e = some y.len) ∧ K (.sl ((xs.take h).drop l) (decide (h = m)))
     | none => False
   | _, _, _, _ => False
 | .ref (.root r) => match tArr P t, lo, hi, mx with
   | some (n, e), none, none, none => n = 32 ∧ tSize P e = some 1 ∧ K (.sl (r.1.map fun b => .int .u8 b.toNat) true)
   | _, _, _, _ => False
 | _ => False
theorem run_bound {x : Option AV} {d l y : Nat} {v : Option Value} {code : BoundsCode} (h : boundOf x d = some l) (hv : ∀ a u, x = some a → v = some u → RepT ⟨ι, dom, im, w⟩ a u) (hn : x = none ↔ v = none) (hl : l ≤ y) :
 (x = none → l = d) ∧ ∀ u, v = some u → (Instr.sliceBound u y code).run P w = .ok l w := by
 unfold boundOf at h
 split at h
 · simp only [Option.some.injEq] at h
   exact ⟨fun _ => h.symm, fun u hu => by rw [hn.1 rfl] at hu; cases hu⟩
 · rename_i k n
   split at h
   · rename_i h0
     simp only [Option.some.injEq] at h
     refine ⟨fun e => (by cases e), fun u hu => ?_⟩
     have := (hv _ u rfl hu).int_of
     subst this
     have h1 : n ≤ (y : Int) := by omega
     simp [Instr.sliceBound, asIntOf, h0, h1, h]
   · cases h
 · cases h
theorem run_sliceBounds' {isSl : Bool} {len cap l h : Nat} {lo hi : Option AV} {vl vh : Option Value} (hl : boundOf lo 0 = some l) (hh : boundOf hi len = some h)
 (rl : ∀ a u, lo = some a → vl = some u → RepT ⟨ι, dom, im, w⟩ a u) (nl : lo = none ↔ vl = none) (rh : ∀ a u, hi = some a → vh = some u → RepT ⟨ι, dom, im, w⟩ a u) (nh : hi = none ↔ vh = none)
 (h1 : l ≤ h) (h2 : h ≤ cap) : (Instr.sliceBounds isSl len cap vl vh none).run P w = .ok (l, h, cap) w := by
 obtain ⟨a1, a2⟩ := run_bound (P := P) (code := .sliceB) hl rl nl h1
 obtain ⟨b1, b2⟩ := run_bound (P := P) (code := if isSl then .sliceAcap else .sliceAlen) hh rh nh h2
 unfold Instr.sliceBounds
 cases vl with
 | none =>
   have := a1 (nl.2 rfl)
   subst this
   cases vh with
   | none => simp [b1 (nh.2 rfl)]
   | some u => simp [b2 u rfl]
 | some ul =>
   cases vh with
   | none => simp [b1 (nh.2 rfl)] at h1 ⊢; have := a2 ul rfl; rw [b1 (nh.2 rfl)] at this; simp [this]
   | some u => simp [b2 u rfl, a2 ul rfl]
theorem run_sliceBounds3' {isSl : Bool} {len cap l h m : Nat} {lo hi : Option AV} {mx : AV} {vl vh : Option Value} {vm : Value} (hl : boundOf lo 0 = some l) (hh : boundOf hi len = some h) (hm : boundOf (some mx) 0 = some m)
 (rl : ∀ a u, lo = some a → vl = some u → RepT ⟨ι, dom, im, w⟩ a u) (nl : lo = none ↔ vl = none) (rh : ∀ a u, hi = some a → vh = some u → RepT ⟨ι, dom, im, w⟩ a u) (nh : hi = none ↔ vh = none) (rm : RepT ⟨ι, dom, im, w⟩ mx vm)
 (hs : hi ≠ none) (h1 : l ≤ h) (h2 : h ≤ m) (h3 : m ≤ cap) : (Instr.sliceBounds isSl len cap vl vh (some vm)).run P w = .ok (l, h, m) w := by
 obtain ⟨a1, a2⟩ := run_bound (P := P) (code := .slice3C) hl rl nl h1
 obtain ⟨b1, b2⟩ := run_bound (P := P) (code := .slice3B) hh rh nh h2
 obtain ⟨c1, c2⟩ := run_bound (P := P) (x := some mx) (v := some vm) (code := if isSl then .slice3Acap else .slice3Alen) hm (fun a u e1 e2 => by cases e1; cases e2; exact rm) (by simp) h3
 unfold Instr.sliceBounds
 cases vh with
 | none => exact absurd (nh.2 rfl) hs
 | some u =>
   cases vl with
   | none =>
     have := a1 (nl.2 rfl)
     subst this
     simp [b2 u rfl, c2 vm rfl]
   | some ul => simp [b2 u rfl, c2 vm rfl, a2 ul rfl]
theorem sl_cut {C : Cx} {xs : List AV} {A : Option Addr} {c l h m sz : Nat} {clip : Bool} (hA : xs = [] ∨ ∃ b off css, A = some ⟨b, off, none⟩ ∧ C.im b ∧ b < C.w.heap.size ∧ RepL { C with dom := fun _ => False } xs css ∧ (∃ sz, ∀ x ∈ css, x.length = sz) ∧ cellsAt C.w b off css.flatten)
 (hc : m ≤ maxLen) (hsz : ∀ y ∈ xs, sz = y.len) (h1 : l ≤ h) (h2 : h ≤ xs.length) (h3 : h ≤ m) (_h4 : m ≤ c) (hclip : clip = true → m = h) :
 RepT C (.sl ((xs.take h).drop l) clip) (.slice (if m = l then A else A.map (·.add (l * sz))) (h - l) (m - l)) := by
 refine .inr ⟨?_, rfl, rfl⟩
 have hlen : ((xs.take h).drop l).length = h - l := by simp; omega
 simp only [Rep, Value.cells]
 refine ⟨_, _, by rw [hlen], by omega, by omega, fun hcl => by have := hclip hcl; omega, ?_⟩
 by_cases hemp : (xs.take h).drop l = []
 · exact .inl hemp
 · have hlt : l < h := by
    rcases Nat.lt_or_ge l h with h' | h'
    · exact h'
    · exact absurd (List.drop_of_length_le (by simp; omega)) hemp
   rcases hA with rfl | ⟨b, off, css, rfl, k2, k3, k4, ⟨sz', k5⟩, k6⟩
   · simp at hemp
   · have hcl := RepL.len_eq _ _ k4
     have hss : sz' = sz := by
      obtain ⟨y, hy⟩ : ∃ y, xs[0]? = some y := ⟨_, List.getElem?_eq_getElem (by omega)⟩
      obtain ⟨c0, e1, e2⟩ := RepL.get _ _ _ _ k4 hy
      have e3 := Rep.length y c0 e2
      have e4 := k5 c0 (List.mem_of_getElem? e1)
      have e5 := hsz y (List.mem_of_getElem? hy)
      omega
     subst hss
     have hne : m ≠ l := by omega
     refine .inr ⟨b, off + l * sz', (css.take h).drop l, by rw [if_neg hne]; simp [add_mk], k2, k3, RepL.drop _ _ l (RepL.take _ _ h k4), ⟨sz', fun x hx => k5 x (List.mem_of_mem_take (List.mem_of_mem_drop hx))⟩, ?_⟩
     refine k6.part ?_
     rw [flatten_drop_uniform k5 l (by omega)]
     have e : css.drop l = (css.take h).drop l ++ css.drop h := by
      conv => lhs; rw [← List.take_append_drop h css]
      rw [List.drop_append_of_le_length (by simp; omega)]
     rw [e, List.flatten_append]
     exact List.prefix_append _ _
theorem slice_sound {t : TypeId} {x : AV} {a : Value} {lo hi mx : Option AV} {vl vh vm : Option Value} {K : AV → Prop} (hx : RepT ⟨ι, dom, im, w⟩ x a)
 (rl : ∀ a u, lo = some a → vl = some u → RepT ⟨ι, dom, im, w⟩ a u) (nl : lo = none ↔ vl = none) (rh : ∀ a u, hi = some a → vh = some u → RepT ⟨ι, dom, im, w⟩ a u) (nh : hi = none ↔ vh = none)
 (rm : ∀ a u, mx = some a → vm = some u → RepT ⟨ι, dom, im, w⟩ a u) (nm : mx = none ↔ vm = none) (hk : sliceK P t x lo hi mx K) :
 ∃ r v, K r ∧ (Instr.sliceAt t a vl vh vm).run P w = .ok v w ∧ RepT ⟨ι, dom, im, w⟩ r v := by
 unfold sliceK at hk
 split at hk
 · rename_i xs clip
   have h3 := hx.one (by simp) rfl rfl
   simp only [Rep] at h3
   obtain ⟨A, c, h3, hc1, hc2, hcl, h5⟩ := h3
   simp only [List.cons.injEq, and_true] at h3
   subst h3
   split at hk
   · rename_i e _ l h he hbl hbh
     obtain ⟨h1, h2, hso, hsz, hk⟩ := hk
     obtain ⟨sz, hss⟩ := Option.isSome_iff_exists.1 hso
     have hu := tElem_spec he
     have := nm.1 rfl
     subst this
     refine ⟨_, _, hk, ?_, sl_cut (C := ⟨ι, dom, im, w⟩) (A := A) (c := c) (m := c) (sz := sz) h5 hc2 (fun y hy => by have := hsz y hy; rw [hss] at this; simpa using this) h1 h2 (by omega) (Nat.le_refl _) (fun hq => by
      simp only [Bool.and_eq_true, decide_eq_true_eq] at hq
      have := hcl hq.1
      omega)⟩
     simp [Instr.sliceAt, run_underlying' hu, Instr.slice, run_sliceBounds' (P := P) (isSl := true) (len := xs.length) (cap := c) hbl hbh rl nl rh nh h1 (by omega), run_sizeOf' hss]
   · rename_i e m' l h he hbl hbh
     split at hk
     · rename_i m hm
       obtain ⟨hhi, h1, h2, h4, hso, hsz, hk⟩ := hk
       obtain ⟨sz, hss⟩ := Option.isSome_iff_exists.1 hso
       have hu := tElem_spec he
       cases vm with
       | none => have := nm.2 rfl; cases this
       | some um =>
         cases hi with
         | none => cases hhi
         | some hh =>
           refine ⟨_, _, hk, ?_, sl_cut (C := ⟨ι, dom, im, w⟩) (A := A) (c := c) (m := m) (sz := sz) h5 (by omega) (fun y hy => by have := hsz y hy; rw [hss] at this; simpa using this) h1 (by omega) (by omega) (by omega) (fun hq => by
            simp only [decide_eq_true_eq] at hq
            omega)⟩
           simp [Instr.sliceAt, run_underlying' hu, Instr.slice, run_sliceBounds3' (P := P) (isSl := true) (len := xs.length) (cap := c) hbl hbh hm rl nl rh nh (rm _ um rfl rfl) (by simp) h1 h2 (by omega), run_sizeOf' hss]
     · exact hk.elim
   · exact hk.elim
 · rename_i r
   split at hk
   · rename_i n e he
     obtain ⟨rfl, hss, hk⟩ := hk
     have hu := tArr_spec he
     obtain ⟨b, off, c, rfl, k1, k2, k3, k4⟩ := hx.ref_of
     have e1 := nl.1 rfl
     have e2 := nh.1 rfl
     have e3 := nm.1 rfl
     subst e1; subst e2; subst e3
     refine ⟨_, .slice (some ⟨b, off, none⟩) 32 32, hk, ?_, .inr ⟨?_, rfl, rfl⟩⟩
     · simp [Instr.sliceAt, run_underlying' hu, Instr.sureAddr, Instr.sliceBounds, run_sizeOf' hss, add_mk]
     · simp only [Rep] at k3
       subst k3
       simp only [Rep, Value.cells]
       refine ⟨_, 32, by simp [r.2], by simp [r.2], by simp [maxLen], fun _ => by simp [r.2], .inr ⟨b, off, (rootCells r).map fun v => [v], rfl, k1, k2, ?_, ⟨1, fun x hx => ?_⟩, ?_⟩⟩
       · unfold rootCells
         generalize r.1 = l
         induction l with
         | nil => simp [RepL]
         | cons a l ih => simp only [List.map_cons, RepL]; exact ⟨_, _, rfl, by simp [Rep], ih⟩
       · simp only [List.mem_map] at hx
         obtain ⟨v, _, rfl⟩ := hx
         rfl
       · have : ((rootCells r).map fun v => [v]).flatten = rootCells r := by
          generalize rootCells r = l
          induction l with
          | nil => rfl
          | cons a l ih => simp [ih]
         rw [this]
         exact k4
   · exact hk.elim
 · exact hk.elim
def lenK (P : Program) (t : TypeId) (hp : HP) (x : AV) (K : AV → Prop) : Prop :=
 match P.underlying t, x with
 | some (.slice _), .sl xs _ => K (.int .i64 xs.length)
 | some (.slice _), .ms _ _ n => K (.int .i64 n)
 | some .string, .str s => K (.int .i64 s.size)
 | some (.array n _), _ => K (.int .i64 n)
 | some (.map _ _), .mp o => match HP.get hp o with
   | some (.amap es) => K (.int .i64 es.length)
   | _ => False
 | _, _ => False
theorem len_sound {t : TypeId} {x : AV} {a : Value} {K : AV → Prop} (hi : HInv E hp ι dom im w) (hx : RepT ⟨ι, dom, im, w⟩ x a) (hk : lenK P t hp x K) (ty : TypeId) :
 ∃ r v, K r ∧ (Builtin.len_ #[t] ty #[a]).run P w = .ok v w ∧ RepT ⟨ι, dom, im, w⟩ r v := by
 unfold lenK at hk
 split at hk
 · rename_i hu
   have h1 := hx.one (by simp) rfl rfl
   simp only [Rep] at h1
   obtain ⟨A, c, h1, _⟩ := h1
   simp only [List.cons.injEq, and_true] at h1
   subst h1
   exact ⟨_, _, hk, by simp [Builtin.len_, run_underlying' hu, goInt], repS_int _ _⟩
 · rename_i hu
   have h1 := hx.one (by simp) rfl rfl
   simp only [Rep] at h1
   obtain ⟨A, c, h1, _⟩ := h1
   simp only [List.cons.injEq, and_true] at h1
   subst h1
   exact ⟨_, _, hk, by simp [Builtin.len_, run_underlying' hu, goInt], repS_int _ _⟩
 · rename_i hu
   have h1 := hx.str_of
   subst h1
   exact ⟨_, _, hk, by simp [Builtin.len_, run_underlying' hu, goInt], repS_int _ _⟩
 · rename_i hu
   exact ⟨_, _, hk, by simp [Builtin.len_, run_underlying' hu, goInt], repS_int _ _⟩
 · rename_i o hu
   split at hk
   · rename_i es hg
     have h1 := hx.one (by simp) rfl rfl
     simp only [Rep, List.cons.injEq, and_true] at h1
     obtain ⟨h1, _⟩ := h1
     subst h1
     obtain ⟨ms, clock, h2, ks, vs, _, _, _, _, h3, _⟩ := hi.own o _ hg
     have hlen : ms.size = es.length := by have := congrArg List.length h3; simpa using this
     exact ⟨_, _, hk, by simp [Builtin.len_, run_underlying' hu, goInt, getObj, Sem.run, h2, hlen], repS_int _ _⟩
   · exact hk.elim
 · exact hk.elim
end
end Go.Ab
namespace Go.Ab
open Go.RowKit
section
variable {P : Program} {E : Env} {hp : HP} {ι : Nat → Nat} {dom im : Nat → Prop} {w : World} {id : Nat} {K : AV → HP → Prop}
def inOrder : Nat → List (Nat × AV) → Bool
 | _, [] => true
 | i, p :: ps => decide (p.1 = i) && inOrder (i + 1) ps
def buildSliceK (P : Program) (t : TypeId) (n : Nat) (parts : List (Nat × AV)) (K : AV → Prop) : Prop :=
 match tElem P t with
 | some e => match tSize P e, tZero P e with
   | some sz, some _ => parts.length = n ∧ inOrder 0 parts = true ∧ n * sz ≤ 2 ^ 24 ∧ n ≤ 2 ^ 24 ∧ (∀ p ∈ parts, p.2.ok = true ∧ p.2.idf = true ∧ p.2.len = sz) ∧ K (.sl (parts.map (·.2)) true)
   | _, _ => False
 | none => False
theorem foldl_set (c : List Value) : ∀ (k : Nat) (pre post : List Value) (off : Nat), pre.length = off + k → c.length ≤ post.length →
 (c.zipIdx k).foldl (fun (cs : Array Value) (x : Value × Nat) => cs.setIfInBounds (off + x.2) x.1) (pre ++ post).toArray = (pre ++ c ++ post.drop c.length).toArray := by
 induction c with
 | nil => intro k pre post off _ _; simp
 | cons v c ih =>
   intro k pre post off h1 h2
   cases post with
   | nil => simp at h2
   | cons u post =>
     simp only [List.zipIdx_cons, List.foldl_cons]
     have e : ((pre ++ u :: post).toArray.setIfInBounds (off + k) v) = ((pre ++ [v]) ++ post).toArray := by
      simp only [List.setIfInBounds_toArray, ← h1]
      simp
     rw [e, ih (k + 1) (pre ++ [v]) post off (by simp; omega) (by simpa using h2)]
     simp
theorem fill_inOrder {C : Cx} {sz : Nat} : ∀ (parts : List (Nat × AV)) (vs : List (Nat × Value)) (i : Nat) (pre rest : List Value), inOrder i parts = true → vs.map (·.1) = parts.map (·.1) →
 (∀ (j : Nat) (p : Nat × AV) (v : Nat × Value), parts[j]? = some p → vs[j]? = some v → RepV C p.2 v.2) → (∀ p ∈ parts, p.2.len = sz) → pre.length = i * sz → rest.length = parts.length * sz →
 ∃ css, RepL C (parts.map (·.2)) css ∧ (∀ c ∈ css, c.length = sz) ∧ Instr.fill (fun i => some (i * sz, sz)) (pre ++ rest).toArray vs = some (pre ++ css.flatten).toArray
 | [], vs, i, pre, rest, _, hm, _, _, _, hr => by
   have : vs = [] := by simpa using hm
   subst this
   have : rest = [] := List.eq_nil_of_length_eq_zero (by simpa using hr)
   subst this
   exact ⟨[], by simp [RepL], by simp, by simp [Instr.fill]⟩
 | p :: ps, vs, i, pre, rest, ho, hm, hv, hl, hpre, hrest => by
   cases vs with
   | nil => simp at hm
   | cons v vs =>
     simp only [inOrder, Bool.and_eq_true, decide_eq_true_eq] at ho
     simp only [List.map_cons, List.cons.injEq] at hm
     have rv := hv 0 p v rfl rfl
     have hvl := Rep.length _ _ rv.1
     have hpl := hl p (by simp)
     have hvi : v.1 = i := hm.1.trans ho.1
     obtain ⟨v1, v2⟩ := v
     simp only at hvi rv hvl
     subst hvi
     have hsz : v2.cells.size = sz := by rw [← hpl, ← hvl]; simp
     have hrl : rest.length = sz + ps.length * sz := by rw [hrest, List.length_cons, Nat.succ_mul]; omega
     have hfold := foldl_set v2.cells.toList 0 pre rest (v1 * sz) (by omega) (by simp; omega)
     obtain ⟨css, h1, h2, h3⟩ := fill_inOrder (C := C) (sz := sz) ps vs (v1 + 1) (pre ++ v2.cells.toList) (rest.drop v2.cells.toList.length) ho.2 hm.2 (fun j p' v' hp' hv' => hv (j + 1) p' v' (by simpa using hp') (by simpa using hv'))
      (fun p' hp' => hl p' (by simp [hp'])) (by simp [hsz, hpre, Nat.succ_mul]) (by simp [hsz]; omega)
     refine ⟨v2.cells.toList :: css, by simp only [List.map_cons, RepL]; exact ⟨_, css, rfl, rv.1, h1⟩, ?_, ?_⟩
     · intro c hc
       rcases List.mem_cons.1 hc with rfl | hc
       · simp [hsz]
       · exact h2 c hc
     · unfold Instr.fill
       simp only [hsz, ne_eq, not_true_eq_false, decide_false, Bool.false_or]
       rw [if_neg (by simp; omega)]
       have e : v2.cells.zipIdx.foldl (fun cs (x : Value × Nat) => cs.setIfInBounds (v1 * sz + x.2) x.1) (pre ++ rest).toArray = (pre ++ v2.cells.toList ++ rest.drop v2.cells.toList.length).toArray := by
        rw [← Array.foldl_toList, Array.toList_zipIdx]
        exact hfold
       rw [e, h3]
       simp
theorem newRow_im {e : TypeId} {cells : Array Value} (hi : HInv E hp ι dom im w) :
 (newRow e cells).run P w = .ok ⟨w.heap.size, 0, none⟩ (w.alloc (.cells cells e)) ∧ HInv E hp ι dom (fun b => im b ∨ b = w.heap.size) (w.alloc (.cells cells e)) ∧
  Cx.Le ⟨ι, dom, im, w⟩ ⟨ι, dom, fun b => im b ∨ b = w.heap.size, w.alloc (.cells cells e)⟩ :=
 ⟨by simp [newRow], hi.allocIm _, (Cx.Le.alloc ⟨ι, dom, im, w⟩ _).trans (Cx.Le.grow ⟨ι, dom, im, w.alloc (.cells cells e)⟩ (fun _ h => h) (fun _ _ => rfl) (fun _ h => .inl h))⟩
theorem buildSlice_sound {t : TypeId} {n : Nat} {parts : List (Nat × AV)} {vs : List (Nat × Value)} {K : AV → Prop} (hi : HInv E hp ι dom im w) (hm : vs.map (·.1) = parts.map (·.1))
 (hv : ∀ (j : Nat) (p : Nat × AV) (v : Nat × Value), parts[j]? = some p → vs[j]? = some v → RepT ⟨ι, dom, im, w⟩ p.2 v.2) (hk : buildSliceK P t n parts K) :
 ∃ r v im' w', K r ∧ (Instr.buildSlice t n vs.toArray).run P w = .ok v w' ∧ HInv E hp ι dom im' w' ∧ Cx.Le ⟨ι, dom, im, w⟩ ⟨ι, dom, im', w'⟩ ∧ RepT ⟨ι, dom, im', w'⟩ r v := by
 unfold buildSliceK at hk
 split at hk
 · rename_i e he
   split at hk
   · rename_i sz z hsz hz
     obtain ⟨hlen, ho, hbig, hbig2, hall, hk⟩ := hk
     have hu := tElem_spec he
     obtain ⟨i, zv, z1, z2, z3, _⟩ := tZero_spec hz
     have hRV : ∀ (j : Nat) (p : Nat × AV) (v : Nat × Value), parts[j]? = some p → vs[j]? = some v → RepV ⟨ι, fun _ => False, im, w⟩ p.2 v.2 := fun j p v h1 h2 => by
      have := (hv j p v h1 h2).ok (hall p (List.mem_of_getElem? h1)).1
      exact ⟨Rep.idf (C := ⟨ι, dom, im, w⟩) _ _ (hall p (List.mem_of_getElem? h1)).2.1 this.1, this.2⟩
     have hzl : z.len = zv.cells.size := by have := Rep.length _ _ (z3 ⟨ι, dom, im, w⟩).1; simpa using this.symm
     obtain ⟨zero, hz0⟩ : ∃ zero : Array Value, (n * sz = 0 ∧ zero = #[]) ∨ (n * sz ≠ 0 ∧ zero = zv.cells) := by
      by_cases h0 : n * sz = 0
      · exact ⟨#[], .inl ⟨h0, rfl⟩⟩
      · exact ⟨zv.cells, .inr ⟨h0, rfl⟩⟩
     obtain ⟨css, c1, c2, c3⟩ := fill_inOrder (C := ⟨ι, fun _ => False, im, w⟩) (sz := sz) parts vs 0 [] ((Array.range (n * sz)).map (zero[· % zero.size]!)).toList ho hm hRV (fun p hp => (hall p hp).2.2) (by simp) (by simp [hlen])
     obtain ⟨r1, r2, r3⟩ := newRow_im (P := P) (e := e) (cells := css.flatten.toArray) hi
     refine ⟨_, .slice (some ⟨w.heap.size, 0, none⟩) n n, _, _, hk, ?_, r2, r3, .inr ⟨?_, rfl, rfl⟩⟩
     · unfold Instr.buildSlice
       simp only [Sem.run_bind, run_underlying' hu, Result.andThen_ok, run_sizeOf' hsz]
       rw [if_neg (by omega)]
       simp only [List.nil_append, Array.toArray_toList] at c3
       rcases hz0 with ⟨h0, rfl⟩ | ⟨h0, rfl⟩
       · rw [if_pos h0]
         simp only [Sem.run_bind, Sem.run_pure, Result.andThen_ok, c3, r1]
       · rw [if_neg h0]
         have hzv : (zeroValue e).run P w = .ok zv w := by simp [zeroValue, typeInfo, z1, z2]
         simp only [Sem.run_bind, Sem.run_pure, Result.andThen_ok, hzv, c3, r1]
     · simp only [Rep, Value.cells]
       refine ⟨some ⟨w.heap.size, 0, none⟩, n, by simp [hlen], by simp [hlen], ?_, fun _ => by simp [hlen], .inr ⟨w.heap.size, 0, css, rfl, .inr rfl, by simp, ?_, ⟨sz, c2⟩, ?_⟩⟩
       · simp [maxLen]; omega
       · exact RepL.mono r3.zero _ _ c1
       · have := cellsAt_of_block (w := w.alloc (.cells css.flatten.toArray e)) (heap_alloc_new w _)
         simpa using this
   · exact hk.elim
 · exact hk.elim
def setParts : List AV → List (Nat × AV) → Option (List AV)
 | zs, [] => some zs
 | zs, (i, x) :: ps => match zs[i]? with
   | some z => if x.len = z.len ∧ x.agg = z.agg ∧ x.ok = true then setParts (zs.set i x) ps else none
   | none => none
def buildK (P : Program) (t : TypeId) (parts : List (Nat × AV)) (K : AV → Prop) : Prop :=
 match P.underlying t, tZero P t with
 | some (.struct fs), some (.st zs) => match setParts zs parts with
   | some xs => fs.size = zs.length ∧ (∀ (i : Nat) (f : Field), fs[i]? = some f → AV.lens (zs.take i) = f.offset ∧ tSize P f.type = (zs[i]?).map AV.len) ∧ K (.st xs)
   | none => False
 | some (.array n e), some (.arr zs) => match setParts zs parts with
   | some xs => ∃ sz, tSize P e = some sz ∧ (∀ z ∈ zs, z.len = sz) ∧ n = zs.length ∧ K (.arr xs)
   | none => False
 | some (.array n e), some (.root r) => match parts with
   | [] => (tSize P e).isSome ∧ K (.root r)
   | [(i, .int .u8 m)] => tSize P e = some 1 ∧ n = 32 ∧ i < 32 ∧ 0 ≤ m ∧ m < 256 ∧ K (.root (rootSet r i m))
   | _ => False
 | _, _ => False
theorem run_mapM_list {α β : Type} {g : α → Sem β} {h : α → β} : ∀ (xs : List α), (∀ x ∈ xs, (g x).run P w = .ok (h x) w) → (xs.mapM g).run P w = .ok (xs.map h) w
 | [], _ => by simp
 | x :: xs, hx => by
   rw [List.mapM_cons]
   simp [hx x (by simp), run_mapM_list xs (fun y hy => hx y (by simp [hy]))]
theorem run_mapM_arr {α β : Type} {g : α → Sem β} {h : α → β} (xs : Array α) (hx : ∀ x ∈ xs, (g x).run P w = .ok (h x) w) : (xs.mapM g).run P w = .ok (xs.map h) w := by
 rw [Array.mapM_eq_mapM_toList]
 simp [run_mapM_list (P := P) (w := w) (g := g) (h := h) xs.toList (fun x hm => hx x (by simpa using hm))]
 apply Array.ext'
 simp
theorem lens_take_set {zs : List AV} {i : Nat} {x z : AV} (hz : zs[i]? = some z) (hl : x.len = z.len) (j : Nat) : AV.lens ((zs.set i x).take j) = AV.lens (zs.take j) := by
 induction zs generalizing i j with
 | nil => simp
 | cons y ys ih =>
   cases j with
   | zero => simp
   | succ j =>
     cases i with
     | zero => simp at hz; subst hz; simp [AV.lens, hl]
     | succ i => simp at hz; simp [AV.lens, ih hz]
theorem fill_struct {C : Cx} {place : Nat → Option (Nat × Nat)} : ∀ (ps : List (Nat × AV)) (vs : List (Nat × Value)) (zs xs : List AV) (css : List (List Value)), RepL C zs css → vs.map (·.1) = ps.map (·.1) →
 (∀ (j : Nat) (p : Nat × AV) (v : Nat × Value), ps[j]? = some p → vs[j]? = some v → RepT C p.2 v.2) →
 (∀ i z, zs[i]? = some z → place i = some (AV.lens (zs.take i), z.len)) → setParts zs ps = some xs → ∃ css', RepL C xs css' ∧ Instr.fill place css.flatten.toArray vs = some css'.flatten.toArray
 | [], vs, zs, xs, css, hr, hm, _, _, hs => by
   have : vs = [] := by simpa using hm
   subst this
   simp [setParts] at hs
   subst hs
   exact ⟨css, hr, by simp [Instr.fill]⟩
 | (i, x) :: ps, vs, zs, xs, css, hr, hm, hv, hp, hs => by
   cases vs with
   | nil => simp at hm
   | cons v vs =>
     obtain ⟨v1, v2⟩ := v
     simp only [List.map_cons, List.cons.injEq] at hm
     obtain ⟨e, hm⟩ := hm
     subst e
     simp only [setParts] at hs
     split at hs
     · rename_i z hz
       split at hs
       · rename_i hc
         have rv := (hv 0 _ _ rfl rfl).ok hc.2.2
         have hvl := Rep.length _ _ rv.1
         simp only at hvl rv
         obtain ⟨c, hcc, hcr⟩ := RepL.get _ _ _ _ hr hz
         have hcl := Rep.length z c hcr
         have hlt : v1 < css.length := (List.getElem?_eq_some_iff.1 hcc).1
         have hltz : v1 < zs.length := (List.getElem?_eq_some_iff.1 hz).1
         have hpre := RepL.length _ _ (RepL.take _ _ v1 hr)
         have he : css.drop v1 = c :: css.drop (v1 + 1) := by
          rw [List.drop_eq_getElem_cons hlt]
          rw [List.getElem?_eq_getElem hlt] at hcc
          simp at hcc
          rw [hcc]
         have hsz : v2.cells.size = z.len := by rw [← hc.1, ← hvl]; simp
         have hall : css.flatten = (css.take v1).flatten ++ (c ++ (css.drop (v1 + 1)).flatten) := by
          conv => lhs; rw [← List.take_append_drop v1 css, he]
          simp
         have hset : RepL C (zs.set v1 x) (css.set v1 v2.cells.toList) := by
          rw [List.set_eq_take_append_cons_drop, List.set_eq_take_append_cons_drop, if_pos hlt, if_pos hltz]
          refine RepL.append _ _ _ _ (RepL.take _ _ _ hr) ?_
          simp only [RepL]
          exact ⟨_, _, rfl, rv.1, RepL.drop _ _ _ hr⟩
         obtain ⟨css', h1, h2⟩ := fill_struct (C := C) (place := place) ps vs (zs.set v1 x) xs (css.set v1 v2.cells.toList) hset hm (fun j p' v' h1 h2 => hv (j + 1) p' v' (by simpa using h1) (by simpa using h2))
          (fun j z' hz' => by
           rw [lens_take_set hz hc.1]
           by_cases ej : v1 = j
           · subst ej
             simp [hltz] at hz'
             subst hz'
             rw [hc.1]; exact hp v1 z hz
           · rw [List.getElem?_set_ne ej] at hz'
             exact hp j z' hz') hs
         refine ⟨css', h1, ?_⟩
         unfold Instr.fill
         rw [hp v1 z hz]
         simp only [hsz, ne_eq, not_true_eq_false, decide_false, Bool.false_or]
         have hfull : css.flatten.toArray.size = AV.lens (zs.take v1) + (z.len + (css.drop (v1 + 1)).flatten.length) := by
          rw [hall]; simp only [List.size_toArray, List.length_append, hcl]; omega
         rw [if_neg (by rw [hfull]; simp <;> omega)]
         have hfold := foldl_set v2.cells.toList 0 (css.take v1).flatten (c ++ (css.drop (v1 + 1)).flatten) (AV.lens (zs.take v1)) (by omega) (by simp only [List.length_append, Array.length_toList]; omega)
         have e2 : v2.cells.zipIdx.foldl (fun cs (x : Value × Nat) => cs.setIfInBounds (AV.lens (zs.take v1) + x.2) x.1) css.flatten.toArray = ((css.set v1 v2.cells.toList).flatten).toArray := by
          rw [← Array.foldl_toList, Array.toList_zipIdx, hall]
          rw [hfold]
          rw [List.set_eq_take_append_cons_drop, if_pos hlt]
          have : v2.cells.toList.length = c.length := by simp [hsz, hcl]
          rw [this, List.drop_left]
          simp
         rw [e2]
         exact h2
       · cases hs
     · cases hs
theorem build_sound {t : TypeId} {parts : List (Nat × AV)} {vs : List (Nat × Value)} {K : AV → Prop} (hm : vs.map (·.1) = parts.map (·.1))
 (hv : ∀ (j : Nat) (p : Nat × AV) (v : Nat × Value), parts[j]? = some p → vs[j]? = some v → RepT ⟨ι, dom, im, w⟩ p.2 v.2) (hk : buildK P t parts K) :
 ∃ r v, K r ∧ (Instr.build t vs.toArray).run P w = .ok v w ∧ RepT ⟨ι, dom, im, w⟩ r v := by
 unfold buildK at hk
 split at hk
 · rename_i fs zs hu hz
   obtain ⟨i, zv, z1, z2, z3, _⟩ := tZero_spec hz
   have hzr := z3 ⟨ι, dom, im, w⟩
   obtain ⟨cs, rfl, hcs⟩ := hzr.agg_of rfl
   simp only [Rep] at hcs
   obtain ⟨css, h1, rfl⟩ := hcs
   split at hk
   · rename_i xs hs
     obtain ⟨hfs, hfo, hk⟩ := hk
     have hpl := run_mapM_arr (P := P) (w := w) (g := fun f => do pure (f.offset, ← sizeOf f.type)) (h := fun f : Field => (f.offset, (tSize P f.type).getD 0)) fs (fun f hf => by
      obtain ⟨j, hj, hje⟩ := Array.mem_iff_getElem.1 hf
      have := (hfo j f (by rw [Array.getElem?_eq_getElem hj, hje])).2
      rw [List.getElem?_eq_getElem (by omega)] at this
      simp only [Option.map_some] at this
      simp [run_sizeOf' this, this])
     obtain ⟨css', c1, c2⟩ := fill_struct (C := ⟨ι, dom, im, w⟩) (place := fun i => (fs.map fun f : Field => (f.offset, (tSize P f.type).getD 0))[i]?) parts vs zs xs css h1 hm hv (fun j z hz => by
      have hlt := (List.getElem?_eq_some_iff.1 hz).1
      obtain ⟨f, hf⟩ : ∃ f, fs[j]? = some f := ⟨fs[j]'(by omega), Array.getElem?_eq_getElem (by omega)⟩
      have := hfo j f hf
      simp only [Array.getElem?_map, hf, Option.map_some]
      rw [this.2, hz, this.1]
      rfl) hs
     refine ⟨_, .agg css'.flatten.toArray, hk, ?_, .inr ⟨?_, rfl, rfl⟩⟩
     · unfold Instr.build
       simp only [Sem.run_bind, zeroValue, typeInfo, run_program, Result.andThen_ok, z1, z2, Sem.run_pure, run_underlying' hu, hpl, Value.cells]
       simp only [c2, Sem.run_pure]
     · simp only [Rep, Value.cells]
       exact ⟨css', c1, rfl⟩
   · exact hk.elim
 · rename_i n e zs hu hz
   obtain ⟨i, zv, z1, z2, z3, _⟩ := tZero_spec hz
   have hzr := z3 ⟨ι, dom, im, w⟩
   obtain ⟨cs, rfl, hcs⟩ := hzr.agg_of rfl
   simp only [Rep] at hcs
   obtain ⟨css, h1, rfl⟩ := hcs
   split at hk
   · rename_i xs hs
     obtain ⟨sz, hsz, hun, hn, hk⟩ := hk
     obtain ⟨css', c1, c2⟩ := fill_struct (C := ⟨ι, dom, im, w⟩) (place := fun i => some (i * sz, sz)) parts vs zs xs css h1 hm hv (fun j z hz => by
      have hlt := (List.getElem?_eq_some_iff.1 hz).1
      rw [lens_uniform zs sz j hun, Nat.min_eq_left (by omega), hun z (List.mem_of_getElem? hz)]) hs
     refine ⟨_, .agg css'.flatten.toArray, hk, ?_, .inr ⟨?_, rfl, rfl⟩⟩
     · unfold Instr.build
       simp only [Sem.run_bind, zeroValue, typeInfo, run_program, Result.andThen_ok, z1, z2, Sem.run_pure, run_underlying' hu, run_sizeOf' hsz, Value.cells]
       simp only [c2, Sem.run_pure]
     · simp only [Rep, Value.cells]
       exact ⟨css', c1, rfl⟩
   · exact hk.elim
 · rename_i n e r hu hz
   obtain ⟨i, zv, z1, z2, z3, _⟩ := tZero_spec hz
   have hzr := z3 ⟨ι, dom, im, w⟩
   obtain ⟨cs, rfl, hcs⟩ := hzr.agg_of rfl
   simp only [Rep] at hcs
   subst hcs
   split at hk
   · have : vs = [] := by simpa using hm
     subst this
     obtain ⟨hsz, hk⟩ := hk
     obtain ⟨sz, hss⟩ := Option.isSome_iff_exists.1 hsz
     refine ⟨_, .agg (rootCells r).toArray, hk, ?_, .inr ⟨by simp [Rep, Value.cells], rfl, rfl⟩⟩
     unfold Instr.build
     simp only [Sem.run_bind, zeroValue, typeInfo, run_program, Result.andThen_ok, z1, z2, Sem.run_pure, run_underlying' hu, run_sizeOf' hss, Value.cells]
     rfl
   · rename_i i' m
     obtain ⟨hsz, hn, hi, h0, h1, hk⟩ := hk
     cases vs with
     | nil => simp at hm
     | cons v vs =>
       have : vs = [] := by simpa using congrArg List.tail hm
       subst this
       obtain ⟨v1, v2⟩ := v
       simp only [List.map_cons, List.map_nil, List.cons.injEq, and_true] at hm
       subst hm
       have := (hv 0 _ _ rfl rfl).int_of
       simp only at this
       subst this
       refine ⟨_, .agg (rootCells (rootSet r v1 m)).toArray, hk, ?_, .inr ⟨by simp [Rep, Value.cells], rfl, rfl⟩⟩
       rw [rootCells_set r v1 m hi h0 h1]
       unfold Instr.build
       simp only [Sem.run_bind, zeroValue, typeInfo, run_program, Result.andThen_ok, z1, z2, Sem.run_pure, run_underlying' hu, run_sizeOf' hsz, Value.cells]
       have hl := rootCells_length r
       simp [Instr.fill, Value.cells, hl, show ¬ 32 < v1 + 1 by omega]
   · exact hk.elim
 · exact hk.elim
end
end Go.Ab
namespace Go.Ab
open Go.RowKit
section
variable {P : Program} {E : Env} {hp : HP} {ι : Nat → Nat} {dom im : Nat → Prop} {w : World} {id : Nat} {K : AV → HP → Prop}
def tBytes (P : Program) (t : TypeId) : Option Nat := (P.info? t).map (·.bytes)
def makeSliceK (P : Program) (t : TypeId) (hp : HP) (l c : AV) (id : Nat) (K : AV → HP → Prop) : Prop :=
 match l, c with
 | .int _ ln, .int _ cn => match tElem P t with
   | some e => match tSize P e, tZero P e, tBytes P e with
     | some sz, some z, some by_ => 0 ≤ ln ∧ ln = cn ∧ cn ≤ 2 ^ 40 ∧ by_ * cn ≤ 2 ^ 47 ∧ z.len = sz ∧ K (.ms id sz ln.toNat) ((id, .row sz (List.replicate ln.toNat z)) :: hp)
     | _, _, _ => False
   | none => False
 | _, _ => False
theorem repl_flatten (zc : List Value) (n : Nat) : (List.range (n * zc.length)).map (fun i => zc[i % zc.length]!) = (List.replicate n zc).flatten := by
 induction n with
 | zero => simp
 | succ n ih =>
   rw [List.replicate_succ', List.flatten_append, ← ih, Nat.succ_mul, List.range_add, List.map_append]
   congr 1
   simp only [List.map_map, List.flatten_cons, List.flatten_nil, List.append_nil]
   apply List.ext_getElem (by simp)
   intro i h1 h2
   simp at h1
   have h3 : (n * zc.length + i) % zc.length = i := by rw [Nat.mul_comm, Nat.mul_add_mod, Nat.mod_eq_of_lt h1]
   simp [h3]
   rw [List.getElem?_eq_getElem h1]
   rfl
theorem RepL.replicate {C : Cx} {z : AV} {zc : List Value} (h : Rep C z zc) : ∀ n, RepL C (List.replicate n z) (List.replicate n zc)
 | 0 => by simp [RepL]
 | n + 1 => by simp only [List.replicate_succ, RepL]; exact ⟨_, _, rfl, h, RepL.replicate h n⟩
theorem wrap64_id {n : Int} (h0 : 0 ≤ n) (h1 : n ≤ 2 ^ 62) : IntKind.i64.wrap n = n := by
 simp only [IntKind.wrap]
 simp [IntKind.signed, IntKind.bits]
 omega
theorem shape_new (w : World) (cs : Array Value) (e : TypeId) : (w.alloc (.cells cs e)).shape? w.heap.size = some (e, cs.size) := by
 unfold World.shape?
 rw [heap_alloc_new w]
theorem makeSlice_sound {t : TypeId} {l c : AV} {a b : Value} (hi : HInv E hp ι dom im w) (hid : ¬ dom id) (hl : RepT ⟨ι, dom, im, w⟩ l a) (hc : RepT ⟨ι, dom, im, w⟩ c b) (hk : makeSliceK P t hp l c id K) :
 ∃ r hp' v ι' w', K r hp' ∧ (Instr.makeSlice t a b).run P w = .ok v w' ∧ HInv E hp' ι' (fun o => dom o ∨ o = id) im w' ∧ Cx.Le ⟨ι, dom, im, w⟩ ⟨ι', fun o => dom o ∨ o = id, im, w'⟩ ∧ RepT ⟨ι', fun o => dom o ∨ o = id, im, w'⟩ r v := by
 unfold makeSliceK at hk
 split at hk
 · rename_i k1 ln k2 cn
   have h1 := hl.int_of
   have h2 := hc.int_of
   subst h1; subst h2
   split at hk
   · rename_i e he
     split at hk
     · rename_i sz z by_ hsz hz hby
       obtain ⟨h0, hle, hbig, hbytes, hzl, hk⟩ := hk
       obtain ⟨i, zv, z1, z2, z3, zid⟩ := tZero_spec hz
       have hu := tElem_spec he
       have hib : i.bytes = by_ := by unfold tBytes at hby; rw [z1] at hby; simpa using hby
       have his : (sizeOf e).run P w = .ok sz w := run_sizeOf' hsz w
       have hzr := (z3 ⟨ι, dom, im, w⟩).1
       have hzc := Rep.length z _ hzr
       simp only [Array.length_toList] at hzc
       subst hle
       obtain ⟨m, rfl⟩ := Int.eq_ofNat_of_zero_le h0
       have hm40 : m ≤ 2 ^ 40 := by omega
       have w2 : IntKind.i64.wrap (m : Int) = m := wrap64_id (by omega) (by omega)
       obtain ⟨cells, hcd⟩ : ∃ cells : Array Value, cells = (List.replicate m zv.cells.toList).flatten.toArray := ⟨_, rfl⟩
       have hcs : cells.size = m * sz := by
        simp only [hcd, List.size_toArray]
        have := flatten_uniform (css := List.replicate m zv.cells.toList) (sz := sz) (fun c hc => by rw [List.eq_of_mem_replicate hc]; simp; omega) m
        rw [List.take_of_length_le (by simp)] at this
        simpa using this
       have hle' : Cx.Le ⟨ι, dom, im, w⟩ ⟨updι ι id w.heap.size, fun o => dom o ∨ o = id, im, w.alloc (.cells cells e)⟩ := (Cx.Le.alloc ⟨ι, dom, im, w⟩ _).trans (Cx.Le.upd hid)
       have hrow : RepL { (⟨updι ι id w.heap.size, fun o => dom o ∨ o = id, im, w.alloc (.cells cells e)⟩ : Cx) with dom := fun _ => False } (List.replicate m z) (List.replicate m zv.cells.toList) :=
        RepL.replicate ((Rep.idf (C := ⟨ι, dom, im, w⟩) z _ zid hzr).mono hle'.zero) m
       have hown : Owns ⟨updι ι id w.heap.size, fun o => dom o ∨ o = id, im, w.alloc (.cells cells e)⟩ w.heap.size (.row sz (List.replicate m z)) := by
        refine .inr ⟨cells, e, _, heap_alloc_new w _, hrow, fun c hc => by rw [List.eq_of_mem_replicate hc]; simp; omega, ?_⟩
        simp only [hcd]
        exact List.prefix_refl _
       refine ⟨_, _, .slice (some ⟨w.heap.size, 0, none⟩) m m, _, _, hk, ?_, hi.allocOwn hid hown, hle', .inr ⟨?_, rfl, rfl⟩⟩
       · unfold Instr.makeSlice
         simp only [Sem.run_bind, run_underlying' hu, Result.andThen_ok, asInt, asIntOf, Sem.run_pure, typeInfo, run_program, z1, w2, hib]
         have hB : (by_ : Int) * (m : Int) ≤ 2 ^ 47 := hbytes
         have c1 : ((decide ((m : Int) < 0) || decide ((by_ : Int) * (m : Int) > 2 ^ 48)) || decide ((m : Int) < 0) || decide ((m : Int) > (m : Int))) = false := by
          simp
          omega
         rw [if_neg (by rw [c1]; simp)]
         simp only [Sem.run_bind, run_askRoom, Result.andThen_ok, his, Int.toNat_natCast]
         by_cases h00 : m * sz = 0
         · have : cells = #[] := Array.eq_empty_of_size_eq_zero (by rw [hcs, h00])
           rw [if_pos h00]
           have e0 : (Array.map (fun _ => (default : Value)) (Array.range 0)) = #[] := by apply Array.ext'; simp
           simp [h00, newRow, this]
           exact congrArg (fun c => w.alloc (.cells c e)) e0
         · rw [if_neg h00]
           have hzs : zv.cells.size = sz := by omega
           have hcc : (Array.range (m * sz)).map (fun x => zv.cells[x % zv.cells.size]!) = cells := by
            apply Array.ext'
            have := repl_flatten zv.cells.toList m
            simp only [Array.length_toList] at this
            simp only [hcd, Array.toList_map, Array.toList_range, hzs] at this ⊢
            rw [← this]
            apply List.map_congr_left
            intro i _
            simp [getElem!_def]
           simp [zeroValue, typeInfo, z1, z2, newRow, hcc]
       · simp only [Rep, Value.cells]
         refine ⟨_, m, rfl, .inr (by trivial), by simp, by simp [maxLen]; omega, ?_⟩
         by_cases h00 : m = 0
         · exact .inl ⟨by simp [h00], h00⟩
         · refine .inr ⟨by simp; omega, by simp [updι], e, ?_⟩
           have := shape_new w cells e
           simp only [updι, if_true]
           rw [this, hcs]
     · exact hk.elim
   · exact hk.elim
 · exact hk.elim
def extractK (x : AV) (i : Nat) (K : AV → Prop) : Prop :=
 match x with
 | .tup xs => match xs[i]? with
   | some y => K y
   | none => False
 | _ => False
theorem RepVs.get {C : Cx} : ∀ {xs : List AV} {vs : List Value} {i : Nat} {x : AV}, RepVs C xs vs → xs[i]? = some x → ∃ v, vs[i]? = some v ∧ RepV C x v
 | [], _, _, _, _, h => by simp at h
 | y :: ys, vs, i, x, hr, h => by
   obtain ⟨v, r, rfl, h1, h2⟩ := hr
   cases i with
   | zero => simp at h; subst h; exact ⟨v, rfl, h1⟩
   | succ i =>
     simp at h
     obtain ⟨v', h3, h4⟩ := RepVs.get h2 h
     exact ⟨v', by simpa using h3, h4⟩
theorem extract_sound {x : AV} {i : Nat} {a : Value} {K : AV → Prop} {C : Cx} (w : World) (hx : RepT C x a) (hk : extractK x i K) :
 ∃ r v, K r ∧ (Instr.extract a i).run P w = .ok v w ∧ RepT C r v := by
 unfold extractK at hk
 split at hk
 · rename_i xs
   obtain ⟨vs, rfl, hv⟩ := hx.isS (by simp)
   split at hk
   · rename_i y hy
     obtain ⟨v, h1, h2⟩ := RepVs.get hv hy
     exact ⟨y, v, hk, by simp [Instr.extract, h1], .inr (RepS.of h2)⟩
   · exact hk.elim
 · exact hk.elim
end
end Go.Ab
namespace Go.Ab
open Go.RowKit
section
variable {P : Program} {C : Cx}
theorem run_forIn_yield {α : Type} {w : World} (body : α → PUnit → Sem (ForInStep PUnit)) : ∀ (l : List α), (∀ x ∈ l, (body x ⟨⟩).run P w = .ok (.yield ⟨⟩) w) → (forIn l PUnit.unit body).run P w = .ok ⟨⟩ w
 | [], _ => by simp
 | x :: l, h => by
   simp only [List.forIn_cons, Sem.run_bind, h x (by simp), Result.andThen_ok]
   exact run_forIn_yield body l fun y hy => h y (by simp [hy])
theorem fitsL_each : ∀ (xs : List AV) (fl : List Field) (pa : List Value) (css : List (List Value)) (off : Nat) (w : World), fitsL P xs fl off = true → RepL C xs css → pa.length = off →
 ∀ f ∈ fl, f.name ≠ "_" ∧ ∃ x va, x ∈ xs ∧ fits P x f.type = true ∧ (part f.type (pa ++ css.flatten).toArray f.offset).run P w = .ok va w ∧ RepV C x va
 | [], fl, pa, css, off, w, h, hr, hp => by
   cases fl with
   | nil => simp
   | cons _ _ => simp [fitsL] at h
 | x :: xs, fl, pa, css, off, w, h, hr, hp => by
   cases fl with
   | nil => simp
   | cons f fl =>
     simp only [fitsL, Bool.and_eq_true, decide_eq_true_eq] at h
     obtain ⟨⟨⟨⟨⟨hn, ho⟩, hag⟩, hsz⟩, hf⟩, hrest⟩ := h
     simp only [RepL] at hr
     obtain ⟨ca, ra, rfl, h3, h4⟩ := hr
     have la := Rep.length x ca h3
     intro g hg
     rcases List.mem_cons.1 hg with rfl | hg
     · have e1 : ((pa ++ (ca ++ ra.flatten)).drop g.offset).take x.len = ca := by
        rw [ho, ← hp, List.drop_left, ← la, List.take_left]
       obtain ⟨va, p1, r1⟩ := run_part' (P := P) (C := C) (t := g.type) (x := x) (cs := pa ++ (ca ++ ra.flatten)) (off := g.offset) (by rw [e1]; exact h3) w hag hsz
       exact ⟨hn, x, va, by simp, hf, by simpa using p1, r1⟩
     · obtain ⟨k1, y, va, k2, k3, k4, k5⟩ := fitsL_each xs fl (pa ++ ca) ra (off + x.len) w hrest h4 (by simp [hp, la]) g hg
       exact ⟨k1, y, va, by simp [k2], k3, by simpa using k4, k5⟩
mutual
theorem checkKey_sound (em : Bool) : ∀ (x : AV) (d : Nat) (t : TypeId) (v : Value) (w : World), fits P x t = true → x.depth ≤ d → RepV C x v → (Instr.checkKey em (d + 1) t v).run P w = .ok () w
 | .bool a, d, t, v, w, hx, hd, rx => by
   simp only [fits] at hx
   split at hx
   · rename_i hu
     unfold Instr.checkKey
     simp only [Sem.run_bind, run_underlying' hu, Result.andThen_ok]
     cases v <;> rfl
   · cases hx
 | .int k a, d, t, v, w, hx, hd, rx => by
   simp only [fits] at hx
   split at hx
   · rename_i k' hu
     unfold Instr.checkKey
     simp only [Sem.run_bind, run_underlying' hu, Result.andThen_ok]
     cases v <;> rfl
   · cases hx
 | .str a, d, t, v, w, hx, hd, rx => by
   simp only [fits] at hx
   split at hx
   · rename_i hu
     unfold Instr.checkKey
     simp only [Sem.run_bind, run_underlying' hu, Result.andThen_ok]
     cases v <;> rfl
   · cases hx
 | .root a, d, t, v, w, hx, hd, rx => by
   simp only [fits] at hx
   split at hx
   · rename_i n e hu
     simp only [Bool.and_eq_true, decide_eq_true_eq] at hx
     obtain ⟨⟨hn, he⟩, hs⟩ := hx
     split at he
     · rename_i hue
       obtain ⟨ca, rfl, h1⟩ := rx.agg_of rfl
       simp only [Rep] at h1
       subst h1
       obtain ⟨d, rfl⟩ : ∃ m, d = m + 1 := ⟨d - 1, by simp [AV.depth] at hd; omega⟩
       unfold Instr.checkKey
       simp only [Sem.run_bind, run_underlying' hu, Result.andThen_ok]
       simp only [Std.Legacy.Range.forIn_eq_forIn_range', Std.Legacy.Range.size, Nat.sub_zero, Nat.add_one_sub_one, Nat.div_one]
       rw [run_forIn_yield _ _ ?_]
       · rfl
       intro j hj
       simp only [List.mem_range'_1, Nat.zero_le, Nat.zero_add, true_and] at hj
       obtain ⟨b, hb⟩ : ∃ b, a.1[j]? = some b := ⟨a.1[j]'(by rw [a.2]; omega), by simp⟩
       have hat : ((rootCells a).drop (j * 1)).take (AV.len (.int .u8 b.toNat)) = [.int .u8 b.toNat] := by
        have hj2 : j < (rootCells a).length := by rw [rootCells_length]; omega
        rw [show AV.len (.int .u8 (b.toNat : Int)) = 1 from rfl, Nat.mul_one, List.drop_eq_getElem_cons hj2]
        simp only [List.take_succ_cons, List.take_zero, List.cons.injEq, and_true]
        simp only [rootCells, List.getElem_map]
        have := (List.getElem?_eq_some_iff.1 hb).2
        rw [this]
       obtain ⟨va, p1, r1⟩ := run_part' (P := P) (C := C) (t := e) (x := .int .u8 b.toNat) (cs := rootCells a) (off := j * 1) (by rw [hat]; simp [Rep]) w (by unfold tAgg; rw [hue]; rfl) hs
       have hck : (Instr.checkKey em (d + 1) e va).run P w = .ok () w := by
        unfold Instr.checkKey
        simp only [Sem.run_bind, run_underlying' hue, Result.andThen_ok]
        cases va <;> rfl
       simp only [Sem.run_bind, run_sizeOf' hs, Result.andThen_ok, p1, hck, Sem.run_pure]
     · cases he
   · cases hx
 | .st xs, d, t, v, w, hx, hd, rx => by
   simp only [fits] at hx
   split at hx
   · rename_i fl hu
     simp only [Bool.and_eq_true, Bool.not_eq_true'] at hx
     obtain ⟨ca, rfl, h1⟩ := rx.agg_of rfl
     simp only [Rep] at h1
     obtain ⟨css, h1, rfl⟩ := h1
     obtain ⟨d, rfl⟩ : ∃ m, d = m + 1 := ⟨d - 1, by simp [AV.depth] at hd; omega⟩
     have each := fitsL_each xs fl.toList [] css 0 w hx.2 h1 rfl
     unfold Instr.checkKey
     simp only [Sem.run_bind, run_underlying' hu, Result.andThen_ok]
     rw [← Array.forIn_toList]
     rw [run_forIn_yield _ _ ?_]
     · rfl
     intro f hf
     obtain ⟨k1, y, va, k2, k3, k4, k5⟩ := each f hf
     have hck := checkKeys_sound em xs d (by simp [AV.depth] at hd; omega) y k2 f.type va w k3 k5
     simp only [List.nil_append] at k4
     simp only [ne_eq, k1, not_false_iff, if_true, Sem.run_bind, k4, hck, Result.andThen_ok, Sem.run_pure]
   · cases hx
 | .arr _, _, _, _, _, hx, _, _ => by simp [fits] at hx
 | .sl _ _, _, _, _, _, hx, _, _ => by simp [fits] at hx
 | .ms _ _ _, _, _, _, _, hx, _, _ => by simp [fits] at hx
 | .ref _, _, _, _, _, hx, _, _ => by simp [fits] at hx
 | .ptr _ _ _, _, _, _, _, hx, _, _ => by simp [fits] at hx
 | .nilp, _, _, _, _, hx, _, _ => by simp [fits] at hx
 | .mp _, _, _, _, _, hx, _, _ => by simp [fits] at hx
 | .fn _ _ _, _, _, _, _, hx, _, _ => by simp [fits] at hx
 | .nilf, _, _, _, _, hx, _, _ => by simp [fits] at hx
 | .tup _, _, _, _, _, hx, _, _ => by simp [fits] at hx
 | .raw _, _, _, _, _, hx, _, _ => by simp [fits] at hx
theorem checkKeys_sound (em : Bool) : ∀ (xs : List AV) (d : Nat), AV.depths xs ≤ d → ∀ x ∈ xs, ∀ (t : TypeId) (v : Value) (w : World), fits P x t = true → RepV C x v → (Instr.checkKey em (d + 1) t v).run P w = .ok () w
 | [], _, _, x, hx, _, _, _, _, _ => by cases hx
 | y :: ys, d, hd, x, hx, t, v, w, hf, hr => by
   simp only [AV.depths] at hd
   rcases List.mem_cons.1 hx with h | hx
   · have q := checkKey_sound em y d t v w
     rw [h] at hf hr
     exact q hf (by omega) hr
   · exact checkKeys_sound em ys d (by omega) x hx t v w hf hr
end
mutual
theorem eqb_eq : ∀ (x y : AV) (t : TypeId), fits P x t = true → fits P y t = true → x.eqb y = true → x = y
 | .bool a, y, t, hx, hy, he => by
   cases y <;> simp [AV.eqb] at he
   rw [he]
 | .int k a, y, t, hx, hy, he => by
   cases y <;> simp [AV.eqb] at he
   simp only [fits] at hx hy
   split at hx
   · rename_i hu
     rw [hu] at hy
     simp at hx hy
     subst hx; subst hy; rw [he]
   · cases hx
 | .str a, y, t, hx, hy, he => by
   cases y <;> simp [AV.eqb] at he
   rename_i b
   congr 1
   have : a.toList = b.toList := he
   rw [ByteArray.toList_eq, ByteArray.toList_eq] at this
   exact ByteArray.ext (Array.ext' this)
 | .root a, y, t, hx, hy, he => by
   cases y <;> simp [AV.eqb] at he
   rw [he]
 | .st xs, y, t, hx, hy, he => by
   cases y <;> simp [AV.eqb] at he
   rename_i ys
   simp only [fits] at hx hy
   split at hx
   · rename_i fl hu
     rw [hu] at hy
     simp only [Bool.and_eq_true] at hx hy
     rw [eqb_eqL xs ys _ _ hx.2 hy.2 he]
   · cases hx
 | .arr _, _, _, hx, _, _ => by simp [fits] at hx
 | .sl _ _, _, _, hx, _, _ => by simp [fits] at hx
 | .ms _ _ _, _, _, hx, _, _ => by simp [fits] at hx
 | .ref _, _, _, hx, _, _ => by simp [fits] at hx
 | .ptr _ _ _, _, _, hx, _, _ => by simp [fits] at hx
 | .nilp, _, _, hx, _, _ => by simp [fits] at hx
 | .mp _, _, _, hx, _, _ => by simp [fits] at hx
 | .fn _ _ _, _, _, hx, _, _ => by simp [fits] at hx
 | .nilf, _, _, hx, _, _ => by simp [fits] at hx
 | .tup _, _, _, hx, _, _ => by simp [fits] at hx
 | .raw _, _, _, hx, _, _ => by simp [fits] at hx
theorem eqb_eqL : ∀ (xs ys : List AV) (fl : List Field) (off : Nat), fitsL P xs fl off = true → fitsL P ys fl off = true → AV.eqbL xs ys = true → xs = ys
 | [], ys, fl, off, hx, hy, he => by cases ys <;> simp [AV.eqbL] at he ⊢
 | x :: xs, ys, fl, off, hx, hy, he => by
   cases ys with
   | nil => simp [AV.eqbL] at he
   | cons y ys =>
     cases fl with
     | nil => simp [fitsL] at hx
     | cons f fl =>
       simp only [AV.eqbL, Bool.and_eq_true] at he
       simp only [fitsL, Bool.and_eq_true] at hx hy
       have e := eqb_eq x y f.type hx.1.2 hy.1.2 he.1
       subst e
       rw [eqb_eqL xs ys fl _ hx.2 hy.2 he.2]
end
mutual
theorem Rep.same {C C' : Cx} : ∀ (x : AV) (t : TypeId) (c c' : List Value), fits P x t = true → Rep C x c → Rep C' x c' → c = c'
 | .bool _, _, _, _, _, h, h' => by simp only [Rep] at h h'; rw [h, h']
 | .int _ _, _, _, _, _, h, h' => by simp only [Rep] at h h'; rw [h, h']
 | .str _, _, _, _, _, h, h' => by simp only [Rep] at h h'; rw [h, h']
 | .root _, _, _, _, _, h, h' => by simp only [Rep] at h h'; rw [h, h']
 | .st xs, t, c, c', hf, h, h' => by
   simp only [fits] at hf
   split at hf
   · simp only [Bool.and_eq_true] at hf
     simp only [Rep] at h h'
     obtain ⟨s, h1, rfl⟩ := h
     obtain ⟨s', h2, rfl⟩ := h'
     rw [RepL.same xs _ _ s s' hf.2 h1 h2]
   · cases hf
 | .arr _, _, _, _, hx, _, _ => by simp [fits] at hx
 | .sl _ _, _, _, _, hx, _, _ => by simp [fits] at hx
 | .ms _ _ _, _, _, _, hx, _, _ => by simp [fits] at hx
 | .ref _, _, _, _, hx, _, _ => by simp [fits] at hx
 | .ptr _ _ _, _, _, _, hx, _, _ => by simp [fits] at hx
 | .nilp, _, _, _, hx, _, _ => by simp [fits] at hx
 | .mp _, _, _, _, hx, _, _ => by simp [fits] at hx
 | .fn _ _ _, _, _, _, hx, _, _ => by simp [fits] at hx
 | .nilf, _, _, _, hx, _, _ => by simp [fits] at hx
 | .tup _, _, _, _, hx, _, _ => by simp [fits] at hx
 | .raw _, _, _, _, hx, _, _ => by simp [fits] at hx
theorem RepL.same {C C' : Cx} : ∀ (xs : List AV) (fl : List Field) (off : Nat) (s s' : List (List Value)), fitsL P xs fl off = true → RepL C xs s → RepL C' xs s' → s = s'
 | [], _, _, _, _, _, h, h' => by simp only [RepL] at h h'; rw [h, h']
 | x :: xs, fl, off, s, s', hf, h, h' => by
   cases fl with
   | nil => simp [fitsL] at hf
   | cons f fl =>
     simp only [fitsL, Bool.and_eq_true] at hf
     simp only [RepL] at h h'
     obtain ⟨c, r, rfl, h1, h2⟩ := h
     obtain ⟨c', r', rfl, h3, h4⟩ := h'
     rw [Rep.same x f.type c c' hf.1.2 h1 h3, RepL.same xs fl _ r r' hf.2 h2 h4]
end
def plainV : Value → Bool
 | .bool _ | .int _ _ | .string _ => true
 | _ => false
theorem bytes_refl (s : ByteArray) : (s == s) = true := by
 cases s
 exact beq_self_eq_true (α := Array UInt8) _
theorem str_beq (a b : ByteArray) : (a == b) = (a.toList == b.toList) := by
 rw [ByteArray.toList_eq, ByteArray.toList_eq, Bool.eq_iff_iff]
 constructor
 · intro hh
   have : a = b := by
    cases a; cases b
    congr 1
    exact eq_of_beq (α := Array UInt8) hh
   rw [this]; simp
 · intro hh
   have : a = b := ByteArray.ext (Array.ext' (eq_of_beq hh))
   rw [this]; exact bytes_refl _
theorem sameBits_plain {v : Value} (h : plainV v = true) (n : Nat) : Instr.sameBits n v v = true := by
 cases v <;> simp [plainV] at h <;> cases n <;> simp [Instr.sameBits, bytes_refl]
mutual
theorem Rep.plain : ∀ (x : AV) (t : TypeId) (c : List Value), fits P x t = true → Rep C x c → ∀ u ∈ c, plainV u = true
 | .bool _, _, _, _, h => by simp only [Rep] at h; subst h; simp [plainV]
 | .int _ _, _, _, _, h => by simp only [Rep] at h; subst h; simp [plainV]
 | .str _, _, _, _, h => by simp only [Rep] at h; subst h; simp [plainV]
 | .root _, _, _, _, h => by
   simp only [Rep] at h; subst h
   intro u hu
   simp only [rootCells, List.mem_map] at hu
   obtain ⟨b, _, rfl⟩ := hu
   rfl
 | .st xs, t, c, hf, h => by
   simp only [fits] at hf
   split at hf
   · simp only [Bool.and_eq_true] at hf
     simp only [Rep] at h
     obtain ⟨s, h1, rfl⟩ := h
     intro u hu
     obtain ⟨c, hc, hu⟩ := List.mem_flatten.1 hu
     exact RepL.plain xs _ _ s hf.2 h1 c hc u hu
   · cases hf
 | .arr _, _, _, hx, _ => by simp [fits] at hx
 | .sl _ _, _, _, hx, _ => by simp [fits] at hx
 | .ms _ _ _, _, _, hx, _ => by simp [fits] at hx
 | .ref _, _, _, hx, _ => by simp [fits] at hx
 | .ptr _ _ _, _, _, hx, _ => by simp [fits] at hx
 | .nilp, _, _, hx, _ => by simp [fits] at hx
 | .mp _, _, _, hx, _ => by simp [fits] at hx
 | .fn _ _ _, _, _, hx, _ => by simp [fits] at hx
 | .nilf, _, _, hx, _ => by simp [fits] at hx
 | .tup _, _, _, hx, _ => by simp [fits] at hx
 | .raw _, _, _, hx, _ => by simp [fits] at hx
theorem RepL.plain : ∀ (xs : List AV) (fl : List Field) (off : Nat) (s : List (List Value)), fitsL P xs fl off = true → RepL C xs s → ∀ c ∈ s, ∀ u ∈ c, plainV u = true
 | [], _, _, _, _, h => by simp only [RepL] at h; subst h; simp
 | x :: xs, fl, off, s, hf, h => by
   cases fl with
   | nil => simp [fitsL] at hf
   | cons f fl =>
     simp only [fitsL, Bool.and_eq_true] at hf
     simp only [RepL] at h
     obtain ⟨c, r, rfl, h1, h2⟩ := h
     intro c' hc'
     rcases List.mem_cons.1 hc' with rfl | hc'
     · exact Rep.plain x f.type _ hf.1.2 h1
     · exact RepL.plain xs fl _ r hf.2 h2 c' hc'
end
theorem RepV.cells_eq {C C' : Cx} {x : AV} {v v' : Value} (h : RepV C x v) (h' : RepV C' x v') (he : v.cells.toList = v'.cells.toList) : v = v' := by
 cases hag : x.agg with
 | true =>
   have a1 : isAggV v = true := by rw [h.2.1, hag]
   have a2 : isAggV v' = true := by rw [h'.2.1, hag]
   cases v <;> simp [isAggV] at a1
   cases v' <;> simp [isAggV] at a2
   simp only [Value.cells] at he
   rw [Array.ext' he]
 | false =>
   have a1 := scalar.cells (v := v) ⟨by rw [h.2.1, hag], h.2.2⟩
   have a2 := scalar.cells (v := v') ⟨by rw [h'.2.1, hag], h'.2.2⟩
   rw [a1, a2] at he
   simpa using he
theorem sameBits_of {C : Cx} {x : AV} {t : TypeId} {v : Value} (hf : fits P x t = true) (h : RepV C x v) : Instr.sameBits 10000 v v = true := by
 cases hag : x.agg with
 | true =>
   have hp := Rep.plain x t _ hf h.1
   obtain ⟨cs, rfl, _⟩ := h.agg_of hag
   simp only [Value.cells] at hp
   have : Instr.sameBits (9999 + 1) (.agg cs.toArray) (.agg cs.toArray) = true := by
    simp only [Instr.sameBits, beq_self_eq_true, Bool.true_and, List.all_eq_true]
    rintro ⟨a, b⟩ hab
    have e : a = b := by
     obtain ⟨i, hi, h2⟩ := List.mem_iff_getElem.1 hab
     simp only [List.getElem_zip, Prod.mk.injEq] at h2
     rw [← h2.1, ← h2.2]
    subst e
    exact sameBits_plain (hp a (by simpa using (List.of_mem_zip hab).1)) 9999
   exact this
 | false =>
   have a1 := scalar.cells (v := v) ⟨by rw [h.2.1, hag], h.2.2⟩
   have hp := Rep.plain x t _ hf h.1 v (by rw [a1]; simp)
   exact sameBits_plain hp 10000
theorem findAsking_sound {t : TypeId} {x : AV} {vx : Value} {w : World} (hx : fits P x t = true) (hd : x.depth ≤ 9999) (rx : RepV C x vx) : ∀ (es : List MapEntry) (ks : List AV) (i : Nat), es.length = ks.length →
 (∀ (j : Nat) (e : MapEntry) (k : AV), es[j]? = some e → ks[j]? = some k → fits P k t = true ∧ RepV C k e.key) →
 (Instr.findAsking t vx es i).run P w = .ok (((ks.findIdx? fun k => x.eqb k).bind fun j => (es[j]?).map fun e => (i + j, e.val))) w
 | [], ks, i, hl, _ => by
   have : ks = [] := List.eq_nil_of_length_eq_zero hl.symm
   subst this
   simp [Instr.findAsking]
 | e :: es, ks, i, hl, h => by
   cases ks with
   | nil => simp at hl
   | cons k ks =>
     obtain ⟨h1, h2⟩ := h 0 e k rfl rfl
     have q : (Op.equal t vx e.key).run P w = .ok (x.eqb k) w := equal_sound x k 9999 t vx e.key w hx h1 hd rx h2
     have ih := findAsking_sound hx hd rx es ks (i + 1) (by simpa using hl) (fun j e' k' he hk => h (j + 1) e' k' (by simpa using he) (by simpa using hk)) (w := w)
     unfold Instr.findAsking
     simp only [Sem.run_bind, q, Result.andThen_ok]
     cases hb : x.eqb k with
     | true => simp [List.findIdx?_cons, hb]
     | false =>
       simp only [Bool.false_eq_true, if_false, ih, List.findIdx?_cons, hb]
       cases ks.findIdx? fun k => x.eqb k with
       | none => rfl
       | some j => simp [Nat.add_assoc, Nat.add_comm 1 j]
theorem findNow_sound {t : TypeId} {d : TypeDesc} {x : AV} {vx : Value} (hu : P.underlying t = some d) (hx : fits P x t = true) (rx : RepV C x vx) (hsc : x.agg = false) : ∀ (es : List MapEntry) (ks : List AV) (i : Nat), es.length = ks.length →
 (∀ (j : Nat) (e : MapEntry) (k : AV), es[j]? = some e → ks[j]? = some k → fits P k t = true ∧ RepV C k e.key) →
 Instr.findNow d vx es i = some ((ks.findIdx? fun k => x.eqb k).bind fun j => (es[j]?).map fun e => (i + j, e.val))
 | [], ks, i, hl, _ => by
   have : ks = [] := List.eq_nil_of_length_eq_zero hl.symm
   subst this
   simp [Instr.findNow]
 | e :: es, ks, i, hl, h => by
   cases ks with
   | nil => simp at hl
   | cons k ks =>
     obtain ⟨h1, h2⟩ := h 0 e k rfl rfl
     have q : Instr.sameNow d vx e.key = some (x.eqb k) := by
      have c1 := scalar.cells (v := vx) ⟨by rw [rx.2.1, hsc], rx.2.2⟩
      have e1 := rx.1
      rw [c1] at e1
      cases x <;> simp only [fits, hu] at hx <;> (try (simp at hx; done)) <;> (try (simp [AV.agg] at hsc; done)) <;> split at hx <;> (try (cases hx; done))
      all_goals
       rename_i hd
       injection hd with hd
       subst hd
       cases k <;> simp only [fits, hu] at h1 <;> try (simp at h1; done)
      all_goals
       have c2 := scalar.cells (v := e.key) ⟨by rw [h2.2.1]; rfl, h2.2.2⟩
       have e2 := h2.1
       rw [c2] at e2
       simp only [Rep, List.cons.injEq, and_true] at e1 e2
       rw [e1, e2]
      · rfl
      · simp only [decide_eq_true_eq] at hx h1
        subst hx; subst h1
        simp [Instr.sameNow, AV.eqb]
      · simp only [Instr.sameNow, AV.eqb, str_beq]
     have ih := findNow_sound hu hx rx hsc es ks (i + 1) (by simpa using hl) (fun j e' k' he hk => h (j + 1) e' k' (by simpa using he) (by simpa using hk))
     unfold Instr.findNow
     rw [q]
     cases hb : x.eqb k with
     | true => simp [List.findIdx?_cons, hb]
     | false =>
       simp only [ih, List.findIdx?_cons, hb]
       cases ks.findIdx? fun k => x.eqb k with
       | none => rfl
       | some j => simp [Nat.add_assoc, Nat.add_comm 1 j]
theorem findKey_sound {t : TypeId} {x : AV} {vx : Value} {w : World} (hx : fits P x t = true) (hd : x.depth ≤ 9999) (rx : RepV C x vx) (es : List MapEntry) (ks : List AV) (hl : es.length = ks.length)
 (h : ∀ (j : Nat) (e : MapEntry) (k : AV), es[j]? = some e → ks[j]? = some k → fits P k t = true ∧ RepV C k e.key) :
 (Instr.findKey t vx es).run P w = .ok ((ks.findIdx? fun k => x.eqb k).bind fun j => (es[j]?).map fun e => (j, e.val)) w := by
 cases hag : x.agg with
 | false =>
   obtain ⟨d, hu⟩ : ∃ d, P.underlying t = some d := by
    cases hu : P.underlying t with
    | some d => exact ⟨d, rfl⟩
    | none => cases x <;> simp [fits, hu] at hx
   have q := findNow_sound hu hx rx hag es ks 0 hl h
   unfold Instr.findKey
   simp only [Sem.run_bind, run_underlying' hu, Result.andThen_ok, q, Sem.run_pure, Nat.zero_add]
 | true =>
   have q := findAsking_sound (w := w) hx hd rx es ks 0 hl h
   simp only [Nat.zero_add] at q
   rw [run_findKey_eq w, q]
   cases x <;> simp [AV.agg] at hag <;> simp only [fits] at hx <;> first | (simp at hx; done) | (split at hx <;> simp_all)
end
end Go.Ab
namespace Go.Ab
open Go.RowKit
theorem RepL.get2 {C : Cx} : ∀ (xs : List AV) (css : List (List Value)) (i : Nat) (x : AV) (c : List Value), RepL C xs css → xs[i]? = some x → css[i]? = some c → Rep C x c := fun xs css i x c h hx hc => by
 obtain ⟨c', h1, h2⟩ := RepL.get xs css i x h hx
 rw [hc] at h1
 cases h1
 exact h2
theorem RepL.of_get2 {C : Cx} : ∀ (xs : List AV) (css : List (List Value)), css.length = xs.length → (∀ (i : Nat) (x : AV) (c : List Value), xs[i]? = some x → css[i]? = some c → Rep C x c) → RepL C xs css
 | [], css, hl, _ => by
   have : css = [] := List.eq_nil_of_length_eq_zero hl
   subst this
   simp [RepL]
 | x :: xs, css, hl, h => by
   cases css with
   | nil => simp at hl
   | cons c css =>
     simp only [RepL]
     exact ⟨c, css, rfl, h 0 x c rfl rfl, RepL.of_get2 xs css (by simpa using hl) fun i y d h1 h2 => h (i + 1) y d (by simpa using h1) (by simpa using h2)⟩
theorem owns_amap {C : Cx} {b : Nat} {es : List (AV × AV)} : Owns C b (.amap es) ↔ ∃ (ms : Array MapEntry) (clock : Nat), C.w.heap[b]? = some (.map ms clock) ∧ ms.size = es.length ∧
 ∀ (j : Nat) (m : MapEntry) (e : AV × AV), ms[j]? = some m → es[j]? = some e → RepV { C with dom := fun _ => False } e.1 m.key ∧ RepV { C with dom := fun _ => False } e.2 m.val := by
 constructor
 · rintro ⟨ms, clock, hb, ks, vs, h1, h2, h3, h4, h5, h6, h7⟩
   have hl : ms.size = es.length := by have := congrArg List.length h5; simpa using this
   refine ⟨ms, clock, hb, hl, fun j m e hm he => ?_⟩
   have hm' : ms.toList[j]? = some m := by simpa using hm
   have g1 := RepL.get2 _ _ j e.1 m.key.cells.toList h1 (by simp [he]) (by rw [← h3]; simp [hm])
   have g2 := RepL.get2 _ _ j e.2 m.val.cells.toList h2 (by simp [he]) (by rw [← h4]; simp [hm])
   have g3 : isAggV m.key = e.1.agg := by
    have := congrArg (·[j]?) h5
    simpa [hm, he] using this
   have g4 : isAggV m.val = e.2.agg := by
    have := congrArg (·[j]?) h6
    simpa [hm, he] using this
   have g5 := h7 m (Array.mem_of_getElem? hm)
   exact ⟨⟨g1, g3, g5.1⟩, ⟨g2, g4, g5.2⟩⟩
 · rintro ⟨ms, clock, hb, hl, h⟩
   have get : ∀ {j : Nat} {e : AV × AV}, es[j]? = some e → ∃ m, ms[j]? = some m := fun {j e} he => by
    have hj : j < es.length := (List.getElem?_eq_some_iff.1 he).1
    exact ⟨ms[j]'(by omega), by simp⟩
   have get' : ∀ {j : Nat} {m : MapEntry}, ms[j]? = some m → ∃ e, es[j]? = some e := fun {j m} hm => by
    have hj : j < ms.size := (Array.getElem?_eq_some_iff.1 hm).1
    exact ⟨es[j]'(by omega), by simp⟩
   refine ⟨ms, clock, hb, _, _, RepL.of_get2 _ (ms.toList.map fun m => m.key.cells.toList) (by simp [hl]) ?_, RepL.of_get2 _ (ms.toList.map fun m => m.val.cells.toList) (by simp [hl]) ?_, rfl, rfl, ?_, ?_, ?_⟩
   · intro i x c hx hc
     simp only [List.getElem?_map, Option.map_eq_some_iff] at hx hc
     obtain ⟨e, he, rfl⟩ := hx
     obtain ⟨m, hm, rfl⟩ := hc
     exact (h i m e (by simpa using hm) he).1.1
   · intro i x c hx hc
     simp only [List.getElem?_map, Option.map_eq_some_iff] at hx hc
     obtain ⟨e, he, rfl⟩ := hx
     obtain ⟨m, hm, rfl⟩ := hc
     exact (h i m e (by simpa using hm) he).2.1
   · apply List.ext_getElem?
     intro j
     simp only [List.getElem?_map, Array.getElem?_toList]
     cases hm : ms[j]? with
     | none =>
       cases he : es[j]? with
       | none => rfl
       | some e => obtain ⟨m, hm'⟩ := get he; rw [hm] at hm'; cases hm'
     | some m =>
       obtain ⟨e, he⟩ := get' hm
       rw [he]
       simp only [Option.map_some, (h j m e hm he).1.2.1]
   · apply List.ext_getElem?
     intro j
     simp only [List.getElem?_map, Array.getElem?_toList]
     cases hm : ms[j]? with
     | none =>
       cases he : es[j]? with
       | none => rfl
       | some e => obtain ⟨m, hm'⟩ := get he; rw [hm] at hm'; cases hm'
     | some m =>
       obtain ⟨e, he⟩ := get' hm
       rw [he]
       simp only [Option.map_some, (h j m e hm he).2.2.1]
   · intro m hm
     obtain ⟨j, hj⟩ := Array.getElem?_of_mem hm
     obtain ⟨e, he⟩ := get' hj
     exact ⟨(h j m e hj he).1.2.2, (h j m e hj he).2.2.2⟩
def tMap (P : Program) (t : TypeId) : Option (TypeId × TypeId) :=
 match P.underlying t with
 | some (.map k e) => some (k, e)
 | _ => none
theorem tMap_spec {P : Program} {t : TypeId} {p : TypeId × TypeId} (h : tMap P t = some p) : P.underlying t = some (.map p.1 p.2) := by
 unfold tMap at h; split at h <;> simp_all <;> (subst h; exact ⟨rfl, rfl⟩)
def keysFit (P : Program) (k : TypeId) (es : List (AV × AV)) : Prop := ∀ e ∈ es, fits P e.1 k = true
def foundE (x : AV) (es : List (AV × AV)) : Option AV := (es.find? fun e => x.eqb e.1).map (·.2)
def setE (x y : AV) (es : List (AV × AV)) : List (AV × AV) :=
 match es.findIdx? fun e => x.eqb e.1 with
 | some i => es.set i (x, y)
 | none => es ++ [(x, y)]
def lookupK (P : Program) (t : TypeId) (hp : HP) (m x : AV) (ok : Bool) (K : AV → Prop) : Prop :=
 match tMap P t, m with
 | some (kt, et), .mp o => match HP.get hp o, tZero P et with
   | some (.amap es), some z => fits P x kt = true ∧ x.depth ≤ 9999 ∧ keysFit P kt es ∧
    K (if ok then .tup [(foundE x es).getD z, .bool (foundE x es).isSome] else (foundE x es).getD z)
   | _, _ => False
 | _, _ => False
def mapUpdateK (P : Program) (t : TypeId) (hp : HP) (m x y : AV) (K : AV → HP → Prop) : Prop :=
 match tMap P t, m with
 | some (kt, _), .mp o => match HP.get hp o with
   | some (.amap es) => fits P x kt = true ∧ x.depth ≤ 9999 ∧ keysFit P kt es ∧ y.ok = true ∧ y.idf = true ∧ K (.tup []) (HP.set hp o (.amap (setE x y es)))
   | _ => False
 | _, _ => False
section
variable {P : Program} {E : Env} {hp : HP} {ι : Nat → Nat} {dom im : Nat → Prop} {w : World} {id : Nat}
mutual
theorem fits_idf : ∀ (x : AV) (t : TypeId), fits P x t = true → x.idf = true
 | .bool _, _, _ => rfl
 | .int _ _, _, _ => rfl
 | .str _, _, _ => rfl
 | .root _, _, _ => rfl
 | .st xs, t, h => by
   simp only [fits] at h
   split at h
   · simp only [Bool.and_eq_true] at h
     exact fitsL_idf xs _ _ h.2
   · cases h
 | .arr _, _, h => by simp [fits] at h
 | .sl _ _, _, h => by simp [fits] at h
 | .ms _ _ _, _, h => by simp [fits] at h
 | .ref _, _, h => by simp [fits] at h
 | .ptr _ _ _, _, h => by simp [fits] at h
 | .nilp, _, h => by simp [fits] at h
 | .mp _, _, h => by simp [fits] at h
 | .fn _ _ _, _, h => by simp [fits] at h
 | .nilf, _, h => by simp [fits] at h
 | .tup _, _, h => by simp [fits] at h
 | .raw _, _, h => by simp [fits] at h
theorem fitsL_idf : ∀ (xs : List AV) (fl : List Field) (off : Nat), fitsL P xs fl off = true → AV.idfL xs = true
 | [], _, _, _ => rfl
 | x :: xs, fl, off, h => by
   cases fl with
   | nil => simp [fitsL] at h
   | cons f fl =>
     simp only [fitsL, Bool.and_eq_true] at h
     simp only [AV.idfL, Bool.and_eq_true]
     exact ⟨fits_idf x f.type h.1.2, fitsL_idf xs fl _ h.2⟩
end
theorem RepT.mp_of {C : Cx} {o : Nat} {v : Value} (h : RepT C (.mp o) v) : v = .map (some (C.ι o)) ∧ C.dom o := by
 have h1 := h.one (by simp) rfl rfl
 simp only [Rep, List.cons.injEq, and_true] at h1
 exact h1
theorem fits_ok {x : AV} {t : TypeId} (h : fits P x t = true) : x.ok = true := by
 cases x <;> simp [fits, AV.ok] at h ⊢
theorem findIdx_map (x : AV) (es : List (AV × AV)) : (es.map (·.1)).findIdx? (fun k => x.eqb k) = es.findIdx? fun e => x.eqb e.1 := by
 rw [List.findIdx?_map]; rfl
theorem lookup_sound {t : TypeId} {m x : AV} {a b : Value} {ok : Bool} {K : AV → Prop} (hi : HInv E hp ι dom im w) (hm : RepT ⟨ι, dom, im, w⟩ m a) (hx : RepT ⟨ι, dom, im, w⟩ x b) (hk : lookupK P t hp m x ok K) :
 ∃ r v, K r ∧ (Instr.lookup t a b ok).run P w = .ok v w ∧ RepT ⟨ι, dom, im, w⟩ r v := by
 unfold lookupK at hk
 split at hk
 · rename_i kt et o ht
   split at hk
   · rename_i es z hg hz
     obtain ⟨hf, hd, hks, hk⟩ := hk
     obtain ⟨rfl, _⟩ := hm.mp_of
     obtain ⟨ms, clock, hb, hl, hes⟩ := owns_amap.1 (hi.own o _ hg)
     have rx := hx.ok (fits_ok hf)
     have hu := tMap_spec ht
     obtain ⟨inf, zv, h1, h2, h3, _⟩ := tZero_spec hz
     have hck := checkKey_sound ms.isEmpty x 9999 kt b w hf hd rx
     have hfind := findKey_sound (C := ⟨ι, dom, im, w⟩) (w := w) hf hd rx ms.toList (es.map (·.1)) (by simp [hl]) (fun j m k hm hk => by
      simp only [List.getElem?_map, Option.map_eq_some_iff] at hk
      obtain ⟨e, he, rfl⟩ := hk
      have hem := List.mem_of_getElem? he
      have hr := (hes j m e (by simpa using hm) he).1
      exact ⟨hks e hem, ⟨hr.1.anydom, hr.2⟩⟩)
     rw [findIdx_map] at hfind
     have hres : ∃ v, ((Instr.lookup t (.map (some (ι o))) b ok).run P w = .ok (if ok then .tuple #[v, .bool (foundE x es).isSome] else v) w) ∧ RepV ⟨ι, dom, im, w⟩ ((foundE x es).getD z) v := by
      cases hff : es.findIdx? fun e => x.eqb e.1 with
      | none =>
        rw [hff] at hfind
        have hnone : foundE x es = none := by
         rw [List.findIdx?_eq_none_iff] at hff
         have : (es.find? fun e => x.eqb e.1) = none := by rw [List.find?_eq_none]; intro e he; simp [hff e he]
         simp [foundE, this]
        refine ⟨zv, ?_, by rw [hnone]; exact h3 _⟩
        unfold Instr.lookup
        simp only [Sem.run_bind, run_underlying' hu, Result.andThen_ok, MapKept.run_getObj_map hb, Sem.run_pure, hck, hfind, Option.bind_none, zeroValue, typeInfo, hnone]
        cases ok <;> simp [h1, h2]
      | some i =>
        rw [hff] at hfind
        rw [List.findIdx?_eq_some_iff_getElem] at hff
        obtain ⟨hil, hie, hbefore⟩ := hff
        have hmi : ms[i]? = some (ms[i]'(by omega)) := by simp
        have hei : es[i]? = some es[i] := by simp
        have hsome : foundE x es = some es[i].2 := by
         have : (es.find? fun e => x.eqb e.1) = some es[i] := by
          rw [List.find?_eq_some_iff_getElem]
          exact ⟨hie, i, hil, rfl, fun j hj => by simpa using hbefore j hj⟩
         simp [foundE, this]
        obtain ⟨_, hr⟩ := hes i _ _ hmi hei
        refine ⟨(ms[i]'(by omega)).val, ?_, by rw [hsome]; exact ⟨hr.1.anydom, hr.2⟩⟩
        unfold Instr.lookup
        simp only [Sem.run_bind, run_underlying' hu, Result.andThen_ok, MapKept.run_getObj_map hb, Sem.run_pure, hck, hfind, Option.bind_some, Array.getElem?_toList, hmi, Option.map_some, hsome]
        cases ok <;> simp
     obtain ⟨v, hrun, hrep⟩ := hres
     cases ok with
     | true =>
       refine ⟨_, _, hk, hrun, .inr ⟨[v, .bool (foundE x es).isSome], by simp, ?_⟩⟩
       exact ⟨_, _, rfl, hrep, _, _, rfl, ⟨by simp [Rep, Value.cells], rfl, rfl⟩, rfl⟩
     | false => exact ⟨_, _, hk, hrun, .inr (RepS.of hrep)⟩
   · exact hk.elim
 · exact hk.elim
theorem makeMap_sound {t : TypeId} {K : AV → HP → Prop} (hi : HInv E hp ι dom im w) (hid : ¬ dom id) (hk : K (.mp id) ((id, .amap []) :: hp)) :
 ∃ r hp' v ι' w', K r hp' ∧ (Instr.makeMap t none).run P w = .ok v w' ∧ HInv E hp' ι' (fun o => dom o ∨ o = id) im w' ∧ Cx.Le ⟨ι, dom, im, w⟩ ⟨ι', fun o => dom o ∨ o = id, im, w'⟩ ∧ RepT ⟨ι', fun o => dom o ∨ o = id, im, w'⟩ r v := by
 have hle : Cx.Le ⟨ι, dom, im, w⟩ ⟨updι ι id w.heap.size, fun o => dom o ∨ o = id, im, w.alloc (.map #[] 0)⟩ :=
  (Cx.Le.alloc ⟨ι, dom, im, w⟩ _).trans (Cx.Le.upd hid)
 refine ⟨_, _, .map (some w.heap.size), updι ι id w.heap.size, w.alloc (.map #[] 0), hk, ?_, hi.allocOwn hid (owns_amap.2 ⟨#[], 0, heap_alloc_new w _, rfl, fun j m e h _ => by simp at h⟩), hle, .inr ⟨?_, rfl, rfl⟩⟩
 · simp [Instr.makeMap]
 · simp [Rep, Value.cells, updι]
theorem shape_map {w : World} {b : Nat} {ms : Array MapEntry} {clock : Nat} (h : w.heap[b]? = some (.map ms clock)) (s : TypeId × Nat) : w.shape? b ≠ some s := by
 simp [World.shape?, h]
theorem mapUpdate_sound {t : TypeId} {m x y : AV} {a b c : Value} {K : AV → HP → Prop} (hi : HInv E hp ι dom im w) (hm : RepT ⟨ι, dom, im, w⟩ m a) (hx : RepT ⟨ι, dom, im, w⟩ x b) (hy : RepT ⟨ι, dom, im, w⟩ y c) (hk : mapUpdateK P t hp m x y K) :
 ∃ hp' w', K (.tup []) hp' ∧ (Instr.mapUpdate t a b c).run P w = .ok () w' ∧ HInv E hp' ι dom im w' ∧ Cx.Le ⟨ι, dom, im, w⟩ ⟨ι, dom, im, w'⟩ := by
 unfold mapUpdateK at hk
 split at hk
 · rename_i kt et o ht
   split at hk
   · rename_i es hg
     obtain ⟨hf, hd, hks, hyok, hyid, hk⟩ := hk
     obtain ⟨rfl, _⟩ := hm.mp_of
     obtain ⟨ms, clock, hb, hl, hes⟩ := owns_amap.1 (hi.own o _ hg)
     have rx := hx.ok (fits_ok hf)
     have ry := hy.ok hyok
     have hu := tMap_spec ht
     have hck := checkKey_sound false x 9999 kt b w hf hd rx
     have hfind := findKey_sound (C := ⟨ι, dom, im, w⟩) (w := w) hf hd rx ms.toList (es.map (·.1)) (by simp [hl]) (fun j m k hm hk => by
      simp only [List.getElem?_map, Option.map_eq_some_iff] at hk
      obtain ⟨e, he, rfl⟩ := hk
      have hem := List.mem_of_getElem? he
      have hr := (hes j m e (by simpa using hm) he).1
      exact ⟨hks e hem, ⟨hr.1.anydom, hr.2⟩⟩)
     rw [findIdx_map] at hfind
     have hlt := hi.lt o _ hg trivial
     have xidf : x.idf = true := fits_idf x kt hf
     have step : ∀ (ms' : Array MapEntry) (clock' : Nat) (es' : List (AV × AV)), ms'.size = es'.length →
      (∀ (j : Nat) (m : MapEntry) (e : AV × AV), ms'[j]? = some m → es'[j]? = some e → (RepV ⟨ι, fun _ => False, im, w⟩ e.1 m.key ∧ RepV ⟨ι, fun _ => False, im, w⟩ e.2 m.val)) →
      HInv E (HP.set hp o (.amap es')) ι dom im { w with heap := w.heap.setIfInBounds (ι o) (.map ms' clock') } ∧ Cx.Le ⟨ι, dom, im, w⟩ ⟨ι, dom, im, { w with heap := w.heap.setIfInBounds (ι o) (.map ms' clock') }⟩ := fun ms' clock' es' hl' hes' => by
      refine hi.write hg trivial (by simp) rfl rfl rfl (fun b hb => by simp [Array.getElem?_setIfInBounds_ne (Ne.symm hb)]) (fun s hs => absurd hs (shape_map hb s)) fun hle => ?_
      refine owns_amap.2 ⟨ms', clock', by simp [hlt], hl', fun j m e h1 h2 => ?_⟩
      obtain ⟨k1, k2⟩ := hes' j m e h1 h2
      exact ⟨k1.mono hle.zero, k2.mono hle.zero⟩
     have rx0 : RepV ⟨ι, fun _ => False, im, w⟩ x b := ⟨Rep.idf x _ xidf rx.1, rx.2⟩
     have ry0 : RepV ⟨ι, fun _ => False, im, w⟩ y c := ⟨Rep.idf y _ hyid ry.1, ry.2⟩
     cases hff : es.findIdx? fun e => x.eqb e.1 with
     | none =>
       rw [hff] at hfind
       have he : setE x y es = es ++ [(x, y)] := by simp [setE, hff]
       rw [he] at hk
       obtain ⟨h1, h2⟩ := step (ms.push { key := b, val := c, born := clock }) (clock + 1) (es ++ [(x, y)]) (by simp [hl]) (fun j m e h1 h2 => by
        rw [Array.getElem?_push] at h1
        by_cases hj : j = ms.size
        · rw [if_pos hj] at h1
          cases h1
          rw [hj, hl] at h2
          simp at h2
          subst h2
          exact ⟨rx0, ry0⟩
        · rw [if_neg hj] at h1
          have hjl : j < ms.size := (Array.getElem?_eq_some_iff.1 h1).1
          rw [List.getElem?_append_left (by omega)] at h2
          exact hes j m e h1 h2)
       refine ⟨_, _, hk, ?_, h1, h2⟩
       simp [Instr.mapUpdate, run_underlying' hu, MapKept.run_getObj_map hb, hck, hfind, MapKept.run_setObj_map _ hb, Result.andThen]
     | some i =>
       rw [hff] at hfind
       have he : setE x y es = es.set i (x, y) := by simp [setE, hff]
       rw [he] at hk
       rw [List.findIdx?_eq_some_iff_getElem] at hff
       obtain ⟨hil, hie, _⟩ := hff
       have hms : i < ms.size := by omega
       have hmi : ms[i]? = some ms[i] := by simp
       have hei : es[i]? = some es[i] := by simp
       obtain ⟨rk, _⟩ := hes i _ _ hmi hei
       have hxe : x = es[i].1 := eqb_eq x _ kt hf (hks _ (List.getElem_mem hil)) hie
       rw [← hxe] at rk
       have hkey : ms[i].key = b := rk.cells_eq rx (Rep.same x kt _ _ hf rk.1 rx.1)
       have hsb := sameBits_of hf rx
       have hstay : (Instr.keyThatStays b b).run P w = .ok b w := by simp [Instr.keyThatStays, hsb]
       obtain ⟨h1, h2⟩ := step (ms.modify i fun e => { e with key := b, val := c }) clock (es.set i (x, y)) (by simp [hl]) (fun j m e h1 h2 => by
        rw [Array.getElem?_modify] at h1
        rw [List.getElem?_set] at h2
        by_cases hj : i = j
        · subst hj
          simp only [if_true, hmi, Option.map_some, Option.some.injEq] at h1
          simp only [if_true, hil, Option.some.injEq] at h2
          subst h1; subst h2
          exact ⟨rx0, ry0⟩
        · simp only [hj, if_false] at h1 h2
          exact hes j m e h1 h2)
       refine ⟨_, _, hk, ?_, h1, h2⟩
       simp [Instr.mapUpdate, run_underlying' hu, MapKept.run_getObj_map hb, hck, hfind, hms, hkey, hstay, MapKept.run_setObj_map _ hb, Result.andThen]
   · exact hk.elim
 · exact hk.elim
end
end Go.Ab
namespace Go.Ab
open Go.RowKit
def sliceHK (P : Program) (t : TypeId) (hp : HP) (x : AV) (lo hi mx : Option AV) (K : AV → Prop) : Prop :=
 match x, lo, hi, mx with
 | .ptr o [] 0, none, none, none => match tArr P t, HP.get hp o with
   | some (n, e), some (.var (.root _)) => n = 32 ∧ tSize P e = some 1 ∧ K (.ms o 1 32)
   | _, _ => False
 | _, _, _, _ => sliceK P t x lo hi mx K
def copyK (P : Program) (t : TypeId) (hp : HP) (d s : AV) (K : AV → HP → Prop) : Prop :=
 match d with
 | .ms o sz n => match HP.get hp o, elemsOf hp s, tElem P t with
   | some (.var (.root _)), some ys, some e => sz = 1 ∧ n = 32 ∧ tSize P e = some 1 ∧ 32 ≤ ys.length ∧ ∃ r : Root, ys.take 32 = (r.1.map fun b => .int .u8 b.toNat) ∧ K (.int .i64 32) (HP.set hp o (.var (.root r)))
   | _, _, _ => False
 | _ => False
section
variable {P : Program} {E : Env} {hp : HP} {ι : Nat → Nat} {dom im : Nat → Prop} {w : World} {id : Nat}
theorem sliceH_sound {t : TypeId} {x : AV} {a : Value} {lo hi mx : Option AV} {vl vh vm : Option Value} {K : AV → Prop} (hI : HInv E hp ι dom im w) (hx : RepT ⟨ι, dom, im, w⟩ x a)
 (rl : ∀ a u, lo = some a → vl = some u → RepT ⟨ι, dom, im, w⟩ a u) (nl : lo = none ↔ vl = none) (rh : ∀ a u, hi = some a → vh = some u → RepT ⟨ι, dom, im, w⟩ a u) (nh : hi = none ↔ vh = none)
 (rm : ∀ a u, mx = some a → vm = some u → RepT ⟨ι, dom, im, w⟩ a u) (nm : mx = none ↔ vm = none) (hk : sliceHK P t hp x lo hi mx K) :
 ∃ r v, K r ∧ (Instr.sliceAt t a vl vh vm).run P w = .ok v w ∧ RepT ⟨ι, dom, im, w⟩ r v := by
 unfold sliceHK at hk
 split at hk
 · rename_i o
   split at hk
   · rename_i n e r he hg
     obtain ⟨rfl, hss, hk⟩ := hk
     have hu := tArr_spec he
     obtain ⟨rfl, hd⟩ := hx.ptr_of
     have e1 := nl.1 rfl
     have e2 := nh.1 rfl
     have e3 := nm.1 rfl
     subst e1; subst e2; subst e3
     obtain ⟨cs, e', k1, k2⟩ := hI.own o _ hg
     simp only [Rep] at k2
     refine ⟨_, .slice (some ⟨ι o, 0, none⟩) 32 32, hk, ?_, .inr ⟨?_, rfl, rfl⟩⟩
     · simp [Instr.sliceAt, run_underlying' hu, Instr.sureAddr, Instr.sliceBounds, run_sizeOf' hss, add_mk]
     · simp only [Rep, Value.cells]
       refine ⟨_, 32, rfl, hd, by omega, by simp [maxLen], .inr ⟨by omega, rfl, e', ?_⟩⟩
       have : cs.size = 32 := by
        have := congrArg List.length k2
        rw [rootCells_length] at this
        simpa using this
       simp [World.shape?, k1, this]
   · exact hk.elim
 · exact slice_sound hx rl nl rh nh rm nm hk
theorem copy_sound {t : TypeId} {d s : AV} {a b : Value} {K : AV → HP → Prop} (t2 ty : TypeId) (hI : HInv E hp ι dom im w) (hd : RepT ⟨ι, dom, im, w⟩ d a) (hs : RepT ⟨ι, dom, im, w⟩ s b) (hk : copyK P t hp d s K) :
 ∃ r hp' v w', K r hp' ∧ (Builtin.copy_ #[t, t2] ty #[a, b]).run P w = .ok v w' ∧ HInv E hp' ι dom im w' ∧ Cx.Le ⟨ι, dom, im, w⟩ ⟨ι, dom, im, w'⟩ ∧ RepT ⟨ι, dom, im, w'⟩ r v := by
 unfold copyK at hk
 split at hk
 · rename_i o sz n
   split at hk
   · rename_i r0 ys e hg hys he
     obtain ⟨rfl, rfl, hss, hlen, r, hr, hk⟩ := hk
     have h1 := hd.one (by simp) rfl rfl
     simp only [Rep] at h1
     obtain ⟨A, c, h1, hdo, h3, h4, h5⟩ := h1
     simp only [List.cons.injEq, and_true] at h1
     subst h1
     rcases h5 with h5 | ⟨_, rfl, e', h7⟩
     · omega
     obtain ⟨B, c2, rfl, g2, g3, g4⟩ := elems_at hI hs hys
     rcases g4 with g4 | ⟨bb, off, css, rfl, g5, g6, g7, g8⟩
     · rw [g4] at hlen; simp at hlen
     obtain ⟨cur, e2, k1, k2⟩ := hI.own o _ hg
     simp only [Rep] at k2
     have hcs : cur.size = 32 := by
      have := congrArg List.length k2
      rw [rootCells_length] at this
      simpa using this
     have htk : (css.take 32).flatten = rootCells r := by
      have h := RepL.take ys css 32 g6
      rw [hr] at h
      have q := rootBytes_rep (C := ⟨ι, fun _ => False, im, w⟩) r
      have same : ∀ (xs : List AV) (a b : List (List Value)), (∀ x ∈ xs, ∃ k n, x = AV.int k n) → RepL ⟨ι, fun _ => False, im, w⟩ xs a → RepL ⟨ι, fun _ => False, im, w⟩ xs b → a = b := by
       intro xs
       induction xs with
       | nil => intro a b _ h1 h2; simp only [RepL] at h1 h2; rw [h1, h2]
       | cons x xs ih =>
         intro a b hx h1 h2
         simp only [RepL] at h1 h2
         obtain ⟨c1, r1, rfl, m1, m2⟩ := h1
         obtain ⟨c2, r2, rfl, m3, m4⟩ := h2
         obtain ⟨k, n, rfl⟩ := hx x (by simp)
         simp only [Rep] at m1 m3
         rw [m1, m3, ih r1 r2 (fun y hy => hx y (by simp [hy])) m2 m4]
      have := same _ _ _ (fun x hx => by
       simp only [List.mem_map] at hx
       obtain ⟨b, _, rfl⟩ := hx
       exact ⟨_, _, rfl⟩) h q
      rw [this, flatten_single]
     have hcells : ∀ j v, (rootCells r)[j]? = some v → w.cell? ((⟨bb, off, none⟩ : Addr).add j) = some v := fun j v hj => by
      rw [add_mk]
      have hp : rootCells r <+: css.flatten := by
       rw [← htk]
       conv => rhs; rw [← List.take_append_drop 32 css, List.flatten_append]
       exact List.prefix_append _ _
      obtain ⟨tl, htl⟩ := hp
      refine g8 j v ?_
      rw [← htl, List.getElem?_append_left (List.getElem?_eq_some_iff.1 hj).1]
      exact hj
     have hone : ∀ v ∈ rootCells r, v.oneCell' = true := fun v hv => by
      unfold rootCells at hv
      obtain ⟨b, _, rfl⟩ := List.mem_map.1 hv
      rfl
     have hrun := run_copy_row (P := P) w t t2 ty e (ι o) 0 32 c ⟨bb, off, none⟩ ys.length c2 cur e2 (rootCells r) (tElem_spec he) hss k1 (by rw [rootCells_length]; exact (Nat.min_eq_right hlen).symm) hcells (by rw [rootCells_length, hcs]; omega) hone
     have hnew : (cur.toList.take 0 ++ rootCells r ++ cur.toList.drop (0 + (rootCells r).length)).toArray = (rootCells r).toArray := by
      rw [rootCells_length, List.drop_eq_nil_of_le (by simp [hcs])]
      simp
     rw [hnew] at hrun
     have hsize : (rootCells r).toArray.size = cur.size := by simp [rootCells_length, hcs]
     obtain ⟨w1, w2⟩ := hI.write (w' := w.setRow (ι o) (rootCells r).toArray) (ao' := .var (.root r)) hg trivial (setRow_size w (ι o) _) rfl rfl rfl (fun b hb => setRow_other w (ι o) b _ hb) (fun s hs => setRow_shape k1 hsize s hs) fun _ =>
      ⟨(rootCells r).toArray, e2, setRow_heap w (ι o) cur _ e2 (0, 0) k1, by simp [Rep]⟩
     refine ⟨_, _, _, _, hk, hrun, w1, w2, ?_⟩
     rw [rootCells_length]
     exact repS_int _ _
   · exact hk.elim
 · exact hk.elim
end
end Go.Ab
namespace Go.Ab
open Go.RowKit
section
variable {P : Program} {E : Env} {hp : HP} {ι : Nat → Nat} {dom im : Nat → Prop} {w : World} {id : Nat} {K : AV → HP → Prop}
theorem HInv.del (h : HInv E hp ι dom im w) (o : Nat) : HInv E (HP.del hp o) ι dom im w := by
 have key : ∀ o' ob, HP.get (HP.del hp o) o' = some ob → HP.get hp o' = some ob := fun o' ob hg => by
  rw [HP.get_del] at hg
  split at hg
  · cases hg
  · exact hg
 exact ⟨fun o' ob hg => h.own o' ob (key _ _ hg), fun o' ob hg => h.dm o' ob (key _ _ hg), fun o' ob hg => h.lt o' ob (key _ _ hg), fun o' ob hg => h.nim o' ob (key _ _ hg),
  fun o1 o2 ob1 ob2 h1 h2 => h.inj o1 o2 ob1 ob2 (key _ _ h1) (key _ _ h2), fun o' ob hg => h.loc o' ob (key _ _ hg), h.imlt, h.imsub, h.im0, h.ext, h.size, h.os, h.tape, h.output, h.sh, h.pin⟩
theorem HInv.addNil' {id : Nat} (h : HInv E hp ι dom im w) (_ : ¬ dom id) : HInv E hp ι (fun o => dom o ∨ o = id) im w := by
 have hle : Cx.Le ⟨ι, dom, im, w⟩ ⟨ι, fun o => dom o ∨ o = id, im, w⟩ := Cx.Le.grow ⟨ι, dom, im, w⟩ (fun _ h => .inl h) (fun _ _ => rfl) (fun _ h => h)
 exact ⟨fun o ob' hg => (h.own o ob' hg).mono hle (fun _ => rfl), fun o ob' hg => .inl (h.dm o ob' hg), h.lt, h.nim, h.inj, h.loc, h.imlt, h.imsub, h.im0, h.ext, h.size, h.os, h.tape, h.output, h.sh, fun o ho => ⟨.inl (h.pin o ho).1, (h.pin o ho).2⟩⟩
theorem HInv.addNil (h : HInv E hp ι dom im w) (hid : ¬ dom id) (sz : Nat) : HInv E ((id, .row sz []) :: hp) ι (fun o => dom o ∨ o = id) im w := by
 have hle : Cx.Le ⟨ι, dom, im, w⟩ ⟨ι, fun o => dom o ∨ o = id, im, w⟩ := Cx.Le.grow ⟨ι, dom, im, w⟩ (fun _ h => .inl h) (fun _ _ => rfl) (fun _ h => h)
 have cases' : ∀ o ob', HP.get ((id, AO.row sz []) :: hp) o = some ob' → (o = id ∧ ob' = .row sz []) ∨ HP.get hp o = some ob' := fun o ob' hg => by
  rw [HP.get_cons] at hg
  by_cases e : id = o
  · simp only [e, if_true, Option.some.injEq] at hg
    exact .inl ⟨e.symm, hg.symm⟩
  · simp only [e, if_false] at hg
    exact .inr hg
 have nr : ¬ (AO.row sz []).real := fun h => h
 refine ⟨fun o ob' hg => ?_, fun o ob' hg => ?_, fun o ob' hg hr => ?_, fun o ob' hg hr => ?_, fun o1 o2 ob1 ob2 hg1 hg2 hr1 hr2 he => ?_, fun o ob' hg hr => ?_, h.imlt, h.imsub, h.im0, h.ext, h.size, h.os, h.tape, h.output, h.sh, fun o ho => ⟨.inl (h.pin o ho).1, (h.pin o ho).2⟩⟩
 · rcases cases' o ob' hg with ⟨rfl, rfl⟩ | hg
   · exact .inl rfl
   · exact (h.own o ob' hg).mono hle (fun _ => rfl)
 · rcases cases' o ob' hg with ⟨rfl, rfl⟩ | hg
   · exact .inr rfl
   · exact .inl (h.dm o ob' hg)
 · rcases cases' o ob' hg with ⟨rfl, rfl⟩ | hg
   · exact absurd hr nr
   · exact h.lt o ob' hg hr
 · rcases cases' o ob' hg with ⟨rfl, rfl⟩ | hg
   · exact absurd hr nr
   · exact h.nim o ob' hg hr
 · rcases cases' o1 ob1 hg1 with ⟨_, e1⟩ | hg1 <;> rcases cases' o2 ob2 hg2 with ⟨_, e2⟩ | hg2
   · exact absurd (e1 ▸ hr1) nr
   · exact absurd (e1 ▸ hr1) nr
   · exact absurd (e2 ▸ hr2) nr
   · exact h.inj o1 o2 ob1 ob2 hg1 hg2 hr1 hr2 he
 · rcases cases' o ob' hg with ⟨rfl, rfl⟩ | hg
   · exact absurd hr nr
   · exact h.loc o ob' hg hr
theorem HInv.rename (h : HInv E hp ι dom im w) {o : Nat} {ao : AO} (hg : HP.get hp o = some ao) (hid : ¬ dom id) :
 HInv E ((id, ao) :: HP.del hp o) (updι ι id (ι o)) (fun o => dom o ∨ o = id) im w := by
 have hle : Cx.Le ⟨ι, dom, im, w⟩ ⟨updι ι id (ι o), fun o => dom o ∨ o = id, im, w⟩ := Cx.Le.upd hid
 have hnew : updι ι id (ι o) id = ι o := by simp [updι]
 have hold : ∀ o' ob', HP.get hp o' = some ob' → updι ι id (ι o) o' = ι o' := fun o' ob' hg => by
  unfold updι; rw [if_neg (show o' ≠ id from fun e => hid (e ▸ h.dm o' ob' hg))]
 have cases' : ∀ o' ob', HP.get ((id, ao) :: HP.del hp o) o' = some ob' → (o' = id ∧ ob' = ao) ∨ (o' ≠ o ∧ HP.get hp o' = some ob') := fun o' ob' hg' => by
  rw [HP.get_cons, HP.get_del] at hg'
  by_cases e : id = o'
  · simp only [e, if_true, Option.some.injEq] at hg'
    exact .inl ⟨e.symm, hg'.symm⟩
  · simp only [e, if_false] at hg'
    split at hg'
    · cases hg'
    · rename_i hne
      exact .inr ⟨hne, hg'⟩
 refine ⟨fun o' ob' hg' => ?_, fun o' ob' hg' => ?_, fun o' ob' hg' hr => ?_, fun o' ob' hg' hr => ?_, fun o1 o2 ob1 ob2 hg1 hg2 hr1 hr2 he => ?_, fun o' ob' hg' hr => ?_, h.imlt, h.imsub, h.im0, h.ext, h.size, h.os, h.tape, h.output, h.sh, fun o' ho => ⟨.inl (h.pin o' ho).1, by rw [← (h.pin o' ho).2]; unfold updι; rw [if_neg (show o' ≠ id from fun e => hid (e ▸ (h.pin o' ho).1))]⟩⟩
 · rcases cases' o' ob' hg' with ⟨rfl, rfl⟩ | ⟨_, hg'⟩
   · rw [hnew]; exact (h.own o ob' hg).mono hle (fun _ => rfl)
   · rw [hold _ _ hg']; exact (h.own o' ob' hg').mono hle (fun _ => rfl)
 · rcases cases' o' ob' hg' with ⟨rfl, rfl⟩ | ⟨_, hg'⟩
   · exact .inr rfl
   · exact .inl (h.dm _ _ hg')
 · rcases cases' o' ob' hg' with ⟨rfl, rfl⟩ | ⟨_, hg'⟩
   · rw [hnew]; exact h.lt o ob' hg hr
   · rw [hold _ _ hg']; exact h.lt o' ob' hg' hr
 · rcases cases' o' ob' hg' with ⟨rfl, rfl⟩ | ⟨_, hg'⟩
   · rw [hnew]; exact h.nim o ob' hg hr
   · rw [hold _ _ hg']; exact h.nim o' ob' hg' hr
 · rcases cases' o1 ob1 hg1 with ⟨e1, e1'⟩ | ⟨n1, hg1⟩ <;> rcases cases' o2 ob2 hg2 with ⟨e2, e2'⟩ | ⟨n2, hg2⟩
   · rw [e1, e2]
   · rw [e1, hnew, hold _ _ hg2] at he
     exact absurd (h.inj o o2 ao ob2 hg hg2 (e1' ▸ hr1) hr2 he).symm n2
   · rw [e2, hnew, hold _ _ hg1] at he
     exact absurd (h.inj o1 o ob1 ao hg1 hg hr1 (e2' ▸ hr2) he) n1
   · rw [hold _ _ hg1, hold _ _ hg2] at he
     exact h.inj o1 o2 ob1 ob2 hg1 hg2 hr1 hr2 he
 · rcases cases' o' ob' hg' with ⟨rfl, rfl⟩ | ⟨_, hg'⟩
   · rw [hnew]; exact h.loc o ob' hg hr
   · rw [hold _ _ hg']; exact h.loc o' ob' hg' hr
def appendK (P : Program) (t t2 : TypeId) (hp : HP) (s x : AV) (id : Nat) (K : AV → HP → Prop) : Prop :=
 t2 = t ∧
 match tElem P t with
 | some e => match tSize P e, tBytes P e, tZero P e, elemsOf hp x with
   | some sz, some by_, some z0, some ys => z0.len = sz ∧
     match s with
     | .sl xs true => 0 < sz ∧ (∀ z ∈ ys, z.len = sz) ∧ (∀ z ∈ xs, z.len = sz) ∧ xs.length + ys.length ≤ 2 ^ 47 ∧ (xs.length + ys.length) * by_ ≤ 2 ^ 47 ∧
      match xs with
      | [] => (xs = [] ∨ ys ≠ []) ∧ K (.ms id sz (xs ++ ys).length) ((id, .row sz (xs ++ ys)) :: hp)
      | _ :: _ => (ys ≠ [] ∧ K (.ms id sz (xs ++ ys).length) ((id, .row sz (xs ++ ys)) :: hp)) ∨ (ys = [] ∧ K (.sl xs true) hp)
     | .ms o sz' n => match HP.get hp o with
       | some (.row sz'' xs) => sz' = sz ∧ sz'' = sz ∧ n = xs.length ∧ 0 < sz ∧ (∀ z ∈ ys, z.len = sz) ∧ xs.length + ys.length ≤ 2 ^ 47 ∧ (xs.length + ys.length) * by_ ≤ 2 ^ 47 ∧
         K (.ms id sz (xs ++ ys).length) ((id, .row sz (xs ++ ys)) :: HP.del hp o)
       | _ => False
     | _ => False
   | _, _, _, _ => False
 | none => False
theorem run_append_zero {t e : TypeId} {sz n c : Nat} {A B : Option Addr} {cap : Nat} (ty : TypeId) (hu : P.underlying t = some (.slice e)) (hs : tSize P e = some sz) (hc : n ≤ c) :
 (Builtin.append_ #[t, t] ty #[.slice A n c, .slice B 0 cap]).run P w = .ok (.slice A n c) w := by
 have his := run_sizeOf' hs w
 cases A <;> cases B <;> simp [Builtin.append_, run_underlying' hu, his, Builtin.lenOf, hc, Builtin.firstCells, loadCells, loadCellsFrom, storeCells]
theorem run_append_room' {t e e' : TypeId} {sz g n c m cap : Nat} {cur : Array Value} {bb boff : Nat} {news : List Value} (ty : TypeId) (hu : P.underlying t = some (.slice e)) (hs : tSize P e = some sz)
 (hg : w.heap[g]? = some (.cells cur e' (0, 0))) (hl : news.length = m * sz) (hnews : cellsAt w bb boff news) (h1 : ∀ u ∈ news, u.oneCell' = true) (hroom : n + m ≤ c) (hfit : n * sz + news.length ≤ cur.size) :
 (Builtin.append_ #[t, t] ty #[.slice (some ⟨g, 0, none⟩) n c, .slice (some ⟨bb, boff, none⟩) m cap]).run P w =
  .ok (.slice (some ⟨g, 0, none⟩) (n + m) c) (w.setRow g (cur.toList.take (n * sz) ++ news ++ cur.toList.drop (n * sz + news.length)).toArray) := by
 have his := run_sizeOf' hs w
 have hf : (Builtin.firstCells sz m (.slice (some ⟨bb, boff, none⟩) m cap)).run P w = .ok news.toArray w := by
  simp only [Builtin.firstCells, ← hl]
  exact run_loadCells' hnews
 have hst := run_storeCells_at P g (n * sz) e' news 0 cur w hg (by simpa using hfit) h1
 simp only [Nat.add_zero] at hst
 simp [Builtin.append_, run_underlying' hu, his, Builtin.lenOf, hroom, hf, add_mk, hst]
theorem uniform_flatten_len {C : Cx} {xs : List AV} {css : List (List Value)} {sz : Nat} (h : RepL C xs css) (hl : ∀ z ∈ xs, z.len = sz) : (∀ c ∈ css, c.length = sz) ∧ css.flatten.length = xs.length * sz := by
 have h1 : ∀ (xs : List AV) (css : List (List Value)), RepL C xs css → (∀ z ∈ xs, z.len = sz) → ∀ c ∈ css, c.length = sz := by
  intro xs
  induction xs with
  | nil => intro css h _ c hc; simp only [RepL] at h; subst h; cases hc
  | cons x xs ih =>
    intro css h hl c hc
    simp only [RepL] at h
    obtain ⟨c0, r, rfl, h1, h2⟩ := h
    rcases List.mem_cons.1 hc with rfl | hc
    · rw [Rep.length x _ h1]; exact hl x (by simp)
    · exact ih r h2 (fun z hz => hl z (by simp [hz])) c hc
 have h2 := h1 xs css h hl
 refine ⟨h2, ?_⟩
 have := flatten_uniform h2 css.length
 rw [List.take_length, Nat.min_self, RepL.len_eq _ _ h] at this
 exact this
theorem cellsAt.addr {w : World} {b off : Nat} {cs : List Value} (h : cellsAt w b off cs) : ∀ j u, cs[j]? = some u → w.cell? ((⟨b, off, none⟩ : Addr).add j) = some u := fun j u hu => by
 rw [add_mk]; exact h j u hu
theorem append_sound {t t2 ty : TypeId} {s x : AV} {a b : Value} (hi : HInv E hp ι dom im w) (hid : ¬ dom id) (hs : RepT ⟨ι, dom, im, w⟩ s a) (hx : RepT ⟨ι, dom, im, w⟩ x b) (hk : appendK P t t2 hp s x id K) :
 ∃ r hp' v ι' im' w', K r hp' ∧ (Builtin.append_ #[t, t2] ty #[a, b]).run P w = .ok v w' ∧ HInv E hp' ι' (fun o => dom o ∨ o = id) im' w' ∧ Cx.Le ⟨ι, dom, im, w⟩ ⟨ι', fun o => dom o ∨ o = id, im', w'⟩ ∧ RepT ⟨ι', fun o => dom o ∨ o = id, im', w'⟩ r v := by
 unfold appendK at hk
 obtain ⟨rfl, hk⟩ := hk
 split at hk
 · rename_i e he
   split at hk
   · rename_i sz by_ z ys hsz hby hz hel
     obtain ⟨hzl, hk⟩ := hk
     have hu := tElem_spec he
     obtain ⟨i, zv, z1, z2, z3, zid⟩ := tZero_spec hz
     have hib : i.bytes = by_ := by unfold tBytes at hby; rw [z1] at hby; simpa using hby
     have hisz : i.size = sz := by unfold tSize at hsz; rw [z1] at hsz; simpa using hsz
     obtain ⟨B, cap, rfl, hy1, hy2, hy3⟩ := elems_at hi hx hel
     -- a new row, wherever the elements were
     have fresh : ∀ (xs : List AV) (A : Option Addr) (n c : Nat), n = xs.length → (∃ cssx, RepL ⟨ι, fun _ => False, im, w⟩ xs cssx ∧ (∀ z ∈ xs, z.len = sz) ∧ (A = none → xs = [] ∧ c = 0) ∧ ∀ ad, A = some ad → ∀ j u, cssx.flatten[j]? = some u → w.cell? (ad.add j) = some u) →
      (∀ z ∈ ys, z.len = sz) → ys ≠ [] → c < n + ys.length → xs.length + ys.length ≤ 2 ^ 47 → (xs.length + ys.length) * by_ ≤ 2 ^ 47 → ∀ hp1, HInv E hp1 ι dom im w →
      ∃ v ι' w', (Builtin.append_ #[t2, t2] ty #[.slice A n c, .slice B ys.length cap]).run P w = .ok v w' ∧ HInv E ((id, .row sz (xs ++ ys)) :: hp1) ι' (fun o => dom o ∨ o = id) im w' ∧
        Cx.Le ⟨ι, dom, im, w⟩ ⟨ι', fun o => dom o ∨ o = id, im, w'⟩ ∧ RepT ⟨ι', fun o => dom o ∨ o = id, im, w'⟩ (.ms id sz (xs ++ ys).length) v := by
      intro xs A n c hn ⟨cssx, hrx, hlx, hA, hcx⟩ hly hne hlt hb1 hb2 hp1 hi1
      subst hn
      rcases hy3 with h0 | ⟨bb, boff, cssy, rfl, _, k2, _, k4⟩
      · exact absurd h0 hne
      have hyp : 0 < ys.length := List.length_pos_iff.2 hne
      obtain ⟨uy, fy⟩ := uniform_flatten_len k2 hly
      obtain ⟨ux, fx⟩ := uniform_flatten_len hrx hlx
      obtain ⟨nc, hnc1, hnc2, hrun⟩ : ∃ nc, xs.length + ys.length ≤ nc ∧ nc ≤ maxLen ∧ (Builtin.append_ #[t2, t2] ty #[.slice A xs.length c, .slice (some ⟨bb, boff, none⟩) ys.length cap]).run P w =
       .ok (.slice (some ⟨w.heap.size, 0, none⟩) (xs.length + ys.length) nc) (w.drew.alloc (.cells (cssx.flatten.toArray ++ cssy.flatten.toArray ++ Builtin.zeroCells zv.cells (nc - (xs.length + ys.length))) e)) := by
       refine ⟨grownCap w (xs.length + ys.length) c e, grownCap_ge _ _ _ _, grownCap_le_maxLen _ _ _ _ (by simp [maxLen]; omega), ?_⟩
       cases A with
       | none =>
         obtain ⟨e1, e2⟩ := hA rfl
         subst e1; subst e2
         have hce : cssx = [] := by simpa [RepL] using hrx
         subst hce
         have := run_append_nil (P := P) w t2 ty e i zv hu z1 z2 ⟨bb, boff, none⟩ ys.length cap cssy.flatten (by rw [fy, hisz]) k4.addr hyp (by omega) (by rw [hib]; simp at hb2; omega)
         simpa using this
       | some ad =>
         exact run_append_grow (P := P) w t2 ty e i zv hu z1 z2 ad xs.length c cssx.flatten (by rw [fx, hisz]) (hcx ad rfl) ⟨bb, boff, none⟩ ys.length cap cssy.flatten (by rw [fy, hisz]) k4.addr hlt (by omega)
          (growslice_fits hlt (by rw [hib]; omega))
      obtain ⟨cells, hcd⟩ : ∃ cells : Array Value, cells = cssx.flatten.toArray ++ cssy.flatten.toArray ++ Builtin.zeroCells zv.cells (nc - (xs.length + ys.length)) := ⟨_, rfl⟩
      rw [← hcd] at hrun
      have hle : Cx.Le ⟨ι, dom, im, w⟩ ⟨updι ι id w.drew.heap.size, fun o => dom o ∨ o = id, im, w.drew.alloc (.cells cells e)⟩ :=
       ((Cx.Le.drew ⟨ι, dom, im, w⟩).trans (Cx.Le.alloc ⟨ι, dom, im, w.drew⟩ _)).trans (Cx.Le.upd hid)
      have hzs : zv.cells.size = sz := by
       have h1 := Rep.length _ _ (z3 ⟨ι, dom, im, w⟩).1
       simp at h1
       omega
      have hcs : cells.size = nc * sz := by
       rw [hcd]
       simp only [Array.size_append, List.size_toArray, size_zeroCells, fx, fy, hzs, ← Nat.add_mul]
       congr 1
       omega
      have hrow : RepL ⟨ι, fun _ => False, im, w⟩ (xs ++ ys) (cssx ++ cssy) := RepL.append _ _ _ _ hrx k2
      have hown : Owns ⟨updι ι id w.drew.heap.size, fun o => dom o ∨ o = id, im, w.drew.alloc (.cells cells e)⟩ w.drew.heap.size (.row sz (xs ++ ys)) := by
       refine .inr ⟨cells, e, cssx ++ cssy, heap_alloc_new w.drew _, RepL.mono hle.zero _ _ hrow, fun c' hc' => ?_, ?_⟩
       · rcases List.mem_append.1 hc' with h | h
         · exact ux c' h
         · exact uy c' h
       · rw [hcd]
         simp only [List.flatten_append, Array.toList_append]
         exact List.prefix_append _ _
      refine ⟨_, _, _, hrun, hi1.drew.allocOwn hid hown, hle, .inr ⟨?_, rfl, rfl⟩⟩
      simp only [Rep, Value.cells]
      refine ⟨some ⟨w.heap.size, 0, none⟩, nc, by simp [List.length_append], .inr (by trivial), by simpa using hnc1, hnc2, .inr ⟨by simp; omega, by simp [updι], e, ?_⟩⟩
      have := shape_new w.drew cells e
      simp only [updι, if_true]
      rw [this, hcs]
     split at hk
     · rename_i xs
       obtain ⟨hszp, hly, hlx, hb1, hb2, hk⟩ := hk
       have h1 := hs.one (by simp) rfl rfl
       have hs0 := h1
       simp only [Rep] at h1
       obtain ⟨A, c, h1, h2, h3, h4, h5⟩ := h1
       simp only [List.cons.injEq, and_true] at h1
       subst h1
       have hc := h4 (by trivial)
       subst hc
       by_cases hye : ys = []
       · subst hye
         by_cases hxe : xs = []
         case neg =>
          obtain ⟨x0, xs, rfl⟩ := List.exists_cons_of_ne_nil hxe
          have hk : K (.sl (x0 :: xs) true) hp := by
           rcases hk with h | h
           · exact absurd rfl h.1
           · exact h.2
          have hle : Cx.Le ⟨ι, dom, im, w⟩ ⟨ι, fun o => dom o ∨ o = id, im, w⟩ := Cx.Le.grow ⟨ι, dom, im, w⟩ (fun _ h => .inl h) (fun _ _ => rfl) (fun _ h => h)
          exact ⟨_, _, _, ι, im, w, hk, run_append_zero ty hu hsz (Nat.le_refl _), hi.addNil' hid, hle, .inr ⟨Rep.mono hle _ _ hs0, rfl, rfl⟩⟩
         subst hxe
         obtain ⟨hor, hk⟩ := hk
         have hle : Cx.Le ⟨ι, dom, im, w⟩ ⟨ι, fun o => dom o ∨ o = id, im, w⟩ := Cx.Le.grow ⟨ι, dom, im, w⟩ (fun _ h => .inl h) (fun _ _ => rfl) (fun _ h => h)
         refine ⟨_, _, _, ι, im, w, hk, run_append_zero ty hu hsz (Nat.le_refl _), ?_, hle, .inr ⟨?_, rfl, rfl⟩⟩
         · exact hi.addNil hid sz
         · simp only [Rep, Value.cells]
           exact ⟨A, 0, by simp, .inr (by trivial), by simp, by simp [maxLen], .inl ⟨by simp, rfl⟩⟩
       · obtain ⟨v, ι', w', r1, r2, r3, r4⟩ := fresh xs A xs.length xs.length rfl (by
          rcases h5 with rfl | ⟨bb, boff, cssx, rfl, _, _, k4, _, k6⟩
          · exact ⟨[], by simp [RepL], by simp, fun _ => ⟨rfl, rfl⟩, fun ad _ j u hu => by simp at hu⟩
          · exact ⟨cssx, k4, hlx, (fun e => by cases e), (fun ad e j u hu => by cases e; exact k6.addr j u hu)⟩) hly hye (by have := List.length_pos_iff.2 hye; omega) hb1 hb2 hp hi
         have hk : K (.ms id sz (xs ++ ys).length) ((id, .row sz (xs ++ ys)) :: hp) := by
          cases xs with
          | nil => exact hk.2
          | cons _ _ =>
            rcases hk with h | h
            · exact h.2
            · exact absurd h.1 hye
         exact ⟨_, _, v, ι', im, w', hk, r1, r2, r3, r4⟩
     · rename_i o sz' n
       split at hk
       · rename_i sz'' xs hg
         obtain ⟨rfl, rfl, hn, hszp, hly, hb1, hb2, hk⟩ := hk
         subst hn
         have h1 := hs.one (by simp) rfl rfl
         simp only [Rep] at h1
         obtain ⟨A, c, h1, hd, h3, h4, h5⟩ := h1
         simp only [List.cons.injEq, and_true] at h1
         subst h1
         have hlen0 : (xs ++ ys).length = xs.length + ys.length := List.length_append
         by_cases hye : ys = []
         · subst hye
           simp only [List.append_nil] at hk
           refine ⟨_, _, _, _, im, w, hk, run_append_zero ty hu hsz h3, hi.rename hg hid, Cx.Le.upd hid, .inr ⟨?_, rfl, rfl⟩⟩
           simp only [Rep, Value.cells]
           refine ⟨A, c, rfl, .inr (by trivial), h3, h4, ?_⟩
           rcases h5 with h5 | ⟨h5, h6, h7⟩
           · exact .inl h5
           · exact .inr ⟨h5, by simpa [updι] using h6, by simpa [updι] using h7⟩
         · have hyp : 0 < ys.length := List.length_pos_iff.2 hye
           -- the elements that are there
           have hold : ∃ cssx, RepL ⟨ι, fun _ => False, im, w⟩ xs cssx ∧ (∀ z ∈ xs, z.len = sz'') ∧ (A = none → xs = [] ∧ c = 0) ∧ (∀ ad, A = some ad → ∀ j u, cssx.flatten[j]? = some u → w.cell? (ad.add j) = some u) ∧
            (xs ≠ [] → ∃ cs e', w.heap[ι o]? = some (.cells cs e' (0, 0)) ∧ A = some ⟨ι o, 0, none⟩ ∧ cs.size = c * sz'' ∧ cssx.flatten <+: cs.toList) := by
            cases xs with
            | nil =>
              rcases h5 with ⟨_, h6⟩ | ⟨h6, _⟩
              · exact ⟨[], by simp [RepL], by simp, fun _ => ⟨rfl, h6⟩, fun ad _ j u hu => by simp at hu, fun h => absurd rfl h⟩
              · simp at h6
            | cons x0 xs0 =>
              rcases hi.own o _ hg with hn | ⟨cs, e', css, k1, k2, k3, k4⟩
              · cases hn
              rcases h5 with ⟨h6, _⟩ | ⟨_, h6, e2, h7⟩
              · simp at h6
              have hlx : ∀ z ∈ (x0 :: xs0), z.len = sz'' := by
               intro z hz
               obtain ⟨j, hj⟩ := List.mem_iff_getElem?.1 hz
               obtain ⟨c0, hc0, hr0⟩ := RepL.get _ _ _ _ k2 hj
               rw [← Rep.length _ _ hr0]
               exact k3 c0 (List.mem_of_getElem? hc0)
              have hsize : cs.size = c * sz'' := by
               unfold World.shape? at h7
               simp only [k1, Option.some.injEq, Prod.mk.injEq] at h7
               exact h7.2
              refine ⟨css, k2, hlx, (fun e => by rw [h6] at e; cases e), (fun ad e => ?_), (fun _ => ⟨cs, e', k1, h6, hsize, k4⟩)⟩
              rw [h6] at e
              cases e
              exact ((cellsAt_of_block k1).part (k := 0) (by simpa using k4)).addr
           obtain ⟨cssx, q1, q2, q3, q4, q5⟩ := hold
           by_cases hroom : xs.length + ys.length ≤ c
           · have hxe : xs ≠ [] := by
              rintro rfl
              rcases h5 with ⟨_, h6⟩ | ⟨h6, _⟩
              · simp at hroom; omega
              · simp at h6
             obtain ⟨cs, e', k1, hA, hsize, k4⟩ := q5 hxe
             subst hA
             rcases hy3 with h0 | ⟨bb, boff, cssy, rfl, _, y2, _, y4⟩
             · exact absurd h0 hye
             obtain ⟨ux, fx⟩ := uniform_flatten_len q1 q2
             obtain ⟨uy, fy⟩ := uniform_flatten_len y2 hly
             have hys : cssy.flatten.length = ys.length * sz'' := fy
             have hle0 : (xs.length + ys.length) * sz'' ≤ c * sz'' := Nat.mul_le_mul_right _ hroom
             rw [Nat.add_mul] at hle0
             have hone : ∀ u ∈ cssy.flatten, u.oneCell' = true := fun u hu => by
              obtain ⟨c0, h1, h2⟩ := List.mem_flatten.1 hu
              exact (RepL.scalars _ _ y2 c0 h1 u h2).one
             have hrun := run_append_room' (P := P) (w := w) (cap := cap) ty hu hsz k1 hys y4 hone hroom (by omega)
             obtain ⟨tl, htl⟩ := k4
             have e1 : cs.toList.take (xs.length * sz'') = cssx.flatten := by rw [← htl, ← fx, List.take_left]
             have hrow : RepL ⟨ι, fun _ => False, im, w⟩ (xs ++ ys) (cssx ++ cssy) := RepL.append _ _ _ _ q1 y2
             have hreal : (AO.row sz'' xs).real := by
              cases xs with
              | nil => exact absurd rfl hxe
              | cons _ _ => trivial
             have hnewsize : (cs.toList.take (xs.length * sz'') ++ cssy.flatten ++ cs.toList.drop (xs.length * sz'' + cssy.flatten.length)).toArray.size = cs.size := by
              simp only [List.size_toArray, List.length_append, List.length_take, List.length_drop, Array.length_toList]
              omega
             obtain ⟨hi', hle'⟩ := hi.write (w' := w.setRow (ι o) (cs.toList.take (xs.length * sz'') ++ cssy.flatten ++ cs.toList.drop (xs.length * sz'' + cssy.flatten.length)).toArray) hg hreal (ao' := .row sz'' (xs ++ ys))
              (by simp) rfl rfl rfl (fun b hb => setRow_other' w (ι o) b _ hb) (fun s hs => setRow_shape k1 hnewsize s hs)
              (fun hle => .inr ⟨_, e', cssx ++ cssy, setRow_heap w (ι o) cs _ e' _ k1, RepL.mono hle.zero _ _ hrow, (fun c' hc' => by
               rcases List.mem_append.1 hc' with h | h
               · exact ux c' h
               · exact uy c' h), by
               rw [e1, List.flatten_append]
               exact List.prefix_append _ _⟩)
             have hg' : HP.get (HP.set hp o (.row sz'' (xs ++ ys))) o = some (.row sz'' (xs ++ ys)) := by rw [HP.get_set]; simp [hg]
             have hren := hi'.rename hg' hid
             have hdd : HP.del (HP.set hp o (.row sz'' (xs ++ ys))) o = HP.del hp o := by
              clear hi' hle' hg' hren hk hg hi hel hx
              induction hp with
              | nil => rfl
              | cons p hp ih =>
                by_cases h : p.1 = o
                · simp only [HP.set, HP.del, List.map_cons, h, beq_self_eq_true, if_true, List.filter_cons, Bool.not_true, Bool.false_eq_true, if_false] at ih ⊢
                  exact ih
                · have h' : (p.1 == o) = false := by simpa using h
                  simp only [HP.set, HP.del, List.map_cons, h', Bool.false_eq_true, if_false, List.filter_cons, Bool.not_false, if_true] at ih ⊢
                  rw [ih]
             rw [hdd] at hren
             refine ⟨_, _, _, _, im, _, hk, hrun, hren, hle'.trans (Cx.Le.upd hid), .inr ⟨?_, rfl, rfl⟩⟩
             simp only [Rep, Value.cells]
             refine ⟨some ⟨ι o, 0, none⟩, c, by rw [hlen0], .inr (by trivial), by omega, h4, .inr ⟨by omega, by simp [updι], e', ?_⟩⟩
             simp only [updι, if_true]
             exact setRow_shape k1 hnewsize _ (by unfold World.shape?; rw [k1]; simp only [hsize])
           · obtain ⟨v, ι', w', r1, r2, r3, r4⟩ := fresh xs A xs.length c rfl ⟨cssx, q1, q2, q3, q4⟩ hly hye (by omega) hb1 hb2 _ (hi.del o)
             exact ⟨_, _, v, ι', im, w', hk, r1, r2, r3, r4⟩
       · exact hk.elim
     · exact hk.elim
   · exact hk.elim
 · exact hk.elim
end
end Go.Ab
namespace Go.Ab
open Go.RowKit
def CallK := FuncId → List AV → HP → Nat → (AV → HP → Prop) → Prop
def fence (ro : Option Nat) : Fence := { Fence.wide with round := ro }
def funK (P : Program) (f : FuncId) (args : List AV) (hp : HP) (id : Nat) (K : AV → HP → Prop) : Prop :=
 ∀ (E : Env) (ι : Nat → Nat) (dom im : Nat → Prop) (w : World) (vals : List Value), HInv E hp ι dom im w → (∀ k, k < 16 → ¬ dom (id + k)) → RepVs ⟨ι, dom, im, w⟩ args vals →
   CallsIn Fence.wide 0 P f vals.toArray w fun e w' => ∃ v r hp' ι' dom' im', e = .returned v ∧ K r hp' ∧ HInv E hp' ι' dom' im' w' ∧ Cx.Le ⟨ι, dom, im, w⟩ ⟨ι', dom', im', w'⟩ ∧ RepS ⟨ι', dom', im', w'⟩ r v ∧
    (∀ o, dom' o → dom o ∨ (id ≤ o ∧ o < id + 16))
def enters (P : Program) (f : FuncId) : Prop := ∀ args w, (callFunc f args).run P w = .ok (.enter f args) w
def minK (x y : AV) (lt : Int → Int → Bool) (K : AV → Prop) : Prop :=
 match x, y with
 | .int k a, .int _ b => K (.int k (if lt b a then b else a))
 | _, _ => False
def callK (P : Program) (CK : CallK) (c : Call) (id : Nat) (g : Operand → AV) (hp : HP) (K : AV → HP → Prop) : Prop :=
 match c.callee, c.args.toList, c.argTypes.toList with
 | .builtin .len, [x], [t] => lenK P t hp (g x) (fun v => K v hp)
 | .builtin .append, [s, x], [t, t2] => appendK P t t2 hp (g s) (g x) id K
 | .builtin .copy, [d, s], [t, _] => copyK P t hp (g d) (g s) K
 | .builtin .min, [x, y], _ => minK (g x) (g y) (fun b a => decide (b < a)) (fun v => K v hp)
 | .builtin .max, [x, y], _ => minK (g x) (g y) (fun b a => decide (a < b)) (fun v => K v hp)
 | .value f, args, _ => match g f with
   | .fn (.func fid) first cap => (first ++ args.map g ++ cap).all AV.ok = true ∧ enters P fid ∧ CK fid (first ++ args.map g ++ cap) hp id K
   | _ => False
 | _, _, _ => False
def isNilSl : Operand → Bool
 | .const (.slice none 0 0) => true
 | _ => false
def lenOf : AV → Option Nat
 | .sl xs _ => some xs.length
 | .ms _ _ n => some n
 | _ => none
def nilEqK (P : Program) (b : BinOp) (t : TypeId) (x : AV) (K : AV → Prop) : Prop :=
 match P.underlying t, lenOf x, b with
 | some (.slice _), some n, .eql => (n = 0 → ∀ c, K (.bool c)) ∧ (n ≠ 0 → K (.bool false))
 | some (.slice _), some n, .neq => (n = 0 → ∀ c, K (.bool c)) ∧ (n ≠ 0 → K (.bool true))
 | _, _, _ => False
def opK (P : Program) (CK : CallK) (o : Oper) (id : Nat) (g : Operand → AV) (hp : HP) (K : AV → HP → Prop) : Prop :=
 match o.op with
 | .move x | .assign x => K (g x) hp
 | .pick c a b => match g c with
   | .bool t => (t = true → K (g a) hp) ∧ (t = false → K (g b) hp)
   | _ => False
 | .alloc e => allocK P e hp id K
 | .box _ x => (g x).ok = true ∧ K (.ptr id [] 0) ((id, .var (g x)) :: hp)
 | .build t ps => buildK P t (ps.toList.map fun p => (p.1, g p.2)) (fun v => K v hp)
 | .buildSlice t n ps => buildSliceK P t n (ps.toList.map fun p => (p.1, g p.2)) (fun v => K v hp)
 | .load t a => loadK P t hp (g a) K
 | .store t a x => storeK P t hp (g a) (g x) K
 | .nilCheck x => nilCheckK (g x) (fun v => K v hp)
 | .binOp b t x y _ => if isNilSl y then nilEqK P b t (g x) (fun v => K v hp) else binK P b t (g x) (g y) (fun v => K v hp)
 | .unOp u _ x => unK u (g x) (fun v => K v hp)
 | .convert s d x => convK P s d hp (g x) (fun v => K v hp)
 | .fieldAddr t x f => fieldAddrK P t (g x) f (fun v => K v hp)
 | .field t x f => fieldK P t (g x) f (fun v => K v hp)
 | .indexAddr t x i => indexAddrK P t (g x) (g i) (fun v => K v hp)
 | .index t x i => indexK P t (g x) (g i) (fun v => K v hp)
 | .slice t x lo hi mx => sliceHK P t hp (g x) (lo.map g) (hi.map g) (mx.map g) (fun v => K v hp)
 | .extract x i => extractK (g x) i (fun v => K v hp)
 | .makeSlice t l c => makeSliceK P t hp (g l) (g c) id K
 | .makeFunc f a b => (a.toList.map g ++ b.toList.map g).all AV.ok = true ∧ K (.fn f (a.toList.map g) (b.toList.map g)) hp
 | .call c => callK P CK c id g hp K
 | .makeMap _ none => K (.mp id) ((id, .amap []) :: hp)
 | .lookup t m k ok => lookupK P t hp (g m) (g k) ok (fun v => K v hp)
 | .mapUpdate t m k x => mapUpdateK P t hp (g m) (g k) (g x) K
 | .insert t m k x => mapUpdateK P t hp (g m) (g k) (g x) K
 | _ => False
section
variable {P : Program} {E : Env} {hp : HP} {ι : Nat → Nat} {dom im : Nat → Prop} {w : World} {id : Nat} {K : AV → HP → Prop}
def Done (P : Program) (E : Env) (ι : Nat → Nat) (dom im : Nat → Prop) (w : World) (id : Nat) (x : Sem Next) (K : AV → HP → Prop) : Prop :=
 ∃ v hp' ι' dom' im' w' n val, K v hp' ∧ x.run P w = .ok n w' ∧ (n = .value val ∨ (n = .skip ∧ val = undef)) ∧ HInv E hp' ι' dom' im' w' ∧ Cx.Le ⟨ι, dom, im, w⟩ ⟨ι', dom', im', w'⟩ ∧
   RepT ⟨ι', dom', im', w'⟩ v val ∧ (∀ o, dom' o → dom o ∨ (id ≤ o ∧ o < id + 16))
theorem Done.pure (hi : HInv E hp ι dom im w) {x : Sem Next} {v : AV} {val : Value} (hk : K v hp) (hr : x.run P w = .ok (.value val) w) (hv : RepT ⟨ι, dom, im, w⟩ v val) : Done P E ι dom im w id x K :=
 ⟨v, hp, ι, dom, im, w, _, val, hk, hr, .inl rfl, hi, Cx.Le.refl _, hv, fun _ h => .inl h⟩
theorem Done.own {x : Sem Next} {v : AV} {hp' : HP} {ι' : Nat → Nat} {im' : Nat → Prop} {w' : World} {val : Value} (hk : K v hp') (hr : x.run P w = .ok (.value val) w') (hi : HInv E hp' ι' (fun o => dom o ∨ o = id) im' w')
 (hle : Cx.Le ⟨ι, dom, im, w⟩ ⟨ι', fun o => dom o ∨ o = id, im', w'⟩) (hv : RepT ⟨ι', fun o => dom o ∨ o = id, im', w'⟩ v val) : Done P E ι dom im w id x K :=
 ⟨v, hp', ι', _, im', w', _, val, hk, hr, .inl rfl, hi, hle, hv, fun o h => h.imp_right (fun e => by subst e; omega)⟩
theorem RepL.of_V {C : Cx} : ∀ (xs : List AV) (vs : List Value), RepVs C xs vs → RepL C xs (vs.map fun v => v.cells.toList) ∧ vs.map isAggV = xs.map AV.agg ∧ ∀ v ∈ vs, isTupV v = false
 | [], vs, h => by simp only [RepVs] at h; subst h; simp [RepL]
 | x :: xs, vs, h => by
   obtain ⟨v, r, rfl, h1, h2⟩ := h
   obtain ⟨h3, h4, h5⟩ := RepL.of_V xs r h2
   refine ⟨by simp only [List.map_cons, RepL]; exact ⟨_, _, rfl, h1.1, h3⟩, by simp [h4, h1.2.1], fun v' hv' => ?_⟩
   rcases List.mem_cons.1 hv' with rfl | hv'
   · exact h1.2.2
   · exact h5 v' hv'
theorem RepVs.of {C : Cx} {g : Operand → AV} {ρ : Operand → Value} (hg : ∀ x, RepT C (g x) (ρ x)) : ∀ (xs : List Operand), (xs.map g).all AV.ok = true → RepVs C (xs.map g) (xs.map ρ)
 | [], _ => rfl
 | x :: xs, h => by
   simp only [List.map_cons, List.all_cons, Bool.and_eq_true] at h
   exact ⟨ρ x, xs.map ρ, rfl, (hg x).ok h.1, RepVs.of hg xs h.2⟩
theorem RepVs.append {C : Cx} : ∀ {xs ys : List AV} {vs us : List Value}, RepVs C xs vs → RepVs C ys us → RepVs C (xs ++ ys) (vs ++ us)
 | [], _, vs, us, h, k => by simp only [RepVs] at h; subst h; exact k
 | x :: xs, ys, vs, us, h, k => by
   obtain ⟨v, r, rfl, h1, h2⟩ := h
   exact ⟨v, r ++ us, rfl, h1, RepVs.append h2 k⟩
theorem RepVs.of_L {C : Cx} : ∀ (xs : List AV) (vs : List Value), RepL C xs (vs.map fun v => v.cells.toList) → vs.map isAggV = xs.map AV.agg → (∀ v ∈ vs, isTupV v = false) → RepVs C xs vs
 | [], vs, h, _, _ => by simp only [RepL, List.map_eq_nil_iff] at h; exact h
 | x :: xs, vs, h, ha, ht => by
   cases vs with
   | nil => simp at ha
   | cons v vs =>
     simp only [List.map_cons, RepL, List.cons.injEq] at h ha
     obtain ⟨c, r, ⟨rfl, rfl⟩, h1, h2⟩ := h
     exact ⟨v, vs, rfl, ⟨h1, ha.1, ht v (by simp)⟩, RepVs.of_L xs vs h2 ha.2 (fun u hu => ht u (by simp [hu]))⟩
theorem RepT.fn_of {C : Cx} {f : Fn} {a b : List AV} {v : Value} (h : RepT C (.fn f a b) v) : ∃ va vb : List Value, v = .func f va.toArray vb.toArray ∧ RepVs C a va ∧ RepVs C b vb := by
 have h1 := h.one (by simp) rfl rfl
 simp only [Rep] at h1
 obtain ⟨va, vb, h1, h2, h3, h4, h5, h6, h7⟩ := h1
 simp only [List.cons.injEq, and_true] at h1
 exact ⟨va, vb, h1, RepVs.of_L a va h2 h4 h6, RepVs.of_L b vb h3 h5 h7⟩
theorem len_of {C : Cx} {x : AV} {v : Value} {n : Nat} (h : RepT C x v) (hl : lenOf x = some n) : ∃ A c, v = .slice A n c ∧ (n ≠ 0 → A ≠ none) := by
 unfold lenOf at hl
 split at hl
 · rename_i xs clip
   cases hl
   have h1 := h.one (by simp) rfl rfl
   simp only [Rep] at h1
   obtain ⟨A, c, h1, _, _, _, h5⟩ := h1
   simp only [List.cons.injEq, and_true] at h1
   refine ⟨A, c, h1, fun hn => ?_⟩
   rcases h5 with rfl | ⟨b, off, css, rfl, _⟩
   · simp at hn
   · simp
 · rename_i o sz m
   cases hl
   have h1 := h.one (by simp) rfl rfl
   simp only [Rep] at h1
   obtain ⟨A, c, h1, _, _, _, h5⟩ := h1
   simp only [List.cons.injEq, and_true] at h1
   refine ⟨A, c, h1, fun hn => ?_⟩
   rcases h5 with ⟨rfl, _⟩ | ⟨_, rfl, _⟩
   · exact absurd rfl hn
   · simp
 · cases hl
theorem run_nilEqual {t e : TypeId} {A : Option Addr} {n c : Nat} (hu : P.underlying t = some (.slice e)) (w : World) (d : Nat) : (Op.equalIn (d + 1) t (.slice A n c) (.slice none 0 0)).run P w = .ok A.isNone w := by
 unfold Op.equalIn
 simp only [Sem.run_bind, run_underlying' hu, Result.andThen_ok]
 cases A <;> rfl
theorem run_nilEq {t e : TypeId} {A : Option Addr} {n c : Nat} {ox oy : Operand} (hu : P.underlying t = some (.slice e)) (w : World) :
 (do eqGuard .eql t ox oy (.slice A n c) (.slice none 0 0); binOp .eql t (.slice A n c) (.slice none 0 0) : Sem Value).run P w = .ok (.bool A.isNone) w := by
 have h : (Op.equal t (.slice A n c) (.slice none 0 0)).run P w = .ok A.isNone w := run_nilEqual hu w 9999
 have e1 : eqGuard .eql t ox oy (.slice A n c) (.slice none 0 0) = pure () := rfl
 have e2 : binOp .eql t (.slice A n c) (.slice none 0 0) = (do pure (.bool (← Op.equal t (.slice A n c) (.slice none 0 0)))) := rfl
 rw [e1, e2, pure_bind, Sem.run_bind, h]
 rfl
theorem run_nilNeq {t e : TypeId} {A : Option Addr} {n c : Nat} {ox oy : Operand} (hu : P.underlying t = some (.slice e)) (w : World) :
 (do eqGuard .neq t ox oy (.slice A n c) (.slice none 0 0); binOp .neq t (.slice A n c) (.slice none 0 0) : Sem Value).run P w = .ok (.bool (!A.isNone)) w := by
 have h : (Op.equal t (.slice A n c) (.slice none 0 0)).run P w = .ok A.isNone w := run_nilEqual hu w 9999
 have e1 : eqGuard .neq t ox oy (.slice A n c) (.slice none 0 0) = pure () := rfl
 have e2 : binOp .neq t (.slice A n c) (.slice none 0 0) = (do pure (.bool (!(← Op.equal t (.slice A n c) (.slice none 0 0))))) := rfl
 rw [e1, e2, pure_bind, Sem.run_bind, h]
 rfl
theorem nilEq_sound {b : BinOp} {t : TypeId} {x : AV} {ox oy : Operand} {a : Value} {K : AV → Prop} {C : Cx} (w : World) (hx : RepT C x a) (hk : nilEqK P b t x K) :
 ∃ r v, K r ∧ (do eqGuard b t ox oy a (.slice none 0 0); binOp b t a (.slice none 0 0) : Sem Value).run P w = .ok v w ∧ RepT C r v := by
 unfold nilEqK at hk
 split at hk
 · rename_i e n hu hl
   obtain ⟨A, c, rfl, hA⟩ := len_of hx hl
   have hrun : (do eqGuard .eql t ox oy (.slice A n c) (.slice none 0 0); binOp .eql t (.slice A n c) (.slice none 0 0) : Sem Value).run P w = .ok (.bool A.isNone) w := run_nilEq hu w
   by_cases hn : n = 0
   · exact ⟨_, _, hk.1 hn A.isNone, hrun, repS_bool _⟩
   · have : A.isNone = false := by cases A <;> simp_all
     rw [this] at hrun
     exact ⟨_, _, hk.2 hn, hrun, repS_bool _⟩
 · rename_i e n hu hl
   obtain ⟨A, c, rfl, hA⟩ := len_of hx hl
   have hrun : (do eqGuard .neq t ox oy (.slice A n c) (.slice none 0 0); binOp .neq t (.slice A n c) (.slice none 0 0) : Sem Value).run P w = .ok (.bool (!A.isNone)) w := run_nilNeq hu w
   by_cases hn : n = 0
   · exact ⟨_, _, hk.1 hn (!A.isNone), hrun, repS_bool _⟩
   · have : A.isNone = false := by cases A <;> simp_all
     rw [this] at hrun
     exact ⟨_, _, hk.2 hn, hrun, repS_bool _⟩
 · exact hk.elim
theorem isNil_eval {y : Operand} (h : isNilSl y = true) : y = .const (.slice none 0 0) := by
 unfold isNilSl at h
 split at h
 · rfl
 · cases h
theorem op_done {CK : CallK} {o : Oper} {g : Operand → AV} {ρ : Operand → Value} (hi : HInv E hp ι dom im w) (hid : ∀ k, k < 16 → ¬ dom (id + k)) (hg : ∀ x, RepT ⟨ι, dom, im, w⟩ (g x) (ρ x)) (hρ : ∀ v, ρ (.const v) = v) (hk : opK P CK o id g hp K)
 (hc : ∀ c f, o.op = .call c → c.callee ≠ .value f) : Done P E ι dom im w id (execOp ρ o) K := by
 have hid0 : ¬ dom id := hid 0 (by omega)
 unfold opK at hk
 split at hk <;> rename_i hop
 · exact Done.pure hi hk (by simp [execOp, hop]) (hg _)
 · exact Done.pure hi hk (by simp [execOp, hop]) (hg _)
 · rename_i c a b
   split at hk
   · rename_i t ht
     have hb := hg c
     rw [ht] at hb
     have hb := hb.bool_of
     cases t with
     | true => exact Done.pure hi (hk.1 rfl) (by simp [execOp, hop, hb, asBool]) (hg _)
     | false => exact Done.pure hi (hk.2 rfl) (by simp [execOp, hop, hb, asBool]) (hg _)
   · exact hk.elim
 · obtain ⟨r, hp', v, ι', w', h1, h2, h3, h4, h5⟩ := alloc_sound (P := P) hi hid0 hk
   exact Done.own h1 (by simp [execOp, hop, h2]) h3 h4 h5
 · rename_i e x
   obtain ⟨r, hp', v, ι', w', h1, h2, h3, h4, h5⟩ := box_sound (P := P) (e := e) hi hid0 (hg x) hk.1 hk.2
   exact Done.own h1 (by simp [execOp, hop, h2]) h3 h4 h5
 · rename_i t ps
   obtain ⟨r, v, h1, h2, h3⟩ := build_sound (P := P) (vs := ps.toList.map fun p => (p.1, ρ p.2)) (by simp [Function.comp_def]) (fun j p v h1 h2 => by
    simp only [List.getElem?_map, Option.map_eq_some_iff] at h1 h2
    obtain ⟨q, h3, rfl⟩ := h1
    obtain ⟨q', h4, rfl⟩ := h2
    rw [h3] at h4
    cases h4
    exact hg _) hk
   exact Done.pure hi h1 (by
    have e : (ps.map fun p => (p.1, ρ p.2)) = (ps.toList.map fun p => (p.1, ρ p.2)).toArray := by apply Array.ext'; simp
    simp [execOp, hop, e, h2]) h3
 · rename_i t n ps
   obtain ⟨r, v, im', w', h1, h2, h3, h4, h5⟩ := buildSlice_sound (P := P) (vs := ps.toList.map fun p => (p.1, ρ p.2)) hi (by simp [Function.comp_def]) (fun j p v h1 h2 => by
    simp only [List.getElem?_map, Option.map_eq_some_iff] at h1 h2
    obtain ⟨q, h3, rfl⟩ := h1
    obtain ⟨q', h4, rfl⟩ := h2
    rw [h3] at h4
    cases h4
    exact hg _) hk
   refine ⟨r, hp, ι, dom, im', w', _, v, h1, ?_, .inl rfl, h3, h4, h5, fun _ h => .inl h⟩
   have e : (ps.map fun p => (p.1, ρ p.2)) = (ps.toList.map fun p => (p.1, ρ p.2)).toArray := by apply Array.ext'; simp
   simp [execOp, hop, e, h2]
 · obtain ⟨r, v, h1, h2, h3⟩ := load_sound (P := P) hi (hg _) hk
   exact Done.pure hi h1 (by simp [execOp, hop, h2]) h3
 · obtain ⟨hp', w', h1, h2, h3, h4⟩ := store_sound (P := P) hi (hg _) (hg _) hk
   exact ⟨_, hp', ι, dom, im, w', .skip, undef, h1, by simp [execOp, hop, h2], .inr ⟨rfl, rfl⟩, h3, h4, .inr ⟨[], rfl, rfl⟩, fun _ h => .inl h⟩
 · obtain ⟨r, v, h1, h2, h3⟩ := nilCheck_sound (P := P) w hop rfl (hg _) hk
   exact Done.pure hi h1 h2 h3
 · rename_i b t x y xt
   split at hk
   · rename_i hnil
     have hy := isNil_eval hnil
     subst hy
     obtain ⟨r, v, h1, h2, h3⟩ := nilEq_sound (P := P) (ox := x) (oy := .const (.slice none 0 0)) w (hg x) hk
     exact Done.pure hi h1 (by simp only [execOp, hop, hρ]; rw [Sem.run_bind, h2]; rfl) h3
   · obtain ⟨r, v, h1, h2, h3⟩ := bin_sound (P := P) w (hg _) (hg _) hk
     exact Done.pure hi h1 (by simp only [execOp, hop]; rw [Sem.run_bind, h2]; rfl) h3
 · obtain ⟨r, v, h1, h2, h3⟩ := un_sound (P := P) w (hg _) hk
   exact Done.pure hi h1 (by simp [execOp, hop, h2]) h3
 · obtain ⟨r, v, h1, h2, h3⟩ := conv_sound (P := P) hi (hg _) hk
   exact Done.pure hi h1 (by simp [execOp, hop, h2]) h3
 · obtain ⟨r, v, h1, h2, h3⟩ := fieldAddr_sound (P := P) (hg _) hk
   exact Done.pure hi h1 (by simp only [execOp, hop]; rw [Sem.run_bind, h2]; rfl) h3
 · obtain ⟨r, v, h1, h2, h3⟩ := field_sound (P := P) (hg _) hk
   exact Done.pure hi h1 (by simp only [execOp, hop]; rw [Sem.run_bind, h2]; rfl) h3
 · obtain ⟨r, v, h1, h2, h3⟩ := indexAddr_sound (P := P) (hg _) (hg _) hk
   exact Done.pure hi h1 (by simp [execOp, hop, h2]) h3
 · obtain ⟨r, v, h1, h2, h3⟩ := index_sound (P := P) (hg _) (hg _) hk
   exact Done.pure hi h1 (by simp [execOp, hop, h2]) h3
 · rename_i t x lo hi' mx
   obtain ⟨r, v, h1, h2, h3⟩ := sliceH_sound (P := P) hi (vl := lo.map ρ) (vh := hi'.map ρ) (vm := mx.map ρ) (hg x)
    (fun a u h1 h2 => by cases lo <;> simp at h1 h2; subst h1; subst h2; exact hg _) (by cases lo <;> simp)
    (fun a u h1 h2 => by cases hi' <;> simp at h1 h2; subst h1; subst h2; exact hg _) (by cases hi' <;> simp)
    (fun a u h1 h2 => by cases mx <;> simp at h1 h2; subst h1; subst h2; exact hg _) (by cases mx <;> simp) hk
   exact Done.pure hi h1 (by simp [execOp, hop, h2]) h3
 · obtain ⟨r, v, h1, h2, h3⟩ := extract_sound (P := P) w (hg _) hk
   exact Done.pure hi h1 (by simp [execOp, hop, h2]) h3
 · obtain ⟨r, hp', v, ι', w', h1, h2, h3, h4, h5⟩ := makeSlice_sound (P := P) hi hid0 (hg _) (hg _) hk
   exact Done.own h1 (by simp [execOp, hop, h2]) h3 h4 h5
 · rename_i f a b
   obtain ⟨hok, hk⟩ := hk
   simp only [List.all_append, Bool.and_eq_true] at hok
   have ra := RepVs.of hg a.toList hok.1
   have rb := RepVs.of hg b.toList hok.2
   obtain ⟨a1, a2, a3⟩ := RepL.of_V _ _ ra
   obtain ⟨b1, b2, b3⟩ := RepL.of_V _ _ rb
   refine Done.pure hi hk (val := .func f (a.toList.map ρ).toArray (b.toList.map ρ).toArray) ?_ (.inr ⟨?_, rfl, rfl⟩)
   · have e1 : a.map ρ = (a.toList.map ρ).toArray := by apply Array.ext'; simp
     have e2 : b.map ρ = (b.toList.map ρ).toArray := by apply Array.ext'; simp
     simp [execOp, hop, Instr.makeFunc, e1, e2]
   · simp only [Rep, Value.cells]
     exact ⟨_, _, rfl, a1, b1, a2, b2, a3, b3⟩
 · rename_i c
   unfold callK at hk
   split at hk
   · rename_i x t hcal hargs htys
     obtain ⟨r, v, h1, h2, h3⟩ := len_sound (P := P) hi (hg x) hk o.type
     refine Done.pure hi h1 ?_ h3
     have ea : c.args = #[x] := by apply Array.ext'; simpa using hargs
     have et : c.argTypes = #[t] := by apply Array.ext'; simpa using htys
     simp [execOp, hop, resolve, hcal, ea, et, invoke, builtin, h2]
   · rename_i s x t t2 hcal hargs htys
     obtain ⟨r, hp', v, ι', im', w', h1, h2, h3, h4, h5⟩ := append_sound (P := P) (ty := o.type) hi hid0 (hg s) (hg x) hk
     refine Done.own h1 ?_ h3 h4 h5
     have ea : c.args = #[s, x] := by apply Array.ext'; simpa using hargs
     have et : c.argTypes = #[t, t2] := by apply Array.ext'; simpa using htys
     simp [execOp, hop, resolve, hcal, ea, et, invoke, builtin, h2]
   · rename_i d s t t2 hcal hargs htys
     obtain ⟨r, hp', v, w', h1, h2, h3, h4, h5⟩ := copy_sound (P := P) t2 o.type hi (hg d) (hg s) hk
     refine ⟨r, hp', ι, dom, im, w', _, v, h1, ?_, .inl rfl, h3, h4, h5, fun _ h => .inl h⟩
     have ea : c.args = #[d, s] := by apply Array.ext'; simpa using hargs
     have et : c.argTypes = #[t, t2] := by apply Array.ext'; simpa using htys
     simp [execOp, hop, resolve, hcal, ea, et, invoke, builtin, h2]
   · rename_i x y hcal hargs
     unfold minK at hk
     split at hk
     · rename_i k a k' b hx hy
       have h1 := hg x
       have h2 := hg y
       rw [hx] at h1; rw [hy] at h2
       have h1 := h1.int_of
       have h2 := h2.int_of
       refine Done.pure hi hk ?_ (repS_int _ _)
       have ea : c.args = #[x, y] := by apply Array.ext'; simpa using hargs
       simp [execOp, hop, resolve, hcal, ea, invoke, builtin, Builtin.min_, Builtin.min2, h1, h2]
     · exact hk.elim
   · rename_i x y hcal hargs
     unfold minK at hk
     split at hk
     · rename_i k a k' b hx hy
       have h1 := hg x
       have h2 := hg y
       rw [hx] at h1; rw [hy] at h2
       have h1 := h1.int_of
       have h2 := h2.int_of
       refine Done.pure hi hk ?_ (repS_int _ _)
       have ea : c.args = #[x, y] := by apply Array.ext'; simpa using hargs
       simp [execOp, hop, resolve, hcal, ea, invoke, builtin, Builtin.max_, Builtin.max2, h1, h2]
     · exact hk.elim
   · rename_i hcal
     exact absurd hcal (hc c _ hop)
   · exact hk.elim
 · rename_i t
   obtain ⟨r, hp', v, ι', w', h1, h2, h3, h4, h5⟩ := makeMap_sound (P := P) (t := t) hi hid0 hk
   exact Done.own h1 (by simp [execOp, hop, h2]) h3 h4 h5
 · obtain ⟨r, v, h1, h2, h3⟩ := lookup_sound (P := P) hi (hg _) (hg _) hk
   exact Done.pure hi h1 (by simp [execOp, hop, h2]) h3
 · obtain ⟨hp', w', h1, h2, h3, h4⟩ := mapUpdate_sound (P := P) hi (hg _) (hg _) (hg _) hk
   exact ⟨_, hp', ι, dom, im, w', .skip, undef, h1, by simp [execOp, hop, h2], .inr ⟨rfl, rfl⟩, h3, h4, .inr ⟨[], rfl, rfl⟩, fun _ h => .inl h⟩
 · obtain ⟨hp', w', h1, h2, h3, h4⟩ := mapUpdate_sound (P := P) hi (hg _) (hg _) (hg _) hk
   exact ⟨_, hp', ι, dom, im, w', .skip, undef, h1, by simp [execOp, hop, h2], .inr ⟨rfl, rfl⟩, h3, h4, .inr ⟨[], rfl, rfl⟩, fun _ h => .inl h⟩
 · exact hk.elim
end
end Go.Ab
