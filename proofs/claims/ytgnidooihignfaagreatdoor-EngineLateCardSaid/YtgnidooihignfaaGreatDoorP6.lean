/- Which blocks may be a head: children, leaves. -/
import Derived.Test.YtgnidooihignfaaGreatDoorP5
set_option linter.unusedSimpArgs false
set_option maxRecDepth 10000
namespace Go.Proofs.YtgnidooihignfaaGreatDoor
open Go Go.Ab

theorem tsame_c (t k : List Node) (hl : t.length ≤ 1000) : Cal Tryz.prog 55 [tav t, tav k] (.bool (decide (t = k))) := by
  have c1 := nequal_c t k hl
  have hR : Tryz.f55.results.toList = [.tmp 4] := rfl
  refine cal_tr Tryz.func55 rfl fun E hE hP => ?_
  exact mX
def bools (l : List Bool) : AV := .sl (l.map AV.bool) false
attribute [go_sem] bools
def slotI (t : List Node) (a : Int) : Int := (t.getD a.toNat zNode).slot
def atN (t : List Node) (s : Int) : Nat → Int → Int
  | 0, _ => -1
  | n + 1, a => if a = -1 then -1 else if slotI t a ≤ s then a else atN t s n (parI t a)
def atF (t : List Node) (s a : Int) : Int := atN t s (a + 1).toNat a
def atR (t : List Node) (i s : Int) : Int := if isB t [i] then atF t s i else -1
structure Snap where
  ver : Int
  t : List Node
  head : Root
  just : Check
  fin : Check
  deriving DecidableEq
def Snap.av (s : Snap) : AV := .st [.int .i64 s.ver, tav s.t, .root s.head, s.just.av, s.fin.av]
attribute [go_sem] Snap.av
structure Ask where
  kind : Int
  vals : List UInt8
  a : Root
  b : Root
  slot : Int
  deriving DecidableEq
def Ask.av (c : Ask) : AV := .st [.int .i64 c.kind, .sl (c.vals.map bav) false, .root c.a, .root c.b, .int .u64 c.slot]
attribute [go_sem] Ask.av

@[go_sem] theorem sbuild51_0 (e : Int) (K : AV → Prop) : buildK Tryz.prog 51 [(0, .int .i64 e)] K = K (Resp.mk e zroot false ⟨0, zroot⟩).av := build_struct Tryz.underlying51 stZero51 rfl (by kernel_rfl) rfl K
@[go_sem] theorem sbuild51_1 (r : Root) (K : AV → Prop) : buildK Tryz.prog 51 [(1, .root r)] K = K (Resp.mk 0 r false ⟨0, zroot⟩).av := build_struct Tryz.underlying51 stZero51 rfl (by kernel_rfl) rfl K
@[go_sem] theorem sbuild51_2 (b : Bool) (K : AV → Prop) : buildK Tryz.prog 51 [(2, .bool b)] K = K (Resp.mk 0 zroot b ⟨0, zroot⟩).av := build_struct Tryz.underlying51 stZero51 rfl (by kernel_rfl) rfl K
@[go_sem] theorem sbuild51_3 (c : Check) (K : AV → Prop) : buildK Tryz.prog 51 [(3, c.av)] K = K (Resp.mk 0 zroot false c).av := build_struct Tryz.underlying51 stZero51 rfl (by kernel_rfl) rfl K
theorem mayE_fit {e : Eng} (h : mayE e = true) : fitB e.t e.vl e.o e.b = true ∧ weights e.t e.vl e.b = e.w ∧ e.fin ∈ e.j ∧ (rootsL e).any (lostB e) = false := by
  simp only [mayE, Bool.and_eq_true, decide_eq_true_eq, Bool.not_eq_true'] at h
  exact ⟨h.1, h.2.1, h.2.2.2.2.2.1, h.2.2.2.2.2.2.2.1⟩
theorem weights_len (t : List Node) (vl : List Latest) (b : List Int) : (weights t vl b).length = t.length := by
  unfold weights subW ownW
  rw [subTo_len, votTo_len]
@[go_sem] theorem sbuild24m (o sz n : Nat) (K : AV → Prop) : buildK Tryz.prog 24 [(0, .ms o sz n)] K = K (.st [.ms o sz n]) := build_struct Tryz.underlying24 tZero47 rfl (by kernel_rfl) rfl K
@[go_sem] theorem sfv51_0 (a : Resp) (K : AV → Prop) : fieldK Tryz.prog 51 a.av 0 K = K (.int .i64 a.e) := by simp only [fieldK, stField51_0]; exact propext ⟨fun h => h.2.2.2, fun h => ⟨rfl, rfl, rfl, h⟩⟩
@[go_sem] theorem sfv51_1 (a : Resp) (K : AV → Prop) : fieldK Tryz.prog 51 a.av 1 K = K (.root a.r) := by simp only [fieldK, stField51_1]; exact propext ⟨fun h => h.2.2.2, fun h => ⟨rfl, rfl, rfl, h⟩⟩
@[go_sem] theorem sfv51_2 (a : Resp) (K : AV → Prop) : fieldK Tryz.prog 51 a.av 2 K = K (.bool a.is) := by simp only [fieldK, stField51_2]; exact propext ⟨fun h => h.2.2.2, fun h => ⟨rfl, rfl, rfl, h⟩⟩
@[go_sem] theorem sfv54_0 (a : Note) (K : AV → Prop) : fieldK Tryz.prog 54 a.av 0 K = K (.int .i64 a.ver) := by simp only [fieldK, stField54_0]; exact propext ⟨fun h => h.2.2.2, fun h => ⟨rfl, rfl, rfl, h⟩⟩
def rootN (n : Int) : Root := rootSet zroot 0 n
theorem build34 (n : Int) (h0 : 0 ≤ n) (h1 : n < 256) (K : AV → Prop) : buildK Tryz.prog 34 [(0, .int .u8 n)] K = K (.root (rootN n)) := by
  simp [buildK, Tryz.underlying34, tZero23, tSize5, h0, h1, rootN]
@[go_sem] theorem build34_1 (K : AV → Prop) : buildK Tryz.prog 34 [(0, .int .u8 1)] K = K (.root (rootN 1)) := build34 1 (by decide) (by decide) K
def e0 : Eng := newE (rootN 1) [1]
def s0 : Snap := ⟨3, one (rootN 1), rootN 1, ⟨0, rootN 1⟩, ⟨0, rootN 1⟩⟩
def c0 : Ask := ⟨5, [], zroot, zroot, 0⟩
section
variable {t : List Node} {n : Node}
end

def frzA (k : HP) : AO → AO
  | .var x => .var (x.frz k)
  | y => y
def frzHP (k : HP) (hp : HP) : HP := hp.map fun p => (p.1, frzA k p.2)
theorem frzHP_get (k hp : HP) (o : Nat) : HP.get (frzHP k hp) o = (HP.get hp o).map (frzA k) := by
  induction hp with
  | nil => rfl
  | cons p hp ih =>
    show HP.get ((p.1, frzA k p.2) :: frzHP k hp) o = _
    rw [HP.get_cons, HP.get_cons, ih]
    split <;> rfl
theorem frzA_real (k : HP) (x : AO) : (frzA k x).real = x.real := by cases x <;> rfl
theorem Wk.frzH {E : Env} {s : S} (F : List Nat) : Wk E s { s with fr := s.fr.map fun p => (p.1, p.2.frz (HP.keep F s.hp)), hp := frzHP (HP.keep F s.hp) (HP.drop F s.hp) } := by
  rintro a w ⟨ι, dom, im, h1, h2, h3, h4, h5⟩
  let im2 : Nat → Prop := fun b => im b ∨ ∃ o ob, HP.get (HP.keep F s.hp) o = some ob ∧ ob.real ∧ ι o = b
  have hk : HInv E (HP.keep F s.hp) ι dom im w := (h2.step (Go.RowKit.Below.refl _ _) (fun o ob hg => HP.get_keep _ _ _ _ hg) (fun _ h => h) (fun o ob hg => h2.nim o ob (HP.get_keep _ _ _ _ hg)) h2.imlt h2.imsub).1
  have hm2 : ∀ b, im b → im2 b := fun b hb => .inl hb
  have ho2 : ∀ o ob, HP.get (HP.keep F s.hp) o = some ob → ob.real → im2 (ι o) := fun o ob hg hr => .inr ⟨o, ob, hg, hr, rfl⟩
  have hd := (h2.step (hp2 := HP.drop F s.hp) (im2 := im2) (Go.RowKit.Below.refl _ _) (fun o ob hg => (HP.get_drop _ _ _ _ hg).1) (fun b hb => .inl hb) (fun o ob hg hr => by
      rintro (h | ⟨o', ob', l1, l2, l3⟩)
      · exact h2.nim o ob (HP.get_drop _ _ _ _ hg).1 hr h
      · have := h2.inj _ _ _ _ (HP.get_keep _ _ _ _ l1) (HP.get_drop _ _ _ _ hg).1 l2 hr l3
        subst this
        have m1 := HP.keep_mem l1
        have m2 := (HP.get_drop _ _ _ _ hg).2
        rw [m1] at m2; cases m2)
    (fun b hb => by
      rcases hb with h | ⟨o, ob, l1, l2, rfl⟩
      · exact h2.imlt b h
      · exact h2.lt o ob (HP.get_keep _ _ _ _ l1) l2)
    (fun b hb => by
      rcases hb with h | ⟨o, ob, l1, l2, rfl⟩
      · exact h2.imsub b h
      · exact .inr (h2.loc o ob (HP.get_keep _ _ _ _ l1) l2))).1
  have hg0 : ∀ o ob, HP.get (frzHP (HP.keep F s.hp) (HP.drop F s.hp)) o = some ob → ∃ ob', HP.get (HP.drop F s.hp) o = some ob' ∧ ob = frzA (HP.keep F s.hp) ob' := fun o ob hg => by
    rw [frzHP_get] at hg
    obtain ⟨ob', e1, e2⟩ := Option.map_eq_some_iff.1 hg
    exact ⟨ob', e1, e2.symm⟩
  have hf : HInv E (frzHP (HP.keep F s.hp) (HP.drop F s.hp)) ι dom im2 w := by
    refine { hd with own := fun o ob hg => ?_, dm := fun o ob hg => ?_, lt := fun o ob hg hr => ?_, nim := fun o ob hg hr => ?_, inj := fun o o' ob ob' hg hg' hr hr' he => ?_, loc := fun o ob hg hr => ?_ }
    · obtain ⟨ob', e1, rfl⟩ := hg0 o ob hg
      have hw := hd.own o ob' e1
      cases ob' with
      | var x =>
        obtain ⟨cs, e, q1, q2⟩ := h2.own o _ (HP.get_drop _ _ _ _ e1).1
        exact ⟨cs, e, q1, Rep.frz hk hm2 ho2 x _ q2⟩
      | row _ _ => exact hw
      | amap _ => exact hw
      | obj _ => exact hw
      | tab _ _ => exact hw
    · obtain ⟨ob', e1, rfl⟩ := hg0 o ob hg
      exact hd.dm o ob' e1
    · obtain ⟨ob', e1, rfl⟩ := hg0 o ob hg
      rw [frzA_real] at hr
      exact hd.lt o ob' e1 hr
    · obtain ⟨ob', e1, rfl⟩ := hg0 o ob hg
      rw [frzA_real] at hr
      exact hd.nim o ob' e1 hr
    · obtain ⟨x, e1, rfl⟩ := hg0 o ob hg
      obtain ⟨y, e2, rfl⟩ := hg0 o' ob' hg'
      rw [frzA_real] at hr hr'
      exact hd.inj o o' x y e1 e2 hr hr' he
    · obtain ⟨ob', e1, rfl⟩ := hg0 o ob hg
      rw [frzA_real] at hr
      exact hd.loc o ob' e1 hr
  refine ⟨ι, dom, im2, h1, hf, ⟨h3.1, fun t => ?_⟩, h4, h5⟩
  have hget : ∀ (fr : FR), FR.get (fr.map fun p => (p.1, p.2.frz (HP.keep F s.hp))) t = (FR.get fr t).frz (HP.keep F s.hp) := fun fr => by
    induction fr with
    | nil => rfl
    | cons p fr ih =>
      rw [List.map_cons, FR.get_cons, FR.get_cons, ih]
      split <;> rfl
  show RepT _ (FR.get (s.fr.map _) t) _
  rw [hget]
  rcases h3.2 t with ⟨u, hu, hu2⟩ | h
  · exact .inl ⟨u, by rw [hu]; rfl, hu2⟩
  · exact .inr (RepS.frz hk hm2 ho2 h)

theorem lclone_c (l : List Latest) (hl : l.length ≤ 1000) : CalO Tryz.prog 157 [.sl (l.map Latest.av) false] (.ms 0 34 l.length) [(0, .row 34 (l.map Latest.av))] := by
  have hR : Tryz.f157.results.toList = [.tmp 2] := rfl
  refine calO_tr Tryz.func157 rfl fun E hE hP => ?_
  refine mr ?_
  first | refine tr_seq_region (by rw [hE]; rfl) ?_ | (refine Tr.seq ?_; refine tr_seq_region (by rw [hE]; rfl) ?_)
  refine mO ?_
  refine ⟨fun hz c => ?_, fun hz => ?_⟩
  · have hz' : l = [] := List.eq_nil_of_length_eq_zero hz
    subst hz'
    refine vc_nil ?_
    refine Tr.cond rfl (fun hc => ?_) (fun hc => ?_)
    · refine mr ?_
      refine Tr.wk (Wk.nil 2 34 rfl) ?_
      refine Tr.ret ?_
      simp only [hR, go_sem, seval]
      exact ⟨fun n => 64 + n, rfl, ⟨⟨rfl, rfl, rfl⟩, trivial⟩, rfl⟩
    · refine mW ?_
      refine Tr.ret ?_
      simp only [hR, go_sem, seval]
      exact ⟨fun n => 80 + n, rfl, ⟨⟨rfl, rfl, rfl⟩, trivial⟩, rfl⟩
  · refine vc_nil ?_
    refine mW ?_
    refine Tr.ret ?_
    simp only [hR, go_sem, seval]
    exact ⟨fun n => 80 + n, rfl, ⟨⟨rfl, rfl, rfl⟩, trivial⟩, rfl⟩
theorem aclone_c (l : List Att) (hl : l.length ≤ 1000) : CalO Tryz.prog 158 [.sl (l.map Att.av) false] (.ms 0 100 l.length) [(0, .row 100 (l.map Att.av))] := by
  have hR : Tryz.f158.results.toList = [.tmp 2] := rfl
  refine calO_tr Tryz.func158 rfl fun E hE hP => ?_
  refine mr ?_
  first | refine tr_seq_region (by rw [hE]; rfl) ?_ | (refine Tr.seq ?_; refine tr_seq_region (by rw [hE]; rfl) ?_)
  refine mO ?_
  refine ⟨fun hz c => ?_, fun hz => ?_⟩
  · have hz' : l = [] := List.eq_nil_of_length_eq_zero hz
    subst hz'
    refine vc_nil ?_
    refine Tr.cond rfl (fun hc => ?_) (fun hc => ?_)
    · refine mr ?_
      refine Tr.wk (Wk.nil 2 100 rfl) ?_
      refine Tr.ret ?_
      simp only [hR, go_sem, seval]
      exact ⟨fun n => 64 + n, rfl, ⟨⟨rfl, rfl, rfl⟩, trivial⟩, rfl⟩
    · refine mW ?_
      refine Tr.ret ?_
      simp only [hR, go_sem, seval]
      exact ⟨fun n => 80 + n, rfl, ⟨⟨rfl, rfl, rfl⟩, trivial⟩, rfl⟩
  · refine vc_nil ?_
    refine mW ?_
    refine Tr.ret ?_
    simp only [hR, go_sem, seval]
    exact ⟨fun n => 80 + n, rfl, ⟨⟨rfl, rfl, rfl⟩, trivial⟩, rfl⟩
theorem kclone_c (l : List Link) (hl : l.length ≤ 1000) : CalO Tryz.prog 159 [.sl (l.map Link.av) false] (.ms 0 67 l.length) [(0, .row 67 (l.map Link.av))] := by
  have hR : Tryz.f159.results.toList = [.tmp 2] := rfl
  refine calO_tr Tryz.func159 rfl fun E hE hP => ?_
  refine mr ?_
  first | refine tr_seq_region (by rw [hE]; rfl) ?_ | (refine Tr.seq ?_; refine tr_seq_region (by rw [hE]; rfl) ?_)
  refine mO ?_
  refine ⟨fun hz c => ?_, fun hz => ?_⟩
  · have hz' : l = [] := List.eq_nil_of_length_eq_zero hz
    subst hz'
    refine vc_nil ?_
    refine Tr.cond rfl (fun hc => ?_) (fun hc => ?_)
    · refine mr ?_
      refine Tr.wk (Wk.nil 2 67 rfl) ?_
      refine Tr.ret ?_
      simp only [hR, go_sem, seval]
      exact ⟨fun n => 64 + n, rfl, ⟨⟨rfl, rfl, rfl⟩, trivial⟩, rfl⟩
    · refine mW ?_
      refine Tr.ret ?_
      simp only [hR, go_sem, seval]
      exact ⟨fun n => 80 + n, rfl, ⟨⟨rfl, rfl, rfl⟩, trivial⟩, rfl⟩
  · refine vc_nil ?_
    refine mW ?_
    refine Tr.ret ?_
    simp only [hR, go_sem, seval]
    exact ⟨fun n => 80 + n, rfl, ⟨⟨rfl, rfl, rfl⟩, trivial⟩, rfl⟩
theorem jclone_c (l : List Check) (hl : l.length ≤ 1000) : CalO Tryz.prog 133 [.sl (l.map Check.av) false] (.ms 0 33 l.length) [(0, .row 33 (l.map Check.av))] := by
  have hR : Tryz.f133.results.toList = [.tmp 2] := rfl
  refine calO_tr Tryz.func133 rfl fun E hE hP => ?_
  refine mr ?_
  first | refine tr_seq_region (by rw [hE]; rfl) ?_ | (refine Tr.seq ?_; refine tr_seq_region (by rw [hE]; rfl) ?_)
  refine mO ?_
  refine ⟨fun hz c => ?_, fun hz => ?_⟩
  · have hz' : l = [] := List.eq_nil_of_length_eq_zero hz
    subst hz'
    refine vc_nil ?_
    refine Tr.cond rfl (fun hc => ?_) (fun hc => ?_)
    · refine mr ?_
      refine Tr.wk (Wk.nil 2 33 rfl) ?_
      refine Tr.ret ?_
      simp only [hR, go_sem, seval]
      exact ⟨fun n => 64 + n, rfl, ⟨⟨rfl, rfl, rfl⟩, trivial⟩, rfl⟩
    · refine mW ?_
      refine Tr.ret ?_
      simp only [hR, go_sem, seval]
      exact ⟨fun n => 80 + n, rfl, ⟨⟨rfl, rfl, rfl⟩, trivial⟩, rfl⟩
  · refine vc_nil ?_
    refine mW ?_
    refine Tr.ret ?_
    simp only [hR, go_sem, seval]
    exact ⟨fun n => 80 + n, rfl, ⟨⟨rfl, rfl, rfl⟩, trivial⟩, rfl⟩
theorem tclone_c (t : List Node) (hl : t.length ≤ 1000) : CalO Tryz.prog 197 [tav t] (.st [.ms 0 35 t.length]) [(0, .row 35 (t.map Node.av))] := by
  have o1 := nclone_c t hl
  have hR : Tryz.f197.results.toList = [.cell 2 24] := rfl
  refine calO_tr Tryz.func197 rfl fun E hE hP => ?_
  refine mW ?_
  refine Tr.ret ?_
  simp only [hR, go_sem, seval]
  exact ⟨fun n => 64 + n, rfl, (by repeat' (first | exact rfl | exact trivial | constructor)), rfl⟩
@[go_sem] theorem tav_upd (t : List Node) (x : AV) : (tav t).upd [0] x = some (.st [x]) := rfl
/-- An engine whose lists are so. -/
def engX (e : Eng) (T B V W A K J : AV) : AV := .st [.st [T], B, .st [V, .int .u64 e.o], W, A, K, J, e.fin.av, .int .u64 e.now]
attribute [go_sem] engX
def ownH (e : Eng) : HP := [(0, .row 35 (e.t.map Node.av)), (1, .row 1 (e.b.map uav)), (2, .row 34 (e.vl.map Latest.av)), (3, .row 1 (e.w.map uav)), (4, .row 100 (e.late.map Att.av)), (5, .row 67 (e.k.map Link.av)), (6, .row 33 (e.j.map Check.av))]
def ownV (e : Eng) : AV := engX e (.ms 0 35 e.t.length) (.ms 1 1 e.b.length) (.ms 2 34 e.vl.length) (.ms 3 1 e.w.length) (.ms 4 100 e.late.length) (.ms 5 67 e.k.length) (.ms 6 33 e.j.length)
set_option maxHeartbeats 1000000 in
theorem own_o (e : Eng) (he : e.few) : CalO Tryz.prog 89 [e.av] (ownV e) (ownH e) := by
  have o1 := nclone_c e.t (by have := he.t; omega)
  have o2 := uclone_c e.b (by have := he.b; omega)
  have o3 := lclone_c e.vl (by have := he.vl; omega)
  have o4 := uclone_c e.w (by have := he.w; omega)
  have o5 := aclone_c e.late (by have := he.late; omega)
  have o6 := kclone_c e.k (by have := he.k; omega)
  have o7 := jclone_c e.j (by have := he.j; omega)
  have hR : Tryz.f89.results.toList = [.cell 2 38] := rfl
  refine calO_tr Tryz.func89 rfl fun E hE hP => ?_
  refine mr ?_
  first | refine tr_seq_drawn mixed _ (keepAll _) (by rw [hE]; rfl) (by kernel_rfl) ?_ | (refine Tr.seq ?_; refine tr_seq_drawn mixed _ (keepAll _) (by rw [hE]; rfl) (by kernel_rfl) ?_)
  simp only [List.map_cons, List.map_nil]
  iterate 3 refine vP ?_
  refine vd_x rfl rfl ?_; simp only [go_sem, seval]
  refine call_own rfl rfl rfl rfl (enters_of Tryz.func47 (by kernel_rfl) rfl) (o1.2) rfl rfl ?_
  simp only [go_sem, seval]
  iterate 2 refine vP ?_
  refine vd_x rfl rfl ?_; simp only [go_sem, seval]
  refine call_own rfl rfl rfl rfl (enters_of Tryz.func77 (by kernel_rfl) rfl) (o2.2) rfl rfl ?_
  simp only [go_sem, seval]
  iterate 2 refine vP ?_
  refine vd_x rfl rfl ?_; simp only [go_sem, seval]
  refine call_own rfl rfl rfl rfl (enters_of Tryz.func77 (by kernel_rfl) rfl) (o4.2) rfl rfl ?_
  simp only [go_sem, seval]
  iterate 3 refine vP ?_
  refine vd_x rfl rfl ?_; simp only [go_sem, seval]
  refine call_own rfl rfl rfl rfl (enters_of Tryz.func157 (by kernel_rfl) rfl) (o3.2) rfl rfl ?_
  simp only [go_sem, seval]
  iterate 2 refine vP ?_
  refine vd_w rfl rfl (by kernel_rfl) ?_; simp only [go_sem, seval]
  refine vP ?_
  refine vd_w rfl rfl (by kernel_rfl) ?_; simp only [go_sem, seval]
  refine vP ?_
  refine vd_w rfl rfl (by kernel_rfl) ?_; simp only [go_sem, seval]
  iterate 2 refine vP ?_
  refine vd_w rfl rfl (by kernel_rfl) ?_; simp only [go_sem, seval]
  refine vd_nil ?_
  first | refine tr_seq_drawn mixed _ (keepAll _) (by rw [hE]; rfl) (by kernel_rfl) ?_ | (refine Tr.seq ?_; refine tr_seq_drawn mixed _ (keepAll _) (by rw [hE]; rfl) (by kernel_rfl) ?_)
  simp only [List.map_cons, List.map_nil]
  iterate 2 refine vP ?_
  refine vd_x rfl rfl ?_; simp only [go_sem, seval]
  refine call_own rfl rfl rfl rfl (enters_of Tryz.func158 (by kernel_rfl) rfl) (o5.2) rfl rfl ?_
  simp only [go_sem, seval]
  iterate 2 refine vP ?_
  refine vd_x rfl rfl ?_; simp only [go_sem, seval]
  refine call_own rfl rfl rfl rfl (enters_of Tryz.func159 (by kernel_rfl) rfl) (o6.2) rfl rfl ?_
  simp only [go_sem, seval]
  iterate 2 refine vP ?_
  refine vd_x rfl rfl ?_; simp only [go_sem, seval]
  refine call_own rfl rfl rfl rfl (enters_of Tryz.func133 (by kernel_rfl) rfl) (o7.2) rfl rfl ?_
  simp only [go_sem, seval]
  refine vP ?_
  refine vd_w rfl rfl (by kernel_rfl) ?_; simp only [go_sem, seval]
  refine vP ?_
  refine vd_w rfl rfl (by kernel_rfl) ?_; simp only [go_sem, seval]
  refine vP ?_
  refine vd_w rfl rfl (by kernel_rfl) ?_; simp only [go_sem, seval]
  refine vd_nil ?_
  refine mr ?_
  refine Tr.ret ?_
  simp only [hR, go_sem, seval]
  exact ⟨fun | 0 => 80 | 1 => 128 | 2 => 240 | 3 => 176 | 4 => 448 | 5 => 496 | 6 => 544 | n => n, rfl, (by repeat' (first | exact rfl | exact trivial | constructor)), rfl⟩
set_option maxHeartbeats 1000000 in
theorem own_p (e : Eng) (he : e.few) : Cal Tryz.prog 89 [e.av] e.av := by
  have o1 := nclone_c e.t (by have := he.t; omega)
  have o2 := uclone_c e.b (by have := he.b; omega)
  have o3 := lclone_c e.vl (by have := he.vl; omega)
  have o4 := uclone_c e.w (by have := he.w; omega)
  have o5 := aclone_c e.late (by have := he.late; omega)
  have o6 := kclone_c e.k (by have := he.k; omega)
  have o7 := jclone_c e.j (by have := he.j; omega)
  have hR : Tryz.f89.results.toList = [.cell 2 38] := rfl
  refine cal_tr Tryz.func89 rfl fun E hE hP => ?_
  refine mr ?_
  first | refine tr_seq_drawn mixed _ (keepAll _) (by rw [hE]; rfl) (by kernel_rfl) ?_ | (refine Tr.seq ?_; refine tr_seq_drawn mixed _ (keepAll _) (by rw [hE]; rfl) (by kernel_rfl) ?_)
  simp only [List.map_cons, List.map_nil]
  iterate 3 refine vP ?_
  refine vd_x rfl rfl ?_; simp only [go_sem, seval]
  refine call_own rfl rfl rfl rfl (enters_of Tryz.func47 (by kernel_rfl) rfl) (o1.2) rfl rfl ?_
  simp only [go_sem, seval]
  iterate 2 refine vP ?_
  refine vd_x rfl rfl ?_; simp only [go_sem, seval]
  refine call_own rfl rfl rfl rfl (enters_of Tryz.func77 (by kernel_rfl) rfl) (o2.2) rfl rfl ?_
  simp only [go_sem, seval]
  iterate 2 refine vP ?_
  refine vd_x rfl rfl ?_; simp only [go_sem, seval]
  refine call_own rfl rfl rfl rfl (enters_of Tryz.func77 (by kernel_rfl) rfl) (o4.2) rfl rfl ?_
  simp only [go_sem, seval]
  iterate 3 refine vP ?_
  refine vd_x rfl rfl ?_; simp only [go_sem, seval]
  refine call_own rfl rfl rfl rfl (enters_of Tryz.func157 (by kernel_rfl) rfl) (o3.2) rfl rfl ?_
  simp only [go_sem, seval]
  iterate 2 refine vP ?_
  refine vd_w rfl rfl (by kernel_rfl) ?_; simp only [go_sem, seval]
  refine vP ?_
  refine vd_w rfl rfl (by kernel_rfl) ?_; simp only [go_sem, seval]
  refine vP ?_
  refine vd_w rfl rfl (by kernel_rfl) ?_; simp only [go_sem, seval]
  iterate 2 refine vP ?_
  refine vd_w rfl rfl (by kernel_rfl) ?_; simp only [go_sem, seval]
  refine vd_nil ?_
  first | refine tr_seq_drawn mixed _ (keepAll _) (by rw [hE]; rfl) (by kernel_rfl) ?_ | (refine Tr.seq ?_; refine tr_seq_drawn mixed _ (keepAll _) (by rw [hE]; rfl) (by kernel_rfl) ?_)
  simp only [List.map_cons, List.map_nil]
  iterate 2 refine vP ?_
  refine vd_x rfl rfl ?_; simp only [go_sem, seval]
  refine call_own rfl rfl rfl rfl (enters_of Tryz.func158 (by kernel_rfl) rfl) (o5.2) rfl rfl ?_
  simp only [go_sem, seval]
  iterate 2 refine vP ?_
  refine vd_x rfl rfl ?_; simp only [go_sem, seval]
  refine call_own rfl rfl rfl rfl (enters_of Tryz.func159 (by kernel_rfl) rfl) (o6.2) rfl rfl ?_
  simp only [go_sem, seval]
  iterate 2 refine vP ?_
  refine vd_x rfl rfl ?_; simp only [go_sem, seval]
  refine call_own rfl rfl rfl rfl (enters_of Tryz.func133 (by kernel_rfl) rfl) (o7.2) rfl rfl ?_
  simp only [go_sem, seval]
  refine vP ?_
  refine vd_w rfl rfl (by kernel_rfl) ?_; simp only [go_sem, seval]
  refine vP ?_
  refine vd_w rfl rfl (by kernel_rfl) ?_; simp only [go_sem, seval]
  refine vP ?_
  refine vd_w rfl rfl (by kernel_rfl) ?_; simp only [go_sem, seval]
  refine vd_nil ?_
  refine mr ?_
  refine Tr.wk (Wk.frzH [80, 128, 176, 240, 448, 496, 544]) ?_
  simp only [frzHP, frzA, AV.frz, AV.frzL, List.map_cons, List.map_nil, go_sem, seval]
  exact mX
end Go.Proofs.YtgnidooihignfaaGreatDoor
