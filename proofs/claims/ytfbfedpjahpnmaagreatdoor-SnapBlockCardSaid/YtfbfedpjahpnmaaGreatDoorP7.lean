/- Objects that nobody writes any more, also inside of variables; readers as values. -/
import Derived.Test.YtfbfedpjahpnmaaGreatDoorP6
set_option linter.unusedSimpArgs false
set_option maxRecDepth 10000
namespace Go.Proofs.YtfbfedpjahpnmaaGreatDoor
open Go Go.Ab

def frzA (k : HP) : AO → AO
  | .var x => .var (x.frz k)
  | y => y
def frzHP (k : HP) (hp : HP) : HP := hp.map fun p => (p.1, frzA k p.2)
theorem frzHP_get (k hp : HP) (o : Nat) : HP.get (frzHP k hp) o = (HP.get hp o).map (frzA k) := by
  induction hp with
  | nil => rfl
  | cons p hp ih =>
    show HP.get ((p.1, frzA k p.2) :: frzHP k hp) o = _
    rw [HP.get_cons, HP.get_cons, ih]
    split <;> rfl
theorem frzA_real (k : HP) (x : AO) : (frzA k x).real = x.real := by cases x <;> rfl
theorem Wk.frzH {E : Env} {s : S} (F : List Nat) : Wk E s { s with fr := s.fr.map fun p => (p.1, p.2.frz (HP.keep F s.hp)), hp := frzHP (HP.keep F s.hp) (HP.drop F s.hp) } := by
  rintro a w ⟨ι, dom, im, h1, h2, h3, h4, h5⟩
  let im2 : Nat → Prop := fun b => im b ∨ ∃ o ob, HP.get (HP.keep F s.hp) o = some ob ∧ ob.real ∧ ι o = b
  have hk : HInv E (HP.keep F s.hp) ι dom im w := (h2.step (Go.RowKit.Below.refl _ _) (fun o ob hg => HP.get_keep _ _ _ _ hg) (fun _ h => h) (fun o ob hg => h2.nim o ob (HP.get_keep _ _ _ _ hg)) h2.imlt h2.imsub).1
  have hm2 : ∀ b, im b → im2 b := fun b hb => .inl hb
  have ho2 : ∀ o ob, HP.get (HP.keep F s.hp) o = some ob → ob.real → im2 (ι o) := fun o ob hg hr => .inr ⟨o, ob, hg, hr, rfl⟩
  have hd := (h2.step (hp2 := HP.drop F s.hp) (im2 := im2) (Go.RowKit.Below.refl _ _) (fun o ob hg => (HP.get_drop _ _ _ _ hg).1) (fun b hb => .inl hb) (fun o ob hg hr => by
      rintro (h | ⟨o', ob', l1, l2, l3⟩)
      · exact h2.nim o ob (HP.get_drop _ _ _ _ hg).1 hr h
      · have := h2.inj _ _ _ _ (HP.get_keep _ _ _ _ l1) (HP.get_drop _ _ _ _ hg).1 l2 hr l3
        subst this
        have m1 := HP.keep_mem l1
        have m2 := (HP.get_drop _ _ _ _ hg).2
        rw [m1] at m2; cases m2)
    (fun b hb => by
      rcases hb with h | ⟨o, ob, l1, l2, rfl⟩
      · exact h2.imlt b h
      · exact h2.lt o ob (HP.get_keep _ _ _ _ l1) l2)
    (fun b hb => by
      rcases hb with h | ⟨o, ob, l1, l2, rfl⟩
      · exact h2.imsub b h
      · exact .inr (h2.loc o ob (HP.get_keep _ _ _ _ l1) l2))).1
  have hg0 : ∀ o ob, HP.get (frzHP (HP.keep F s.hp) (HP.drop F s.hp)) o = some ob → ∃ ob', HP.get (HP.drop F s.hp) o = some ob' ∧ ob = frzA (HP.keep F s.hp) ob' := fun o ob hg => by
    rw [frzHP_get] at hg
    obtain ⟨ob', e1, e2⟩ := Option.map_eq_some_iff.1 hg
    exact ⟨ob', e1, e2.symm⟩
  have hf : HInv E (frzHP (HP.keep F s.hp) (HP.drop F s.hp)) ι dom im2 w := by
    refine { hd with own := fun o ob hg => ?_, dm := fun o ob hg => ?_, lt := fun o ob hg hr => ?_, nim := fun o ob hg hr => ?_, inj := fun o o' ob ob' hg hg' hr hr' he => ?_, loc := fun o ob hg hr => ?_ }
    · obtain ⟨ob', e1, rfl⟩ := hg0 o ob hg
      have hw := hd.own o ob' e1
      cases ob' with
      | var x =>
        obtain ⟨cs, e, q1, q2⟩ := h2.own o _ (HP.get_drop _ _ _ _ e1).1
        exact ⟨cs, e, q1, Rep.frz hk hm2 ho2 x _ q2⟩
      | row _ _ => exact hw
      | amap _ => exact hw
      | obj _ => exact hw
      | tab _ _ => exact hw
    · obtain ⟨ob', e1, rfl⟩ := hg0 o ob hg
      exact hd.dm o ob' e1
    · obtain ⟨ob', e1, rfl⟩ := hg0 o ob hg
      rw [frzA_real] at hr
      exact hd.lt o ob' e1 hr
    · obtain ⟨ob', e1, rfl⟩ := hg0 o ob hg
      rw [frzA_real] at hr
      exact hd.nim o ob' e1 hr
    · obtain ⟨x, e1, rfl⟩ := hg0 o ob hg
      obtain ⟨y, e2, rfl⟩ := hg0 o' ob' hg'
      rw [frzA_real] at hr hr'
      exact hd.inj o o' x y e1 e2 hr hr' he
    · obtain ⟨ob', e1, rfl⟩ := hg0 o ob hg
      rw [frzA_real] at hr
      exact hd.loc o ob' e1 hr
  refine ⟨ι, dom, im2, h1, hf, ⟨h3.1, fun t => ?_⟩, h4, h5⟩
  have hget : ∀ (fr : FR), FR.get (fr.map fun p => (p.1, p.2.frz (HP.keep F s.hp))) t = (FR.get fr t).frz (HP.keep F s.hp) := fun fr => by
    induction fr with
    | nil => rfl
    | cons p fr ih =>
      rw [List.map_cons, FR.get_cons, FR.get_cons, ih]
      split <;> rfl
  show RepT _ (FR.get (s.fr.map _) t) _
  rw [hget]
  rcases h3.2 t with ⟨u, hu, hu2⟩ | h
  · exact .inl ⟨u, by rw [hu]; rfl, hu2⟩
  · exact .inr (RepS.frz hk hm2 ho2 h)
end Go.Proofs.YtfbfedpjahpnmaaGreatDoor

/- Engines of their own. -/
set_option linter.unusedSimpArgs false
set_option maxRecDepth 10000
namespace Go.Proofs.YtfbfedpjahpnmaaGreatDoor
open Go Go.Ab

theorem lclone_c (l : List Latest) (hl : l.length ≤ 1000) : CalO Tryz.prog 174 [.sl (l.map Latest.av) false] (.ms 0 34 l.length) [(0, .row 34 (l.map Latest.av))] := by
  have hR : Tryz.f174.results.toList = [.tmp 2] := rfl
  refine ⟨enters_of Tryz.func174 (by kernel_rfl) rfl, own_of_tr Tryz.func174 rfl (Nat.le_of_ble_eq_true rfl) rfl fun E hE hP => ?_⟩
  refine mr ?_
  first | refine tr_seq_region (by rw [hE]; rfl) ?_ | (refine Tr.seq ?_; refine tr_seq_region (by rw [hE]; rfl) ?_)
  repeat (refine vc_op rfl ?_; simp only [go_sem, seval])
  refine ⟨fun hz c => ?_, fun hz => ?_⟩
  · have hz' : l = [] := List.eq_nil_of_length_eq_zero hz
    subst hz'
    refine vc_nil ?_
    refine Tr.cond rfl (fun hc => ?_) (fun hc => ?_)
    · refine mr ?_
      refine Tr.wk (Wk.nil 2 34 rfl) ?_
      refine Tr.ret ?_
      simp only [hR, go_sem, seval]
      exact ⟨fun n => 64 + n, rfl, ⟨⟨rfl, rfl, rfl⟩, trivial⟩, rfl⟩
    · refine mW ?_
      refine Tr.ret ?_
      simp only [hR, go_sem, seval]
      exact ⟨fun n => 80 + n, rfl, ⟨⟨rfl, rfl, rfl⟩, trivial⟩, rfl⟩
  · refine vc_nil ?_
    refine mW ?_
    refine Tr.ret ?_
    simp only [hR, go_sem, seval]
    exact ⟨fun n => 80 + n, rfl, ⟨⟨rfl, rfl, rfl⟩, trivial⟩, rfl⟩
theorem aclone_c (l : List Att) (hl : l.length ≤ 1000) : CalO Tryz.prog 175 [.sl (l.map Att.av) false] (.ms 0 100 l.length) [(0, .row 100 (l.map Att.av))] := by
  have hR : Tryz.f175.results.toList = [.tmp 2] := rfl
  refine ⟨enters_of Tryz.func175 (by kernel_rfl) rfl, own_of_tr Tryz.func175 rfl (Nat.le_of_ble_eq_true rfl) rfl fun E hE hP => ?_⟩
  refine mr ?_
  first | refine tr_seq_region (by rw [hE]; rfl) ?_ | (refine Tr.seq ?_; refine tr_seq_region (by rw [hE]; rfl) ?_)
  repeat (refine vc_op rfl ?_; simp only [go_sem, seval])
  refine ⟨fun hz c => ?_, fun hz => ?_⟩
  · have hz' : l = [] := List.eq_nil_of_length_eq_zero hz
    subst hz'
    refine vc_nil ?_
    refine Tr.cond rfl (fun hc => ?_) (fun hc => ?_)
    · refine mr ?_
      refine Tr.wk (Wk.nil 2 100 rfl) ?_
      refine Tr.ret ?_
      simp only [hR, go_sem, seval]
      exact ⟨fun n => 64 + n, rfl, ⟨⟨rfl, rfl, rfl⟩, trivial⟩, rfl⟩
    · refine mW ?_
      refine Tr.ret ?_
      simp only [hR, go_sem, seval]
      exact ⟨fun n => 80 + n, rfl, ⟨⟨rfl, rfl, rfl⟩, trivial⟩, rfl⟩
  · refine vc_nil ?_
    refine mW ?_
    refine Tr.ret ?_
    simp only [hR, go_sem, seval]
    exact ⟨fun n => 80 + n, rfl, ⟨⟨rfl, rfl, rfl⟩, trivial⟩, rfl⟩
theorem kclone_c (l : List Link) (hl : l.length ≤ 1000) : CalO Tryz.prog 176 [.sl (l.map Link.av) false] (.ms 0 67 l.length) [(0, .row 67 (l.map Link.av))] := by
  have hR : Tryz.f176.results.toList = [.tmp 2] := rfl
  refine ⟨enters_of Tryz.func176 (by kernel_rfl) rfl, own_of_tr Tryz.func176 rfl (Nat.le_of_ble_eq_true rfl) rfl fun E hE hP => ?_⟩
  refine mr ?_
  first | refine tr_seq_region (by rw [hE]; rfl) ?_ | (refine Tr.seq ?_; refine tr_seq_region (by rw [hE]; rfl) ?_)
  repeat (refine vc_op rfl ?_; simp only [go_sem, seval])
  refine ⟨fun hz c => ?_, fun hz => ?_⟩
  · have hz' : l = [] := List.eq_nil_of_length_eq_zero hz
    subst hz'
    refine vc_nil ?_
    refine Tr.cond rfl (fun hc => ?_) (fun hc => ?_)
    · refine mr ?_
      refine Tr.wk (Wk.nil 2 67 rfl) ?_
      refine Tr.ret ?_
      simp only [hR, go_sem, seval]
      exact ⟨fun n => 64 + n, rfl, ⟨⟨rfl, rfl, rfl⟩, trivial⟩, rfl⟩
    · refine mW ?_
      refine Tr.ret ?_
      simp only [hR, go_sem, seval]
      exact ⟨fun n => 80 + n, rfl, ⟨⟨rfl, rfl, rfl⟩, trivial⟩, rfl⟩
  · refine vc_nil ?_
    refine mW ?_
    refine Tr.ret ?_
    simp only [hR, go_sem, seval]
    exact ⟨fun n => 80 + n, rfl, ⟨⟨rfl, rfl, rfl⟩, trivial⟩, rfl⟩
theorem jclone_c (l : List Check) (hl : l.length ≤ 1000) : CalO Tryz.prog 121 [.sl (l.map Check.av) false] (.ms 0 33 l.length) [(0, .row 33 (l.map Check.av))] := by
  have hR : Tryz.f121.results.toList = [.tmp 2] := rfl
  refine ⟨enters_of Tryz.func121 (by kernel_rfl) rfl, own_of_tr Tryz.func121 rfl (Nat.le_of_ble_eq_true rfl) rfl fun E hE hP => ?_⟩
  refine mr ?_
  first | refine tr_seq_region (by rw [hE]; rfl) ?_ | (refine Tr.seq ?_; refine tr_seq_region (by rw [hE]; rfl) ?_)
  repeat (refine vc_op rfl ?_; simp only [go_sem, seval])
  refine ⟨fun hz c => ?_, fun hz => ?_⟩
  · have hz' : l = [] := List.eq_nil_of_length_eq_zero hz
    subst hz'
    refine vc_nil ?_
    refine Tr.cond rfl (fun hc => ?_) (fun hc => ?_)
    · refine mr ?_
      refine Tr.wk (Wk.nil 2 33 rfl) ?_
      refine Tr.ret ?_
      simp only [hR, go_sem, seval]
      exact ⟨fun n => 64 + n, rfl, ⟨⟨rfl, rfl, rfl⟩, trivial⟩, rfl⟩
    · refine mW ?_
      refine Tr.ret ?_
      simp only [hR, go_sem, seval]
      exact ⟨fun n => 80 + n, rfl, ⟨⟨rfl, rfl, rfl⟩, trivial⟩, rfl⟩
  · refine vc_nil ?_
    refine mW ?_
    refine Tr.ret ?_
    simp only [hR, go_sem, seval]
    exact ⟨fun n => 80 + n, rfl, ⟨⟨rfl, rfl, rfl⟩, trivial⟩, rfl⟩
theorem tclone_c (t : List Node) (hl : t.length ≤ 1000) : CalO Tryz.prog 177 [tav t] (.st [.ms 0 35 t.length]) [(0, .row 35 (t.map Node.av))] := by
  have o1 := nclone_c t hl
  have hR : Tryz.f177.results.toList = [.cell 2 24] := rfl
  refine ⟨enters_of Tryz.func177 (by kernel_rfl) rfl, own_of_tr Tryz.func177 rfl (Nat.le_of_ble_eq_true rfl) rfl fun E hE hP => ?_⟩
  refine mW ?_
  refine Tr.ret ?_
  simp only [hR, go_sem, seval]
  exact ⟨fun n => 64 + n, rfl, (by repeat' (first | exact rfl | exact trivial | constructor)), rfl⟩
@[go_sem] theorem tav_upd (t : List Node) (x : AV) : (tav t).upd [0] x = some (.st [x]) := rfl
/-- An engine whose lists are so. -/
def engX (e : Eng) (T B V W A K J : AV) : AV := .st [.st [T], B, .st [V, .int .u64 e.o], W, A, K, J, e.fin.av, .int .u64 e.now]
attribute [go_sem] engX
def ownH (e : Eng) : HP := [(0, .row 35 (e.t.map Node.av)), (1, .row 1 (e.b.map uav)), (2, .row 34 (e.vl.map Latest.av)), (3, .row 1 (e.w.map uav)), (4, .row 100 (e.late.map Att.av)), (5, .row 67 (e.k.map Link.av)), (6, .row 33 (e.j.map Check.av))]
def ownV (e : Eng) : AV := engX e (.ms 0 35 e.t.length) (.ms 1 1 e.b.length) (.ms 2 34 e.vl.length) (.ms 3 1 e.w.length) (.ms 4 100 e.late.length) (.ms 5 67 e.k.length) (.ms 6 33 e.j.length)
set_option maxHeartbeats 1000000 in
theorem own_o (e : Eng) (he : e.few) : CalO Tryz.prog 129 [e.av] (ownV e) (ownH e) := by
  have o1 := nclone_c e.t (by have := he.t; omega)
  have o2 := uclone_c e.b (by have := he.b; omega)
  have o3 := lclone_c e.vl (by have := he.vl; omega)
  have o4 := uclone_c e.w (by have := he.w; omega)
  have o5 := aclone_c e.late (by have := he.late; omega)
  have o6 := kclone_c e.k (by have := he.k; omega)
  have o7 := jclone_c e.j (by have := he.j; omega)
  have hR : Tryz.f129.results.toList = [.cell 2 38] := rfl
  refine ⟨enters_of Tryz.func129 (by kernel_rfl) rfl, own_of_tr Tryz.func129 rfl (Nat.le_of_ble_eq_true rfl) rfl fun E hE hP => ?_⟩
  refine mr ?_
  first | refine tr_seq_drawn mixed _ (keepAll _) (by rw [hE]; rfl) (by kernel_rfl) ?_ | (refine Tr.seq ?_; refine tr_seq_drawn mixed _ (keepAll _) (by rw [hE]; rfl) (by kernel_rfl) ?_)
  simp only [List.map_cons, List.map_nil]
  refine vd_q rfl rfl ?_; simp only [go_sem, seval]
  refine vd_q rfl rfl ?_; simp only [go_sem, seval]
  refine vd_q rfl rfl ?_; simp only [go_sem, seval]
  refine vd_x rfl rfl ?_; simp only [go_sem, seval]
  refine call_own rfl rfl rfl rfl (enters_of Tryz.func45 (by kernel_rfl) rfl) (o1.2) rfl rfl ?_
  simp only [go_sem, seval]
  refine vd_q rfl rfl ?_; simp only [go_sem, seval]
  refine vd_q rfl rfl ?_; simp only [go_sem, seval]
  refine vd_x rfl rfl ?_; simp only [go_sem, seval]
  refine call_own rfl rfl rfl rfl (enters_of Tryz.func83 (by kernel_rfl) rfl) (o2.2) rfl rfl ?_
  simp only [go_sem, seval]
  refine vd_q rfl rfl ?_; simp only [go_sem, seval]
  refine vd_q rfl rfl ?_; simp only [go_sem, seval]
  refine vd_x rfl rfl ?_; simp only [go_sem, seval]
  refine call_own rfl rfl rfl rfl (enters_of Tryz.func83 (by kernel_rfl) rfl) (o4.2) rfl rfl ?_
  simp only [go_sem, seval]
  refine vd_q rfl rfl ?_; simp only [go_sem, seval]
  refine vd_q rfl rfl ?_; simp only [go_sem, seval]
  refine vd_q rfl rfl ?_; simp only [go_sem, seval]
  refine vd_x rfl rfl ?_; simp only [go_sem, seval]
  refine call_own rfl rfl rfl rfl (enters_of Tryz.func174 (by kernel_rfl) rfl) (o3.2) rfl rfl ?_
  simp only [go_sem, seval]
  refine vd_q rfl rfl ?_; simp only [go_sem, seval]
  refine vd_q rfl rfl ?_; simp only [go_sem, seval]
  refine vd_w rfl rfl (by kernel_rfl) ?_; simp only [go_sem, seval]
  refine vd_q rfl rfl ?_; simp only [go_sem, seval]
  refine vd_w rfl rfl (by kernel_rfl) ?_; simp only [go_sem, seval]
  refine vd_q rfl rfl ?_; simp only [go_sem, seval]
  refine vd_w rfl rfl (by kernel_rfl) ?_; simp only [go_sem, seval]
  refine vd_q rfl rfl ?_; simp only [go_sem, seval]
  refine vd_q rfl rfl ?_; simp only [go_sem, seval]
  refine vd_w rfl rfl (by kernel_rfl) ?_; simp only [go_sem, seval]
  refine vd_nil ?_
  first | refine tr_seq_drawn mixed _ (keepAll _) (by rw [hE]; rfl) (by kernel_rfl) ?_ | (refine Tr.seq ?_; refine tr_seq_drawn mixed _ (keepAll _) (by rw [hE]; rfl) (by kernel_rfl) ?_)
  simp only [List.map_cons, List.map_nil]
  refine vd_q rfl rfl ?_; simp only [go_sem, seval]
  refine vd_q rfl rfl ?_; simp only [go_sem, seval]
  refine vd_x rfl rfl ?_; simp only [go_sem, seval]
  refine call_own rfl rfl rfl rfl (enters_of Tryz.func175 (by kernel_rfl) rfl) (o5.2) rfl rfl ?_
  simp only [go_sem, seval]
  refine vd_q rfl rfl ?_; simp only [go_sem, seval]
  refine vd_q rfl rfl ?_; simp only [go_sem, seval]
  refine vd_x rfl rfl ?_; simp only [go_sem, seval]
  refine call_own rfl rfl rfl rfl (enters_of Tryz.func176 (by kernel_rfl) rfl) (o6.2) rfl rfl ?_
  simp only [go_sem, seval]
  refine vd_q rfl rfl ?_; simp only [go_sem, seval]
  refine vd_q rfl rfl ?_; simp only [go_sem, seval]
  refine vd_x rfl rfl ?_; simp only [go_sem, seval]
  refine call_own rfl rfl rfl rfl (enters_of Tryz.func121 (by kernel_rfl) rfl) (o7.2) rfl rfl ?_
  simp only [go_sem, seval]
  refine vd_q rfl rfl ?_; simp only [go_sem, seval]
  refine vd_w rfl rfl (by kernel_rfl) ?_; simp only [go_sem, seval]
  refine vd_q rfl rfl ?_; simp only [go_sem, seval]
  refine vd_w rfl rfl (by kernel_rfl) ?_; simp only [go_sem, seval]
  refine vd_q rfl rfl ?_; simp only [go_sem, seval]
  refine vd_w rfl rfl (by kernel_rfl) ?_; simp only [go_sem, seval]
  refine vd_nil ?_
  refine mr ?_
  refine Tr.ret ?_
  simp only [hR, go_sem, seval]
  exact ⟨fun | 0 => 80 | 1 => 128 | 2 => 240 | 3 => 176 | 4 => 448 | 5 => 496 | 6 => 544 | n => n, rfl, (by repeat' (first | exact rfl | exact trivial | constructor)), rfl⟩
set_option maxHeartbeats 1000000 in
theorem own_p (e : Eng) (he : e.few) : Cal Tryz.prog 129 [e.av] e.av := by
  have o1 := nclone_c e.t (by have := he.t; omega)
  have o2 := uclone_c e.b (by have := he.b; omega)
  have o3 := lclone_c e.vl (by have := he.vl; omega)
  have o4 := uclone_c e.w (by have := he.w; omega)
  have o5 := aclone_c e.late (by have := he.late; omega)
  have o6 := kclone_c e.k (by have := he.k; omega)
  have o7 := jclone_c e.j (by have := he.j; omega)
  have hR : Tryz.f129.results.toList = [.cell 2 38] := rfl
  refine ⟨enters_of Tryz.func129 (by kernel_rfl) rfl, pure_of_tr Tryz.func129 rfl (Nat.le_of_ble_eq_true rfl) rfl fun E hE hP => ?_⟩
  refine mr ?_
  first | refine tr_seq_drawn mixed _ (keepAll _) (by rw [hE]; rfl) (by kernel_rfl) ?_ | (refine Tr.seq ?_; refine tr_seq_drawn mixed _ (keepAll _) (by rw [hE]; rfl) (by kernel_rfl) ?_)
  simp only [List.map_cons, List.map_nil]
  refine vd_q rfl rfl ?_; simp only [go_sem, seval]
  refine vd_q rfl rfl ?_; simp only [go_sem, seval]
  refine vd_q rfl rfl ?_; simp only [go_sem, seval]
  refine vd_x rfl rfl ?_; simp only [go_sem, seval]
  refine call_own rfl rfl rfl rfl (enters_of Tryz.func45 (by kernel_rfl) rfl) (o1.2) rfl rfl ?_
  simp only [go_sem, seval]
  refine vd_q rfl rfl ?_; simp only [go_sem, seval]
  refine vd_q rfl rfl ?_; simp only [go_sem, seval]
  refine vd_x rfl rfl ?_; simp only [go_sem, seval]
  refine call_own rfl rfl rfl rfl (enters_of Tryz.func83 (by kernel_rfl) rfl) (o2.2) rfl rfl ?_
  simp only [go_sem, seval]
  refine vd_q rfl rfl ?_; simp only [go_sem, seval]
  refine vd_q rfl rfl ?_; simp only [go_sem, seval]
  refine vd_x rfl rfl ?_; simp only [go_sem, seval]
  refine call_own rfl rfl rfl rfl (enters_of Tryz.func83 (by kernel_rfl) rfl) (o4.2) rfl rfl ?_
  simp only [go_sem, seval]
  refine vd_q rfl rfl ?_; simp only [go_sem, seval]
  refine vd_q rfl rfl ?_; simp only [go_sem, seval]
  refine vd_q rfl rfl ?_; simp only [go_sem, seval]
  refine vd_x rfl rfl ?_; simp only [go_sem, seval]
  refine call_own rfl rfl rfl rfl (enters_of Tryz.func174 (by kernel_rfl) rfl) (o3.2) rfl rfl ?_
  simp only [go_sem, seval]
  refine vd_q rfl rfl ?_; simp only [go_sem, seval]
  refine vd_q rfl rfl ?_; simp only [go_sem, seval]
  refine vd_w rfl rfl (by kernel_rfl) ?_; simp only [go_sem, seval]
  refine vd_q rfl rfl ?_; simp only [go_sem, seval]
  refine vd_w rfl rfl (by kernel_rfl) ?_; simp only [go_sem, seval]
  refine vd_q rfl rfl ?_; simp only [go_sem, seval]
  refine vd_w rfl rfl (by kernel_rfl) ?_; simp only [go_sem, seval]
  refine vd_q rfl rfl ?_; simp only [go_sem, seval]
  refine vd_q rfl rfl ?_; simp only [go_sem, seval]
  refine vd_w rfl rfl (by kernel_rfl) ?_; simp only [go_sem, seval]
  refine vd_nil ?_
  first | refine tr_seq_drawn mixed _ (keepAll _) (by rw [hE]; rfl) (by kernel_rfl) ?_ | (refine Tr.seq ?_; refine tr_seq_drawn mixed _ (keepAll _) (by rw [hE]; rfl) (by kernel_rfl) ?_)
  simp only [List.map_cons, List.map_nil]
  refine vd_q rfl rfl ?_; simp only [go_sem, seval]
  refine vd_q rfl rfl ?_; simp only [go_sem, seval]
  refine vd_x rfl rfl ?_; simp only [go_sem, seval]
  refine call_own rfl rfl rfl rfl (enters_of Tryz.func175 (by kernel_rfl) rfl) (o5.2) rfl rfl ?_
  simp only [go_sem, seval]
  refine vd_q rfl rfl ?_; simp only [go_sem, seval]
  refine vd_q rfl rfl ?_; simp only [go_sem, seval]
  refine vd_x rfl rfl ?_; simp only [go_sem, seval]
  refine call_own rfl rfl rfl rfl (enters_of Tryz.func176 (by kernel_rfl) rfl) (o6.2) rfl rfl ?_
  simp only [go_sem, seval]
  refine vd_q rfl rfl ?_; simp only [go_sem, seval]
  refine vd_q rfl rfl ?_; simp only [go_sem, seval]
  refine vd_x rfl rfl ?_; simp only [go_sem, seval]
  refine call_own rfl rfl rfl rfl (enters_of Tryz.func121 (by kernel_rfl) rfl) (o7.2) rfl rfl ?_
  simp only [go_sem, seval]
  refine vd_q rfl rfl ?_; simp only [go_sem, seval]
  refine vd_w rfl rfl (by kernel_rfl) ?_; simp only [go_sem, seval]
  refine vd_q rfl rfl ?_; simp only [go_sem, seval]
  refine vd_w rfl rfl (by kernel_rfl) ?_; simp only [go_sem, seval]
  refine vd_q rfl rfl ?_; simp only [go_sem, seval]
  refine vd_w rfl rfl (by kernel_rfl) ?_; simp only [go_sem, seval]
  refine vd_nil ?_
  refine mr ?_
  refine Tr.wk (Wk.frzH [80, 128, 176, 240, 448, 496, 544]) ?_
  simp only [frzHP, frzA, AV.frz, AV.frzL, List.map_cons, List.map_nil, go_sem, seval]
  exact mX
end Go.Proofs.YtfbfedpjahpnmaaGreatDoor

/- Trees: a block that is put. -/
set_option linter.unusedSimpArgs false
set_option maxRecDepth 10000
namespace Go.Proofs.YtfbfedpjahpnmaaGreatDoor
open Go Go.Ab

def nodeOf (t : List Node) (b : Block) : Node := ⟨b.root, findR t b.parent, b.slot, b.just⟩
def insR (t : List Node) (b : Block) : List Node × Int :=
  if mayB t = false then (t, 1)
  else if 0 ≤ findR t b.root then (t, 4)
  else if findR t b.parent < 0 then (t, 5)
  else if b.slot ≤ (t.getD (findR t b.parent).toNat zNode).slot ∨ 1099511627776 < b.slot then (t, 6)
  else if t.length = 12 then (t, 3)
  else (t ++ [nodeOf t b], 0)
theorem ins_1 (t : List Node) (b : Block) (ht : t.length ≤ 1000) (hm : mayB t = false) : Cal Tryz.prog 130 [tav t, b.av] (.tup [tav t, .int .i64 1]) := by
  have o1 := tclone_c t ht
  have c1 := And.intro (enters_of Tryz.func67 (by kernel_rfl) rfl) (may_pure t)
  rw [hm] at c1
  have hR : Tryz.f130.results.toList = [.cell 4 24, .tmp 5] := rfl
  refine ⟨enters_of Tryz.func130 (by kernel_rfl) rfl, pure_of_tr Tryz.func130 rfl (Nat.le_of_ble_eq_true rfl) rfl fun E hE hP => ?_⟩
  refine mr ?_
  refine mr ?_
  refine Tr.wk (Wk.frzH [80]) ?_
  simp only [frzHP, frzA, AV.frz, AV.frzL, List.map_cons, List.map_nil, go_sem, seval]
  exact mX
theorem rlook_find {t : List Node} (hm : mayB t = true) (r : Root) : (findR t r = -1 ∧ rlook (idxTo t t.length) r = none) ∨ ∃ i : Nat, i < t.length ∧ findR t r = i ∧ rlook (idxTo t t.length) r = some i := by
  rw [rlook_once (may_once hm) r, findR, if_pos hm, findI]
  cases h : t.findIdx? (isR r) with
  | none => exact .inl ⟨rfl, rfl⟩
  | some i => exact .inr ⟨i, (List.findIdx?_eq_some_iff_getElem.1 h).1, rfl, rfl⟩
theorem ins_4 (t : List Node) (b : Block) (ht : t.length ≤ 1000) (hm : mayB t = true) (i : Nat) (hk : rlook (idxTo t t.length) b.root = some i) : Cal Tryz.prog 130 [tav t, b.av] (.tup [tav t, .int .i64 4]) := by
  have o1 := tclone_c t ht
  have c1 := And.intro (enters_of Tryz.func67 (by kernel_rfl) rfl) (may_pure t)
  have o2 : CalO Tryz.prog 68 [.sl (t.map Node.av) false] (.tup [.mp 0, .bool (onceB t)]) [(0, .amap ((idxTo t t.length).map entE))] := And.intro (enters_of Tryz.func68 (by kernel_rfl) rfl) (index_own t (by have := may_len hm; omega))
  have hml := may_len hm
  rw [hm] at c1
  have hR : Tryz.f130.results.toList = [.cell 4 24, .tmp 5] := rfl
  refine ⟨enters_of Tryz.func130 (by kernel_rfl) rfl, pure_of_tr Tryz.func130 rfl (Nat.le_of_ble_eq_true rfl) rfl fun E hE hP => ?_⟩
  refine mr ?_
  refine mr ?_
  refine Tr.wk (Wk.frzH [80]) ?_
  simp only [frzHP, frzA, AV.frz, AV.frzL, List.map_cons, List.map_nil, go_sem, seval]
  refine mW ?_
  first | apply tr_m (by rw [hE]; rfl) | (refine Tr.seq ?_; apply tr_m (by rw [hE]; rfl))
  intro Q hQ
  simp only [go_sem, seval]
  iterate 3 ((refine vm_op ?_); intro r hr; simp only [Option.getD_some, Option.isSome_some, go_sem, seval]; subst hr)
  (refine vm_op ?_); intro r hr; simp only [Option.getD_some, Option.isSome_some, go_sem, seval]
  refine lookR rfl ?_; rw [hk]
  try simp only [Option.getD_some, Option.isSome_some, go_sem, seval]
  subst hr
  iterate 5 ((refine vm_op ?_); intro r hr; simp only [Option.getD_some, Option.isSome_some, go_sem, seval]; subst hr)
  exact hQ
  exact mX
theorem ins_5 (t : List Node) (b : Block) (ht : t.length ≤ 1000) (hm : mayB t = true) (hk : rlook (idxTo t t.length) b.root = none) (hp : rlook (idxTo t t.length) b.parent = none) : Cal Tryz.prog 130 [tav t, b.av] (.tup [tav t, .int .i64 5]) := by
  have o1 := tclone_c t ht
  have c1 := And.intro (enters_of Tryz.func67 (by kernel_rfl) rfl) (may_pure t)
  have o2 : CalO Tryz.prog 68 [.sl (t.map Node.av) false] (.tup [.mp 0, .bool (onceB t)]) [(0, .amap ((idxTo t t.length).map entE))] := And.intro (enters_of Tryz.func68 (by kernel_rfl) rfl) (index_own t (by have := may_len hm; omega))
  have hml := may_len hm
  rw [hm] at c1
  have hR : Tryz.f130.results.toList = [.cell 4 24, .tmp 5] := rfl
  refine ⟨enters_of Tryz.func130 (by kernel_rfl) rfl, pure_of_tr Tryz.func130 rfl (Nat.le_of_ble_eq_true rfl) rfl fun E hE hP => ?_⟩
  refine mr ?_
  refine mr ?_
  refine Tr.wk (Wk.frzH [80]) ?_
  simp only [frzHP, frzA, AV.frz, AV.frzL, List.map_cons, List.map_nil, go_sem, seval]
  refine mW ?_
  first | apply tr_m (by rw [hE]; rfl) | (refine Tr.seq ?_; apply tr_m (by rw [hE]; rfl))
  intro Q hQ
  simp only [go_sem, seval]
  iterate 3 ((refine vm_op ?_); intro r hr; simp only [Option.getD_none, Option.isSome_none, go_sem, seval]; subst hr)
  (refine vm_op ?_); intro r hr; simp only [Option.getD_none, Option.isSome_none, go_sem, seval]
  refine lookR rfl ?_; rw [hk]
  try simp only [Option.getD_none, Option.isSome_none, go_sem, seval]
  subst hr
  iterate 5 ((refine vm_op ?_); intro r hr; simp only [Option.getD_none, Option.isSome_none, go_sem, seval]; subst hr)
  exact hQ
  refine mW ?_
  first | apply tr_m (by rw [hE]; rfl) | (refine Tr.seq ?_; apply tr_m (by rw [hE]; rfl))
  intro Q hQ
  simp only [go_sem, seval]
  iterate 3 ((refine vm_op ?_); intro r hr; simp only [Option.getD_none, Option.isSome_none, go_sem, seval]; subst hr)
  (refine vm_op ?_); intro r hr; simp only [Option.getD_none, Option.isSome_none, go_sem, seval]
  refine lookR rfl ?_; rw [hp]
  try simp only [Option.getD_none, Option.isSome_none, go_sem, seval]
  subst hr
  iterate 5 ((refine vm_op ?_); intro r hr; simp only [Option.getD_none, Option.isSome_none, go_sem, seval]; subst hr)
  exact hQ
  exact mX
theorem ins_6 (t : List Node) (b : Block) (ht : t.length ≤ 1000) (hm : mayB t = true) (i : Nat) (hi : i < t.length) (hk : rlook (idxTo t t.length) b.root = none) (hp : rlook (idxTo t t.length) b.parent = some i) (hs : b.slot ≤ (t.getD i zNode).slot ∨ 1099511627776 < b.slot) : Cal Tryz.prog 130 [tav t, b.av] (.tup [tav t, .int .i64 6]) := by
  have hn := nth_node hi
  generalize t.getD i zNode = n at hn hs
  rcases Bool.eq_false_or_eq_true (decide (b.slot ≤ n.slot)) with g | g
  · have o1 := tclone_c t ht
    have c1 := And.intro (enters_of Tryz.func67 (by kernel_rfl) rfl) (may_pure t)
    have o2 : CalO Tryz.prog 68 [.sl (t.map Node.av) false] (.tup [.mp 0, .bool (onceB t)]) [(0, .amap ((idxTo t t.length).map entE))] := And.intro (enters_of Tryz.func68 (by kernel_rfl) rfl) (index_own t (by have := may_len hm; omega))
    have hml := may_len hm
    rw [hm] at c1
    have hR : Tryz.f130.results.toList = [.cell 4 24, .tmp 5] := rfl
    refine ⟨enters_of Tryz.func130 (by kernel_rfl) rfl, pure_of_tr Tryz.func130 rfl (Nat.le_of_ble_eq_true rfl) rfl fun E hE hP => ?_⟩
    refine mr ?_
    refine mr ?_
    refine Tr.wk (Wk.frzH [80]) ?_
    simp only [frzHP, frzA, AV.frz, AV.frzL, List.map_cons, List.map_nil, go_sem, seval]
    refine mW ?_
    first | apply tr_m (by rw [hE]; rfl) | (refine Tr.seq ?_; apply tr_m (by rw [hE]; rfl))
    intro Q hQ
    simp only [go_sem, seval]
    iterate 3 ((refine vm_op ?_); intro r hr; simp only [Option.getD_none, Option.isSome_none, go_sem, seval]; subst hr)
    (refine vm_op ?_); intro r hr; simp only [Option.getD_none, Option.isSome_none, go_sem, seval]
    refine lookR rfl ?_; rw [hk]
    try simp only [Option.getD_none, Option.isSome_none, go_sem, seval]
    subst hr
    iterate 5 ((refine vm_op ?_); intro r hr; simp only [Option.getD_none, Option.isSome_none, go_sem, seval]; subst hr)
    exact hQ
    refine mW ?_
    first | apply tr_m (by rw [hE]; rfl) | (refine Tr.seq ?_; apply tr_m (by rw [hE]; rfl))
    intro Q hQ
    simp only [go_sem, seval]
    iterate 3 ((refine vm_op ?_); intro r hr; simp only [Option.getD_some, Option.isSome_some, go_sem, seval]; subst hr)
    (refine vm_op ?_); intro r hr; simp only [Option.getD_some, Option.isSome_some, go_sem, seval]
    refine lookR rfl ?_; rw [hp]
    try simp only [Option.getD_some, Option.isSome_some, go_sem, seval]
    subst hr
    iterate 5 ((refine vm_op ?_); intro r hr; simp only [Option.getD_some, Option.isSome_some, go_sem, seval]; subst hr)
    exact hQ
    have ff := And.intro hn g
    exact mX
  · have g2 : decide (1099511627776 < b.slot) = true := decide_eq_true (hs.resolve_left (of_decide_eq_false g))
    have o1 := tclone_c t ht
    have c1 := And.intro (enters_of Tryz.func67 (by kernel_rfl) rfl) (may_pure t)
    have o2 : CalO Tryz.prog 68 [.sl (t.map Node.av) false] (.tup [.mp 0, .bool (onceB t)]) [(0, .amap ((idxTo t t.length).map entE))] := And.intro (enters_of Tryz.func68 (by kernel_rfl) rfl) (index_own t (by have := may_len hm; omega))
    have hml := may_len hm
    rw [hm] at c1
    have hR : Tryz.f130.results.toList = [.cell 4 24, .tmp 5] := rfl
    refine ⟨enters_of Tryz.func130 (by kernel_rfl) rfl, pure_of_tr Tryz.func130 rfl (Nat.le_of_ble_eq_true rfl) rfl fun E hE hP => ?_⟩
    refine mr ?_
    refine mr ?_
    refine Tr.wk (Wk.frzH [80]) ?_
    simp only [frzHP, frzA, AV.frz, AV.frzL, List.map_cons, List.map_nil, go_sem, seval]
    refine mW ?_
    first | apply tr_m (by rw [hE]; rfl) | (refine Tr.seq ?_; apply tr_m (by rw [hE]; rfl))
    intro Q hQ
    simp only [go_sem, seval]
    iterate 3 ((refine vm_op ?_); intro r hr; simp only [Option.getD_none, Option.isSome_none, go_sem, seval]; subst hr)
    (refine vm_op ?_); intro r hr; simp only [Option.getD_none, Option.isSome_none, go_sem, seval]
    refine lookR rfl ?_; rw [hk]
    try simp only [Option.getD_none, Option.isSome_none, go_sem, seval]
    subst hr
    iterate 5 ((refine vm_op ?_); intro r hr; simp only [Option.getD_none, Option.isSome_none, go_sem, seval]; subst hr)
    exact hQ
    refine mW ?_
    first | apply tr_m (by rw [hE]; rfl) | (refine Tr.seq ?_; apply tr_m (by rw [hE]; rfl))
    intro Q hQ
    simp only [go_sem, seval]
    iterate 3 ((refine vm_op ?_); intro r hr; simp only [Option.getD_some, Option.isSome_some, go_sem, seval]; subst hr)
    (refine vm_op ?_); intro r hr; simp only [Option.getD_some, Option.isSome_some, go_sem, seval]
    refine lookR rfl ?_; rw [hp]
    try simp only [Option.getD_some, Option.isSome_some, go_sem, seval]
    subst hr
    iterate 5 ((refine vm_op ?_); intro r hr; simp only [Option.getD_some, Option.isSome_some, go_sem, seval]; subst hr)
    exact hQ
    have ff := And.intro hn (And.intro g g2)
    exact mX
theorem ins_3 (t : List Node) (b : Block) (ht : t.length ≤ 1000) (hm : mayB t = true) (i : Nat) (hi : i < t.length) (hk : rlook (idxTo t t.length) b.root = none) (hp : rlook (idxTo t t.length) b.parent = some i) (g : decide (b.slot ≤ (t.getD i zNode).slot) = false) (g2 : decide (1099511627776 < b.slot) = false)
    (g3 : decide ((t.length : Int) = 12) = true) : Cal Tryz.prog 130 [tav t, b.av] (.tup [tav t, .int .i64 3]) := by
  have hn := nth_node hi
  generalize t.getD i zNode = n at hn g
  have o1 := tclone_c t ht
  have c1 := And.intro (enters_of Tryz.func67 (by kernel_rfl) rfl) (may_pure t)
  have o2 : CalO Tryz.prog 68 [.sl (t.map Node.av) false] (.tup [.mp 0, .bool (onceB t)]) [(0, .amap ((idxTo t t.length).map entE))] := And.intro (enters_of Tryz.func68 (by kernel_rfl) rfl) (index_own t (by have := may_len hm; omega))
  have hml := may_len hm
  rw [hm] at c1
  have hR : Tryz.f130.results.toList = [.cell 4 24, .tmp 5] := rfl
  refine ⟨enters_of Tryz.func130 (by kernel_rfl) rfl, pure_of_tr Tryz.func130 rfl (Nat.le_of_ble_eq_true rfl) rfl fun E hE hP => ?_⟩
  refine mr ?_
  refine mr ?_
  refine Tr.wk (Wk.frzH [80]) ?_
  simp only [frzHP, frzA, AV.frz, AV.frzL, List.map_cons, List.map_nil, go_sem, seval]
  refine mW ?_
  first | apply tr_m (by rw [hE]; rfl) | (refine Tr.seq ?_; apply tr_m (by rw [hE]; rfl))
  intro Q hQ
  simp only [go_sem, seval]
  iterate 3 ((refine vm_op ?_); intro r hr; simp only [Option.getD_none, Option.isSome_none, go_sem, seval]; subst hr)
  (refine vm_op ?_); intro r hr; simp only [Option.getD_none, Option.isSome_none, go_sem, seval]
  refine lookR rfl ?_; rw [hk]
  try simp only [Option.getD_none, Option.isSome_none, go_sem, seval]
  subst hr
  iterate 5 ((refine vm_op ?_); intro r hr; simp only [Option.getD_none, Option.isSome_none, go_sem, seval]; subst hr)
  exact hQ
  refine mW ?_
  first | apply tr_m (by rw [hE]; rfl) | (refine Tr.seq ?_; apply tr_m (by rw [hE]; rfl))
  intro Q hQ
  simp only [go_sem, seval]
  iterate 3 ((refine vm_op ?_); intro r hr; simp only [Option.getD_some, Option.isSome_some, go_sem, seval]; subst hr)
  (refine vm_op ?_); intro r hr; simp only [Option.getD_some, Option.isSome_some, go_sem, seval]
  refine lookR rfl ?_; rw [hp]
  try simp only [Option.getD_some, Option.isSome_some, go_sem, seval]
  subst hr
  iterate 5 ((refine vm_op ?_); intro r hr; simp only [Option.getD_some, Option.isSome_some, go_sem, seval]; subst hr)
  exact hQ
  have ff := And.intro hn (And.intro g (And.intro g2 g3))
  exact mX
theorem ins_0 (t : List Node) (b : Block) (ht : t.length ≤ 1000) (hm : mayB t = true) (i : Nat) (hi : i < t.length) (hk : rlook (idxTo t t.length) b.root = none) (hp : rlook (idxTo t t.length) b.parent = some i) (g : decide (b.slot ≤ (t.getD i zNode).slot) = false) (g2 : decide (1099511627776 < b.slot) = false)
    (g3 : decide ((t.length : Int) = 12) = false) : Cal Tryz.prog 130 [tav t, b.av] (.tup [tav (t ++ [⟨b.root, i, b.slot, b.just⟩]), .int .i64 0]) := by
  have hn := nth_node hi
  generalize t.getD i zNode = n at hn g
  have o1 := tclone_c t ht
  have c1 := And.intro (enters_of Tryz.func67 (by kernel_rfl) rfl) (may_pure t)
  have o2 : CalO Tryz.prog 68 [.sl (t.map Node.av) false] (.tup [.mp 0, .bool (onceB t)]) [(0, .amap ((idxTo t t.length).map entE))] := And.intro (enters_of Tryz.func68 (by kernel_rfl) rfl) (index_own t (by have := may_len hm; omega))
  have hml := may_len hm
  rw [hm] at c1
  have hR : Tryz.f130.results.toList = [.cell 4 24, .tmp 5] := rfl
  refine ⟨enters_of Tryz.func130 (by kernel_rfl) rfl, pure_of_tr Tryz.func130 rfl (Nat.le_of_ble_eq_true rfl) rfl fun E hE hP => ?_⟩
  refine mr ?_
  refine mr ?_
  refine mW ?_
  first | apply tr_m (by rw [hE]; rfl) | (refine Tr.seq ?_; apply tr_m (by rw [hE]; rfl))
  intro Q hQ
  simp only [go_sem, seval]
  iterate 3 ((refine vm_op ?_); intro r hr; simp only [Option.getD_none, Option.isSome_none, go_sem, seval]; subst hr)
  (refine vm_op ?_); intro r hr; simp only [Option.getD_none, Option.isSome_none, go_sem, seval]
  refine lookR rfl ?_; rw [hk]
  try simp only [Option.getD_none, Option.isSome_none, go_sem, seval]
  subst hr
  iterate 5 ((refine vm_op ?_); intro r hr; simp only [Option.getD_none, Option.isSome_none, go_sem, seval]; subst hr)
  exact hQ
  refine mW ?_
  first | apply tr_m (by rw [hE]; rfl) | (refine Tr.seq ?_; apply tr_m (by rw [hE]; rfl))
  intro Q hQ
  simp only [go_sem, seval]
  iterate 3 ((refine vm_op ?_); intro r hr; simp only [Option.getD_some, Option.isSome_some, go_sem, seval]; subst hr)
  (refine vm_op ?_); intro r hr; simp only [Option.getD_some, Option.isSome_some, go_sem, seval]
  refine lookR rfl ?_; rw [hp]
  try simp only [Option.getD_some, Option.isSome_some, go_sem, seval]
  subst hr
  iterate 5 ((refine vm_op ?_); intro r hr; simp only [Option.getD_some, Option.isSome_some, go_sem, seval]; subst hr)
  exact hQ
  have ff := And.intro hn (And.intro g (And.intro g2 g3))
  refine mW ?_
  first | apply tr_m (by rw [hE]; rfl) | (refine Tr.seq ?_; apply tr_m (by rw [hE]; rfl))
  intro Q hQ
  simp only [go_sem, seval]
  iterate 11 ((refine vm_op ?_); intro r hr; simp only [List.filter_cons, List.filter_nil, Bool.not_false, Bool.not_true, if_true, Bool.false_eq_true, if_false, go_sem, seval]; subst hr)
  (refine vm_op ?_); intro r hr; simp only [List.filter_cons, List.filter_nil, Bool.not_false, Bool.not_true, if_true, Bool.false_eq_true, if_false, go_sem, seval]
  refine ⟨by omega, by omega, ?_⟩
  try simp only [List.filter_cons, List.filter_nil, Bool.not_false, Bool.not_true, if_true, Bool.false_eq_true, if_false, go_sem, seval]
  subst hr
  iterate 2 ((refine vm_op ?_); intro r hr; simp only [List.filter_cons, List.filter_nil, Bool.not_false, Bool.not_true, if_true, Bool.false_eq_true, if_false, go_sem, seval]; subst hr)
  exact hQ
  refine mr ?_
  refine Tr.wk (Wk.frzH [1136]) ?_
  have hma : List.map Node.av t ++ [(Node.mk b.root i b.slot b.just).av] = List.map Node.av (t ++ [⟨b.root, i, b.slot, b.just⟩]) := by rw [List.map_append]; rfl
  have hlen : (List.map Node.av (t ++ [⟨b.root, i, b.slot, b.just⟩])).length = t.length + 1 := by rw [List.length_map, List.length_append]; rfl
  simp only [frzHP, frzA, AV.frz, AV.frzL, List.map_cons, List.map_nil, hma, hlen, go_sem, seval]
  exact mX
theorem ins_c (t : List Node) (b : Block) (ht : t.length ≤ 1000) : Cal Tryz.prog 130 [tav t, b.av] (.tup [tav (insR t b).1, .int .i64 (insR t b).2]) := by
  cases hm : mayB t
  · have er : insR t b = (t, 1) := by rw [insR, if_pos hm]
    rw [er]
    exact ins_1 t b ht hm
  · have h0 : ¬ mayB t = false := by rw [hm]; decide
    rcases rlook_find hm b.root with ⟨k1, k2⟩ | ⟨i, k0, k1, k2⟩
    · rcases rlook_find hm b.parent with ⟨p1, p2⟩ | ⟨j, p0, p1, p2⟩
      · have er : insR t b = (t, 5) := by rw [insR, if_neg h0, if_neg (by omega), if_pos (by omega)]
        rw [er]
        exact ins_5 t b ht hm k2 p2
      · have er : insR t b = if b.slot ≤ (t.getD j zNode).slot ∨ 1099511627776 < b.slot then (t, 6) else if t.length = 12 then (t, 3) else (t ++ [nodeOf t b], 0) := by
          rw [insR, if_neg h0, if_neg (by omega), if_neg (by omega), p1, Int.toNat_natCast]
        rw [er]
        by_cases hs : b.slot ≤ (t.getD j zNode).slot ∨ 1099511627776 < b.slot
        · rw [if_pos hs]
          exact ins_6 t b ht hm j p0 k2 p2 hs
        · rw [if_neg hs]
          rw [not_or] at hs
          by_cases hl : t.length = 12
          · rw [if_pos hl]
            exact ins_3 t b ht hm j p0 k2 p2 (decide_eq_false hs.1) (decide_eq_false hs.2) (decide_eq_true (by omega))
          · rw [if_neg hl]
            unfold nodeOf
            rw [p1]
            exact ins_0 t b ht hm j p0 k2 p2 (decide_eq_false hs.1) (decide_eq_false hs.2) (decide_eq_false (by omega))
    · have er : insR t b = (t, 4) := by rw [insR, if_neg h0, if_pos (by omega)]
      rw [er]
      exact ins_4 t b ht hm i k2
end Go.Proofs.YtfbfedpjahpnmaaGreatDoor

/- Engines: a block that is put; the walk. -/
set_option linter.unusedSimpArgs false
set_option maxRecDepth 10000
namespace Go.Proofs.YtfbfedpjahpnmaaGreatDoor
open Go Go.Ab

/-- An engine at work, whose weights lie in memory of its own. -/
def workV (e : Eng) (W : AV) (b : Block) (a : Att) (c : Ask) : AV := .st [engX e (.sl (e.t.map Node.av) false) (u64s e.b) (.sl (e.vl.map Latest.av) false) W (atts e.late) (links e.k) (checks e.j), b.av, a.av, c.av]
attribute [go_sem] workV
def workH (e : Eng) (b : Block) (a : Att) (c : Ask) : HP := [(0, .var (workV e (.ms 1 1 e.w.length) b a c)), (1, .row 1 (e.w.map uav))]
theorem place_e (e : Eng) (b : Block) (a : Att) (c : Ask) (r : Root) : CalE Tryz.prog 131 [.ptr 0 [] 0, .root r] 2 (workH e b a c) (.int .i64 (findR e.t r)) (workH e b a c) := by
  have c1 := And.intro (enters_of Tryz.func26 (by kernel_rfl) rfl) (find_pure e.t r)
  unfold workH
  have hR : Tryz.f131.results.toList = [.tmp 4] := rfl
  refine ⟨enters_of Tryz.func131 (by kernel_rfl) rfl, eff_of_tr Tryz.func131 rfl (Nat.le_of_ble_eq_true rfl) (by first | rfl | (simp only [AV.idsB, AV.idsBL, Bool.and_true, Bool.true_and] <;> rfl)) fun E hE hP => ?_⟩
  exact mX
theorem blk_7 (e : Eng) (b : Block) (a : Att) (c : Ask) (h : decide (e.now < b.slot) = true) : CalE Tryz.prog 73 [.ptr 0 [] 0] 2 (workH e b a c) (.int .i64 7) (workH e b a c) := by
  have ff := h
  unfold workH
  have hR : Tryz.f73.results.toList = [.tmp 2] := rfl
  refine ⟨enters_of Tryz.func73 (by kernel_rfl) rfl, eff_of_tr Tryz.func73 rfl (Nat.le_of_ble_eq_true rfl) (by first | rfl | (simp only [AV.idsB, AV.idsBL, Bool.and_true, Bool.true_and] <;> rfl)) fun E hE hP => ?_⟩
  exact mX
theorem blk_e (e : Eng) (b : Block) (a : Att) (c : Ask) (he : e.few) (h : decide (e.now < b.slot) = false) (h2 : decide ((insR e.t b).2 = 0) = false) : CalE Tryz.prog 73 [.ptr 0 [] 0] 2 (workH e b a c) (.int .i64 (insR e.t b).2) (workH e b a c) := by
  have c1 := ins_c e.t b (by have := he.t; omega)
  generalize insR e.t b = X at c1 h2
  have ff := And.intro h h2
  unfold workH
  have hR : Tryz.f73.results.toList = [.tmp 2] := rfl
  refine ⟨enters_of Tryz.func73 (by kernel_rfl) rfl, eff_of_tr Tryz.func73 rfl (Nat.le_of_ble_eq_true rfl) (by first | rfl | (simp only [AV.idsB, AV.idsBL, Bool.and_true, Bool.true_and] <;> rfl)) fun E hE hP => ?_⟩
  refine mr ?_
  refine mr ?_
  refine mC ?_
  refine mC ?_
  refine tr_seq_plan mixed _ (.one 0 (.one 1 (.one 2 (.one 3 (.one 4 (.one 5 (.one 6 (.one 7 (.one 8 (.two 9 (.one 10 (.one 11 (.one 12 (.one 13 (.one 14 (.one 15 .done)))))) 13 (.one 9 (.one 10 (.one 11 (.one 12 (.one 14 (.one 15 .done)))))))))))))))) (⟨[(0, .ptr 0 [] 0), (3, .ptr 2 [] 0), (4, .int .i64 X.2)], [(0, .var (workV e (.ms 1 1 e.w.length) b a c)), (1, .row 1 (e.w.map uav)), (2, .var (tav X.1))], 3, []⟩) (keepAll _) (by rw [hE]; rfl) (by kernel_rfl) ?_ ?_
  · simp only [List.map_cons, List.map_nil]
    apply pl_q; exact rfl; exact rfl; exact rfl; simp only [List.getElem_toArray, List.getElem_cons_zero, List.getElem_cons_succ, go_sem, seval]
    apply pl_q; exact rfl; exact rfl; exact rfl; simp only [List.getElem_toArray, List.getElem_cons_zero, List.getElem_cons_succ, go_sem, seval]
    apply pl_q; exact rfl; exact rfl; exact rfl; simp only [List.getElem_toArray, List.getElem_cons_zero, List.getElem_cons_succ, go_sem, seval]
    apply pl_q; exact rfl; exact rfl; exact rfl; simp only [List.getElem_toArray, List.getElem_cons_zero, List.getElem_cons_succ, go_sem, seval]
    apply pl_q; exact rfl; exact rfl; exact rfl; simp only [List.getElem_toArray, List.getElem_cons_zero, List.getElem_cons_succ, go_sem, seval]
    apply pl_q; exact rfl; exact rfl; exact rfl; simp only [List.getElem_toArray, List.getElem_cons_zero, List.getElem_cons_succ, go_sem, seval]
    apply pl_q; exact rfl; exact rfl; exact rfl; simp only [List.getElem_toArray, List.getElem_cons_zero, List.getElem_cons_succ, go_sem, seval]
    apply pl_q; exact rfl; exact rfl; exact rfl; simp only [List.getElem_toArray, List.getElem_cons_zero, List.getElem_cons_succ, go_sem, seval]
    apply pl_q; exact rfl; exact rfl; exact rfl; simp only [List.getElem_toArray, List.getElem_cons_zero, List.getElem_cons_succ, go_sem, seval]
    apply pl_two; exact rfl; exact rfl
    · refine st_x rfl rfl ?_; simp only [List.getElem_toArray, List.getElem_cons_zero, List.getElem_cons_succ, go_sem, seval]
      refine call_fn rfl rfl rfl rfl (enters_of Tryz.func130 (by kernel_rfl) rfl) (c1.2) rfl rfl rfl ?_
      simp only [go_sem, seval]
      apply pl_q; exact rfl; exact rfl; exact rfl; simp only [List.getElem_toArray, List.getElem_cons_zero, List.getElem_cons_succ, go_sem, seval]
      apply pl_q; exact rfl; exact rfl; exact rfl; simp only [List.getElem_toArray, List.getElem_cons_zero, List.getElem_cons_succ, go_sem, seval]
      apply pl_q; exact rfl; exact rfl; exact rfl; simp only [List.getElem_toArray, List.getElem_cons_zero, List.getElem_cons_succ, go_sem, seval]
      apply pl_x; exact rfl
      refine st_x rfl rfl ?_; simp only [List.getElem_toArray, List.getElem_cons_zero, List.getElem_cons_succ, go_sem, seval]
      apply pl_x; exact rfl
      refine st_x rfl rfl ?_; simp only [List.getElem_toArray, List.getElem_cons_zero, List.getElem_cons_succ, go_sem, seval]
      apply pl_q; exact rfl; exact rfl; exact rfl; simp only [List.getElem_toArray, List.getElem_cons_zero, List.getElem_cons_succ, go_sem, seval]
      refine pl_done (st := _) ?_ rfl
      refine wk_ren (fun | 2 => 402 | n => n) ?_ ?_ rfl rfl rfl
      · repeat' (first | exact rfl | exact trivial | constructor)
      · repeat' (first | exact rfl | exact trivial | constructor)
    · refine st_x rfl rfl ?_; simp only [List.getElem_toArray, List.getElem_cons_zero, List.getElem_cons_succ, go_sem, seval]
      apply pl_x; exact rfl
      refine st_x rfl rfl ?_; simp only [List.getElem_toArray, List.getElem_cons_zero, List.getElem_cons_succ, go_sem, seval]
      refine call_fn rfl rfl rfl rfl (enters_of Tryz.func130 (by kernel_rfl) rfl) (c1.2) rfl rfl rfl ?_
      simp only [go_sem, seval]
      apply pl_q; exact rfl; exact rfl; exact rfl; simp only [List.getElem_toArray, List.getElem_cons_zero, List.getElem_cons_succ, go_sem, seval]
      apply pl_q; exact rfl; exact rfl; exact rfl; simp only [List.getElem_toArray, List.getElem_cons_zero, List.getElem_cons_succ, go_sem, seval]
      apply pl_q; exact rfl; exact rfl; exact rfl; simp only [List.getElem_toArray, List.getElem_cons_zero, List.getElem_cons_succ, go_sem, seval]
      apply pl_x; exact rfl
      refine st_x rfl rfl ?_; simp only [List.getElem_toArray, List.getElem_cons_zero, List.getElem_cons_succ, go_sem, seval]
      apply pl_q; exact rfl; exact rfl; exact rfl; simp only [List.getElem_toArray, List.getElem_cons_zero, List.getElem_cons_succ, go_sem, seval]
      refine pl_done (st := _) ?_ rfl
      refine wk_ren (fun | 2 => 402 | n => n) ?_ ?_ rfl rfl rfl
      · repeat' (first | exact rfl | exact trivial | constructor)
      · repeat' (first | exact rfl | exact trivial | constructor)
  exact mX
def workO (e : Eng) (t : List Node) (b : Block) (a : Att) (c : Ask) : HP := [(0, .var (workV ⟨t, e.b, e.vl, e.o, e.w ++ [0], e.late, e.k, e.j, e.fin, e.now⟩ (.ms 2 1 (e.w.length + 1)) b a c)), (2, .row 1 ((e.w ++ [0]).map uav))]
theorem blk_8 (e : Eng) (b : Block) (a : Att) (c : Ask) (he : e.few) (h : decide (e.now < b.slot) = false) (t : List Node) (ht : insR e.t b = (t, 0)) (hl : 1 ≤ t.length ∧ t.length ≤ 1000) (ha : aboveR t (findR e.t e.fin.root) ((t.length - 1 : Nat) : Int) = false) : CalE Tryz.prog 73 [.ptr 0 [] 0] 2 (workH e b a c) (.int .i64 8) (workH e b a c) := by
  have c1 := ins_c e.t b (by have := he.t; omega)
  rw [ht] at c1
  have y1 := place_e e b a c e.fin.root
  have c2 := And.intro (enters_of Tryz.func28 (by kernel_rfl) rfl) (above_pure t (findR e.t e.fin.root) ((t.length - 1 : Nat) : Int))
  rw [ha] at c2
  have hw : IntKind.i64.wrap ((t.length : Int) - 1) = ((t.length - 1 : Nat) : Int) := by rw [wrap64_id (by omega) (by omega)]; omega
  have ff := And.intro h hw
  unfold workH at y1 ⊢
  have hR : Tryz.f73.results.toList = [.tmp 2] := rfl
  refine ⟨enters_of Tryz.func73 (by kernel_rfl) rfl, eff_of_tr Tryz.func73 rfl (Nat.le_of_ble_eq_true rfl) (by first | rfl | (simp only [AV.idsB, AV.idsBL, Bool.and_true, Bool.true_and] <;> rfl)) fun E hE hP => ?_⟩
  refine mr ?_
  refine mr ?_
  refine mC ?_
  refine mC ?_
  refine tr_seq_plan mixed _ (.one 0 (.one 1 (.one 2 (.one 3 (.one 4 (.one 5 (.one 6 (.one 7 (.one 8 (.two 9 (.one 10 (.one 11 (.one 12 (.one 13 (.one 14 (.one 15 .done)))))) 13 (.one 9 (.one 10 (.one 11 (.one 12 (.one 14 (.one 15 .done)))))))))))))))) (⟨[(0, .ptr 0 [] 0), (3, .ptr 2 [] 0), (4, .int .i64 0)], [(0, .var (workV e (.ms 1 1 e.w.length) b a c)), (1, .row 1 (e.w.map uav)), (2, .var (tav t))], 3, []⟩) (keepAll _) (by rw [hE]; rfl) (by kernel_rfl) ?_ ?_
  · simp only [List.map_cons, List.map_nil]
    apply pl_q; exact rfl; exact rfl; exact rfl; simp only [List.getElem_toArray, List.getElem_cons_zero, List.getElem_cons_succ, go_sem, seval]
    apply pl_q; exact rfl; exact rfl; exact rfl; simp only [List.getElem_toArray, List.getElem_cons_zero, List.getElem_cons_succ, go_sem, seval]
    apply pl_q; exact rfl; exact rfl; exact rfl; simp only [List.getElem_toArray, List.getElem_cons_zero, List.getElem_cons_succ, go_sem, seval]
    apply pl_q; exact rfl; exact rfl; exact rfl; simp only [List.getElem_toArray, List.getElem_cons_zero, List.getElem_cons_succ, go_sem, seval]
    apply pl_q; exact rfl; exact rfl; exact rfl; simp only [List.getElem_toArray, List.getElem_cons_zero, List.getElem_cons_succ, go_sem, seval]
    apply pl_q; exact rfl; exact rfl; exact rfl; simp only [List.getElem_toArray, List.getElem_cons_zero, List.getElem_cons_succ, go_sem, seval]
    apply pl_q; exact rfl; exact rfl; exact rfl; simp only [List.getElem_toArray, List.getElem_cons_zero, List.getElem_cons_succ, go_sem, seval]
    apply pl_q; exact rfl; exact rfl; exact rfl; simp only [List.getElem_toArray, List.getElem_cons_zero, List.getElem_cons_succ, go_sem, seval]
    apply pl_q; exact rfl; exact rfl; exact rfl; simp only [List.getElem_toArray, List.getElem_cons_zero, List.getElem_cons_succ, go_sem, seval]
    apply pl_two; exact rfl; exact rfl
    · refine st_x rfl rfl ?_; simp only [List.getElem_toArray, List.getElem_cons_zero, List.getElem_cons_succ, go_sem, seval]
      refine call_fn rfl rfl rfl rfl (enters_of Tryz.func130 (by kernel_rfl) rfl) (c1.2) rfl rfl rfl ?_
      simp only [go_sem, seval]
      apply pl_q; exact rfl; exact rfl; exact rfl; simp only [List.getElem_toArray, List.getElem_cons_zero, List.getElem_cons_succ, go_sem, seval]
      apply pl_q; exact rfl; exact rfl; exact rfl; simp only [List.getElem_toArray, List.getElem_cons_zero, List.getElem_cons_succ, go_sem, seval]
      apply pl_q; exact rfl; exact rfl; exact rfl; simp only [List.getElem_toArray, List.getElem_cons_zero, List.getElem_cons_succ, go_sem, seval]
      apply pl_x; exact rfl
      refine st_x rfl rfl ?_; simp only [List.getElem_toArray, List.getElem_cons_zero, List.getElem_cons_succ, go_sem, seval]
      apply pl_x; exact rfl
      refine st_x rfl rfl ?_; simp only [List.getElem_toArray, List.getElem_cons_zero, List.getElem_cons_succ, go_sem, seval]
      apply pl_q; exact rfl; exact rfl; exact rfl; simp only [List.getElem_toArray, List.getElem_cons_zero, List.getElem_cons_succ, go_sem, seval]
      refine pl_done (st := _) ?_ rfl
      refine wk_ren (fun | 2 => 402 | n => n) ?_ ?_ rfl rfl rfl
      · repeat' (first | exact rfl | exact trivial | constructor)
      · repeat' (first | exact rfl | exact trivial | constructor)
    · refine st_x rfl rfl ?_; simp only [List.getElem_toArray, List.getElem_cons_zero, List.getElem_cons_succ, go_sem, seval]
      apply pl_x; exact rfl
      refine st_x rfl rfl ?_; simp only [List.getElem_toArray, List.getElem_cons_zero, List.getElem_cons_succ, go_sem, seval]
      refine call_fn rfl rfl rfl rfl (enters_of Tryz.func130 (by kernel_rfl) rfl) (c1.2) rfl rfl rfl ?_
      simp only [go_sem, seval]
      apply pl_q; exact rfl; exact rfl; exact rfl; simp only [List.getElem_toArray, List.getElem_cons_zero, List.getElem_cons_succ, go_sem, seval]
      apply pl_q; exact rfl; exact rfl; exact rfl; simp only [List.getElem_toArray, List.getElem_cons_zero, List.getElem_cons_succ, go_sem, seval]
      apply pl_q; exact rfl; exact rfl; exact rfl; simp only [List.getElem_toArray, List.getElem_cons_zero, List.getElem_cons_succ, go_sem, seval]
      apply pl_x; exact rfl
      refine st_x rfl rfl ?_; simp only [List.getElem_toArray, List.getElem_cons_zero, List.getElem_cons_succ, go_sem, seval]
      apply pl_q; exact rfl; exact rfl; exact rfl; simp only [List.getElem_toArray, List.getElem_cons_zero, List.getElem_cons_succ, go_sem, seval]
      refine pl_done (st := _) ?_ rfl
      refine wk_ren (fun | 2 => 402 | n => n) ?_ ?_ rfl rfl rfl
      · repeat' (first | exact rfl | exact trivial | constructor)
      · repeat' (first | exact rfl | exact trivial | constructor)
  exact mX
theorem blk_0 (e : Eng) (b : Block) (a : Att) (c : Ask) (he : e.few) (h : decide (e.now < b.slot) = false) (t : List Node) (ht : insR e.t b = (t, 0)) (hl : 1 ≤ t.length ∧ t.length ≤ 1000) (hw1 : e.w.length ≤ 1000) (ha : aboveR t (findR e.t e.fin.root) ((t.length - 1 : Nat) : Int) = true) : CalE Tryz.prog 73 [.ptr 0 [] 0] 2 (workH e b a c) (.int .i64 0) (workO e t b a c) := by
  have c1 := ins_c e.t b (by have := he.t; omega)
  rw [ht] at c1
  have y1 := place_e e b a c e.fin.root
  have c2 := And.intro (enters_of Tryz.func28 (by kernel_rfl) rfl) (above_pure t (findR e.t e.fin.root) ((t.length - 1 : Nat) : Int))
  rw [ha] at c2
  have hw : IntKind.i64.wrap ((t.length : Int) - 1) = ((t.length - 1 : Nat) : Int) := by rw [wrap64_id (by omega) (by omega)]; omega
  have ff := And.intro h hw
  unfold workH at y1 ⊢
  unfold workO
  have hR : Tryz.f73.results.toList = [.tmp 2] := rfl
  refine ⟨enters_of Tryz.func73 (by kernel_rfl) rfl, eff_of_tr Tryz.func73 rfl (Nat.le_of_ble_eq_true rfl) (by first | rfl | (simp only [AV.idsB, AV.idsBL, Bool.and_true, Bool.true_and] <;> rfl)) fun E hE hP => ?_⟩
  refine mr ?_
  refine mr ?_
  refine mC ?_
  refine mC ?_
  refine tr_seq_plan mixed _ (.one 0 (.one 1 (.one 2 (.one 3 (.one 4 (.one 5 (.one 6 (.one 7 (.one 8 (.two 9 (.one 10 (.one 11 (.one 12 (.one 13 (.one 14 (.one 15 .done)))))) 13 (.one 9 (.one 10 (.one 11 (.one 12 (.one 14 (.one 15 .done)))))))))))))))) (⟨[(0, .ptr 0 [] 0), (3, .ptr 2 [] 0), (4, .int .i64 0)], [(0, .var (workV e (.ms 1 1 e.w.length) b a c)), (1, .row 1 (e.w.map uav)), (2, .var (tav t))], 3, []⟩) (keepAll _) (by rw [hE]; rfl) (by kernel_rfl) ?_ ?_
  · simp only [List.map_cons, List.map_nil]
    apply pl_q; exact rfl; exact rfl; exact rfl; simp only [List.getElem_toArray, List.getElem_cons_zero, List.getElem_cons_succ, go_sem, seval]
    apply pl_q; exact rfl; exact rfl; exact rfl; simp only [List.getElem_toArray, List.getElem_cons_zero, List.getElem_cons_succ, go_sem, seval]
    apply pl_q; exact rfl; exact rfl; exact rfl; simp only [List.getElem_toArray, List.getElem_cons_zero, List.getElem_cons_succ, go_sem, seval]
    apply pl_q; exact rfl; exact rfl; exact rfl; simp only [List.getElem_toArray, List.getElem_cons_zero, List.getElem_cons_succ, go_sem, seval]
    apply pl_q; exact rfl; exact rfl; exact rfl; simp only [List.getElem_toArray, List.getElem_cons_zero, List.getElem_cons_succ, go_sem, seval]
    apply pl_q; exact rfl; exact rfl; exact rfl; simp only [List.getElem_toArray, List.getElem_cons_zero, List.getElem_cons_succ, go_sem, seval]
    apply pl_q; exact rfl; exact rfl; exact rfl; simp only [List.getElem_toArray, List.getElem_cons_zero, List.getElem_cons_succ, go_sem, seval]
    apply pl_q; exact rfl; exact rfl; exact rfl; simp only [List.getElem_toArray, List.getElem_cons_zero, List.getElem_cons_succ, go_sem, seval]
    apply pl_q; exact rfl; exact rfl; exact rfl; simp only [List.getElem_toArray, List.getElem_cons_zero, List.getElem_cons_succ, go_sem, seval]
    apply pl_two; exact rfl; exact rfl
    · refine st_x rfl rfl ?_; simp only [List.getElem_toArray, List.getElem_cons_zero, List.getElem_cons_succ, go_sem, seval]
      refine call_fn rfl rfl rfl rfl (enters_of Tryz.func130 (by kernel_rfl) rfl) (c1.2) rfl rfl rfl ?_
      simp only [go_sem, seval]
      apply pl_q; exact rfl; exact rfl; exact rfl; simp only [List.getElem_toArray, List.getElem_cons_zero, List.getElem_cons_succ, go_sem, seval]
      apply pl_q; exact rfl; exact rfl; exact rfl; simp only [List.getElem_toArray, List.getElem_cons_zero, List.getElem_cons_succ, go_sem, seval]
      apply pl_q; exact rfl; exact rfl; exact rfl; simp only [List.getElem_toArray, List.getElem_cons_zero, List.getElem_cons_succ, go_sem, seval]
      apply pl_x; exact rfl
      refine st_x rfl rfl ?_; simp only [List.getElem_toArray, List.getElem_cons_zero, List.getElem_cons_succ, go_sem, seval]
      apply pl_x; exact rfl
      refine st_x rfl rfl ?_; simp only [List.getElem_toArray, List.getElem_cons_zero, List.getElem_cons_succ, go_sem, seval]
      apply pl_q; exact rfl; exact rfl; exact rfl; simp only [List.getElem_toArray, List.getElem_cons_zero, List.getElem_cons_succ, go_sem, seval]
      refine pl_done (st := _) ?_ rfl
      refine wk_ren (fun | 2 => 402 | n => n) ?_ ?_ rfl rfl rfl
      · repeat' (first | exact rfl | exact trivial | constructor)
      · repeat' (first | exact rfl | exact trivial | constructor)
    · refine st_x rfl rfl ?_; simp only [List.getElem_toArray, List.getElem_cons_zero, List.getElem_cons_succ, go_sem, seval]
      apply pl_x; exact rfl
      refine st_x rfl rfl ?_; simp only [List.getElem_toArray, List.getElem_cons_zero, List.getElem_cons_succ, go_sem, seval]
      refine call_fn rfl rfl rfl rfl (enters_of Tryz.func130 (by kernel_rfl) rfl) (c1.2) rfl rfl rfl ?_
      simp only [go_sem, seval]
      apply pl_q; exact rfl; exact rfl; exact rfl; simp only [List.getElem_toArray, List.getElem_cons_zero, List.getElem_cons_succ, go_sem, seval]
      apply pl_q; exact rfl; exact rfl; exact rfl; simp only [List.getElem_toArray, List.getElem_cons_zero, List.getElem_cons_succ, go_sem, seval]
      apply pl_q; exact rfl; exact rfl; exact rfl; simp only [List.getElem_toArray, List.getElem_cons_zero, List.getElem_cons_succ, go_sem, seval]
      apply pl_x; exact rfl
      refine st_x rfl rfl ?_; simp only [List.getElem_toArray, List.getElem_cons_zero, List.getElem_cons_succ, go_sem, seval]
      apply pl_q; exact rfl; exact rfl; exact rfl; simp only [List.getElem_toArray, List.getElem_cons_zero, List.getElem_cons_succ, go_sem, seval]
      refine pl_done (st := _) ?_ rfl
      refine wk_ren (fun | 2 => 402 | n => n) ?_ ?_ rfl rfl rfl
      · repeat' (first | exact rfl | exact trivial | constructor)
      · repeat' (first | exact rfl | exact trivial | constructor)
  refine mW ?_
  first | refine tr_seq_drawn mixed [0, 2] rfl (by rw [hE]; rfl) (by kernel_rfl) ?_ | (refine Tr.seq ?_; refine tr_seq_drawn mixed [0, 2] rfl (by rw [hE]; rfl) (by kernel_rfl) ?_)
  refine vd_q rfl rfl ?_; simp only [List.filter_cons, List.filter_nil, Bool.not_false, Bool.not_true, if_true, Bool.false_eq_true, if_false, go_sem, seval]
  refine vd_q rfl rfl ?_; simp only [List.filter_cons, List.filter_nil, Bool.not_false, Bool.not_true, if_true, Bool.false_eq_true, if_false, go_sem, seval]
  refine vd_q rfl rfl ?_; simp only [List.filter_cons, List.filter_nil, Bool.not_false, Bool.not_true, if_true, Bool.false_eq_true, if_false, go_sem, seval]
  refine vd_q rfl rfl ?_; simp only [List.filter_cons, List.filter_nil, Bool.not_false, Bool.not_true, if_true, Bool.false_eq_true, if_false, go_sem, seval]
  refine vd_q rfl rfl ?_; simp only [List.filter_cons, List.filter_nil, Bool.not_false, Bool.not_true, if_true, Bool.false_eq_true, if_false, go_sem, seval]
  refine vd_q rfl rfl ?_; simp only [List.filter_cons, List.filter_nil, Bool.not_false, Bool.not_true, if_true, Bool.false_eq_true, if_false, go_sem, seval]
  refine vd_q rfl rfl ?_; simp only [List.filter_cons, List.filter_nil, Bool.not_false, Bool.not_true, if_true, Bool.false_eq_true, if_false, go_sem, seval]
  refine vd_q rfl rfl ?_; simp only [List.filter_cons, List.filter_nil, Bool.not_false, Bool.not_true, if_true, Bool.false_eq_true, if_false, go_sem, seval]
  refine vd_q rfl rfl ?_; simp only [List.filter_cons, List.filter_nil, Bool.not_false, Bool.not_true, if_true, Bool.false_eq_true, if_false, go_sem, seval]
  refine vd_x rfl rfl ?_; simp only [List.filter_cons, List.filter_nil, Bool.not_false, Bool.not_true, if_true, Bool.false_eq_true, if_false, go_sem, seval]
  refine ⟨by omega, by omega, ?_⟩
  try simp only [List.filter_cons, List.filter_nil, Bool.not_false, Bool.not_true, if_true, Bool.false_eq_true, if_false, go_sem, seval]
  refine vd_q rfl rfl ?_; simp only [List.filter_cons, List.filter_nil, Bool.not_false, Bool.not_true, if_true, Bool.false_eq_true, if_false, go_sem, seval]
  refine vd_q rfl rfl ?_; simp only [List.filter_cons, List.filter_nil, Bool.not_false, Bool.not_true, if_true, Bool.false_eq_true, if_false, go_sem, seval]
  refine vd_q rfl rfl ?_; simp only [List.filter_cons, List.filter_nil, Bool.not_false, Bool.not_true, if_true, Bool.false_eq_true, if_false, go_sem, seval]
  refine vd_w rfl rfl (by kernel_rfl) ?_; simp only [List.filter_cons, List.filter_nil, Bool.not_false, Bool.not_true, if_true, Bool.false_eq_true, if_false, go_sem, seval]
  refine vd_q rfl rfl ?_; simp only [List.filter_cons, List.filter_nil, Bool.not_false, Bool.not_true, if_true, Bool.false_eq_true, if_false, go_sem, seval]
  refine vd_q rfl rfl ?_; simp only [List.filter_cons, List.filter_nil, Bool.not_false, Bool.not_true, if_true, Bool.false_eq_true, if_false, go_sem, seval]
  refine vd_q rfl rfl ?_; simp only [List.filter_cons, List.filter_nil, Bool.not_false, Bool.not_true, if_true, Bool.false_eq_true, if_false, go_sem, seval]
  refine vd_w rfl rfl (by kernel_rfl) ?_; simp only [List.filter_cons, List.filter_nil, Bool.not_false, Bool.not_true, if_true, Bool.false_eq_true, if_false, go_sem, seval]
  refine vd_nil ?_
  refine mr ?_
  have hma : List.map uav e.w ++ [AV.int .u64 0] = List.map uav (e.w ++ [0]) := by rw [List.map_append]; rfl
  refine Tr.ret ?_
  simp only [hR, hma, go_sem, seval]
  exact ⟨fun | 2 => 451 | n => n, (by repeat' (first | exact rfl | exact trivial | constructor)), rfl, fun o ho => by rcases o with _ | _ | _ <;> first | rfl | omega⟩
end Go.Proofs.YtfbfedpjahpnmaaGreatDoor

/- Engines: something is done with one. -/
set_option linter.unusedSimpArgs false
set_option maxRecDepth 10000
namespace Go.Proofs.YtfbfedpjahpnmaaGreatDoor
open Go Go.Ab

def cz0 : Ask := ⟨0, [], zroot, zroot, 0⟩
def workA (e : Eng) (b : Block) (a : Att) (c : Ask) : AV := .st [e.av, b.av, a.av, c.av]
attribute [go_sem] workA
theorem do_no (e : Eng) (b : Block) (a : Att) (c : Ask) (F : Nat) (he : e.few) (ho : e.ok) (hm : mayE e = false) : CalT Tryz.prog 0 tabV 72 [workA e b a c, .fn (.func F) [] []] (.tup [e.av, .int .i64 1]) := by
  have x1 := may_t e he ho
  rw [hm] at x1
  have d1 := own_p e he
  have c1 := d1
  have hR : Tryz.f72.results.toList = [.cell 4 38, .tmp 5] := rfl
  refine ⟨enters_of Tryz.func72 (by kernel_rfl) rfl, eff_of_tr Tryz.func72 rfl (Nat.le_of_ble_eq_true rfl) (by first | rfl | (simp only [AV.idsB, AV.idsBL, Bool.and_true, Bool.true_and] <;> rfl)) fun E hE hP => ?_⟩
  exact mX
theorem do_err (e : Eng) (b : Block) (a : Att) (c : Ask) (i : Int) (he : e.few) (ho : e.ok) (hm : mayE e = true) (hi : decide (i = 0) = false)
    (y : CalE Tryz.prog 73 [.ptr 0 [] 0] 2 (workH e b a c) (.int .i64 i) (workH e b a c)) : CalT Tryz.prog 0 tabV 72 [workA e b a c, .fn (.func 73) [] []] (.tup [e.av, .int .i64 i]) := by
  have x1 := may_t e he ho
  rw [hm] at x1
  have o1 := own_o e he
  unfold workH at y
  unfold ownV ownH at o1
  have ff := hi
  have hR : Tryz.f72.results.toList = [.cell 4 38, .tmp 5] := rfl
  refine ⟨enters_of Tryz.func72 (by kernel_rfl) rfl, eff_of_tr Tryz.func72 rfl (Nat.le_of_ble_eq_true rfl) (by first | rfl | (simp only [AV.idsB, AV.idsBL, Bool.and_true, Bool.true_and] <;> rfl)) fun E hE hP => ?_⟩
  refine mr ?_
  refine mr ?_
  refine mr ?_
  refine Tr.wk (Wk.frzH [145, 146, 147, 149, 150, 151]) ?_
  simp only [frzHP, frzA, AV.frz, AV.frzL, List.map_cons, List.map_nil, go_sem, seval]
  refine mr ?_
  refine mC ?_
  refine mC ?_
  first | apply tr_m (by rw [hE]; rfl) | (refine Tr.seq ?_; apply tr_m (by rw [hE]; rfl))
  intro Q hQ
  simp only [go_sem, seval]
  (refine vm_op ?_); intro r hr; simp only [go_sem, seval]; subst hr
  (refine vm_op ?_); intro r hr; simp only [go_sem, seval]
  refine call_eff (fun | 0 => 1 | 1 => 148 | n => n) [false] [] rfl rfl rfl rfl (enters_of Tryz.func73 (by kernel_rfl) rfl) (y.2) rfl rfl (by repeat' (first | exact rfl | exact trivial | constructor)) rfl rfl rfl ?_
  simp only [renH_nil, renH_cons, effR, go_sem, seval]
  subst hr
  (refine vm_op ?_); intro r hr; simp only [go_sem, seval]; subst hr
  exact hQ
  have c1 := own_p e he
  exact mX
theorem do_ok (e : Eng) (b : Block) (a : Att) (c : Ask) (t : List Node) (he : e.few) (ho : e.ok) (hm : mayE e = true)
    (y : CalE Tryz.prog 73 [.ptr 0 [] 0] 2 (workH e b a c) (.int .i64 0) (workO e t b a c)) : CalT Tryz.prog 0 tabV 72 [workA e b a c, .fn (.func 73) [] []] (.tup [(Eng.mk t e.b e.vl e.o (e.w ++ [0]) e.late e.k e.j e.fin e.now).av, .int .i64 0]) := by
  have x1 := may_t e he ho
  rw [hm] at x1
  have o1 := own_o e he
  unfold workH workO at y
  unfold ownV ownH at o1
  have hR : Tryz.f72.results.toList = [.cell 4 38, .tmp 5] := rfl
  refine ⟨enters_of Tryz.func72 (by kernel_rfl) rfl, eff_of_tr Tryz.func72 rfl (Nat.le_of_ble_eq_true rfl) (by first | rfl | (simp only [AV.idsB, AV.idsBL, Bool.and_true, Bool.true_and] <;> rfl)) fun E hE hP => ?_⟩
  refine mr ?_
  refine mr ?_
  refine mr ?_
  refine Tr.wk (Wk.frzH [145, 146, 147, 149, 150, 151]) ?_
  simp only [frzHP, frzA, AV.frz, AV.frzL, List.map_cons, List.map_nil, go_sem, seval]
  refine mr ?_
  refine mC ?_
  refine mC ?_
  first | apply tr_m (by rw [hE]; rfl) | (refine Tr.seq ?_; apply tr_m (by rw [hE]; rfl))
  intro Q hQ
  simp only [go_sem, seval]
  (refine vm_op ?_); intro r hr; simp only [go_sem, seval]; subst hr
  (refine vm_op ?_); intro r hr; simp only [go_sem, seval]
  refine call_eff (fun | 0 => 1 | 1 => 148 | n => n) [false] [] rfl rfl rfl rfl (enters_of Tryz.func73 (by kernel_rfl) rfl) (y.2) rfl rfl (by repeat' (first | exact rfl | exact trivial | constructor)) rfl rfl rfl ?_
  simp only [renH_nil, renH_cons, effR, go_sem, seval]
  subst hr
  (refine vm_op ?_); intro r hr; simp only [go_sem, seval]; subst hr
  exact hQ
  refine mW ?_
  have hlen : (List.map uav (e.w ++ [0])).length = e.w.length + 1 := by rw [List.length_map, List.length_append]; rfl
  refine Tr.wk (Wk.frzH [257]) ?_
  simp only [frzHP, frzA, AV.frz, AV.frzL, List.map_cons, List.map_nil, hlen, go_sem, seval]
  exact mX
def blockR (e : Eng) (b : Block) : Eng × Int :=
  if mayE e = false then (e, 1)
  else if e.now < b.slot then (e, 7)
  else if (insR e.t b).2 ≠ 0 then (e, (insR e.t b).2)
  else if aboveR (insR e.t b).1 (findR e.t e.fin.root) (((insR e.t b).1.length - 1 : Nat) : Int) = false then (e, 8)
  else (⟨(insR e.t b).1, e.b, e.vl, e.o, e.w ++ [0], e.late, e.k, e.j, e.fin, e.now⟩, 0)
theorem insR_ok {t : List Node} {b : Block} (h : (insR t b).2 = 0) : (insR t b).1 = t ++ [nodeOf t b] ∧ canB t (nodeOf t b) := by
  unfold insR at h ⊢
  split at h
  · cases h
  · rename_i h1
    rw [if_neg h1]
    split at h
    · cases h
    · rename_i h2
      rw [if_neg h2]
      split at h
      · cases h
      · rename_i h3
        rw [if_neg h3]
        split at h
        · cases h
        · rename_i h4
          rw [if_neg h4]
          split at h
          · cases h
          · rename_i h5
            rw [if_neg h5]
            rw [not_or] at h4
            have hm : mayB t = true := by simpa using h1
            have hp := (findR_range t b.parent).resolve_left (by omega)
            have hl := (may_len hm).2
            refine ⟨rfl, hm, by omega, fun hh => h2 ((find_mem hm).2 hh), ?_, ?_, ?_⟩
            · exact ⟨by show 0 ≤ findR t b.parent; omega, by show findR t b.parent < _; omega⟩
            · show b.slot ≤ _; omega
            · show (t.getD (findR t b.parent).toNat zNode).slot < b.slot; omega
theorem do_blk (e : Eng) (b : Block) (he : e.few) (ho : e.ok) : CalT Tryz.prog 0 tabV 72 [workA e b zAtt cz0, .fn (.func 73) [] []] (.tup [(blockR e b).1.av, .int .i64 (blockR e b).2]) := by
  cases hm : mayE e
  · have er : blockR e b = (e, 1) := by rw [blockR, if_pos hm]
    rw [er]
    exact do_no e b zAtt cz0 73 he ho hm
  · have h0 : ¬ mayE e = false := by rw [hm]; decide
    by_cases h1 : e.now < b.slot
    · have er : blockR e b = (e, 7) := by rw [blockR, if_neg h0, if_pos h1]
      rw [er]
      exact do_err e b zAtt cz0 7 he ho hm rfl (blk_7 e b zAtt cz0 (decide_eq_true h1))
    · have d1 : decide (e.now < b.slot) = false := decide_eq_false h1
      by_cases h2 : (insR e.t b).2 = 0
      · obtain ⟨e1, e2⟩ := insR_ok h2
        have hx : insR e.t b = ((insR e.t b).1, 0) := by rw [← h2]
        have hlen : 1 ≤ (insR e.t b).1.length ∧ (insR e.t b).1.length ≤ 1000 := by
          have := e2.2.1
          rw [e1, List.length_append, List.length_singleton]
          omega
        cases h3 : aboveR (insR e.t b).1 (findR e.t e.fin.root) (((insR e.t b).1.length - 1 : Nat) : Int)
        · have er : blockR e b = (e, 8) := by rw [blockR, if_neg h0, if_neg h1, if_neg (fun h => h h2), if_pos h3]
          rw [er]
          exact do_err e b zAtt cz0 8 he ho hm rfl (blk_8 e b zAtt cz0 he d1 _ hx hlen h3)
        · have er : blockR e b = (⟨(insR e.t b).1, e.b, e.vl, e.o, e.w ++ [0], e.late, e.k, e.j, e.fin, e.now⟩, 0) := by rw [blockR, if_neg h0, if_neg h1, if_neg (fun h => h h2), if_neg (by rw [h3]; decide)]
          rw [er]
          exact do_ok e b zAtt cz0 _ he ho hm (blk_0 e b zAtt cz0 he d1 _ hx hlen (by have := he.w; omega) h3)
      · have er : blockR e b = (e, (insR e.t b).2) := by rw [blockR, if_neg h0, if_neg h1, if_pos h2]
        rw [er]
        exact do_err e b zAtt cz0 _ he ho hm (decide_eq_false h2) (blk_e e b zAtt cz0 he d1 (decide_eq_false h2))
theorem block_t (e : Eng) (b : Block) (he : e.few) (ho : e.ok) : CalT Tryz.prog 0 tabV 30 [e.av, b.av] (.tup [(blockR e b).1.av, .int .i64 (blockR e b).2]) := by
  have x1 := do_blk e b he ho
  generalize blockR e b = X at x1
  have hR : Tryz.f30.results.toList = [.cell 4 38, .tmp 5] := rfl
  refine ⟨enters_of Tryz.func30 (by kernel_rfl) rfl, eff_of_tr Tryz.func30 rfl (Nat.le_of_ble_eq_true rfl) (by first | rfl | (simp only [AV.idsB, AV.idsBL, Bool.and_true, Bool.true_and] <;> rfl)) fun E hE hP => ?_⟩
  exact mX
end Go.Proofs.YtfbfedpjahpnmaaGreatDoor

/- The law of answers: the walk. -/
set_option linter.unusedSimpArgs false
set_option maxRecDepth 10000
namespace Go.Proofs.YtfbfedpjahpnmaaGreatDoor
open Go Go.Ab

@[go_sem] theorem build34_0 (K : AV → Prop) : buildK Tryz.prog 34 [] K = K (.root zroot) := by
  simp [buildK, Tryz.underlying34, tZero23, tSize5]
theorem bool_eqb (a b : Bool) : (AV.bool a).eqb (.bool b) = decide (a = b) := by cases a <;> cases b <;> rfl
theorem fits4 (a : Bool) : fits Tryz.prog (.bool a) 4 = true := by kernel_rfl
@[go_sem] theorem bneq4 (a b : Bool) (K : AV → Prop) : binK Tryz.prog .neq 4 (.bool a) (.bool b) K = K (.bool !(decide (a = b))) :=
  bin_neq_of (fun _ _ h => by cases h) (fun _ h => by cases h) (fits4 a) (fits4 b) (Nat.le_of_ble_eq_true rfl) (by kernel_rfl) (bool_eqb a b) K
end Go.Proofs.YtfbfedpjahpnmaaGreatDoor

/- The law of heads: the walk. -/
set_option linter.unusedSimpArgs false
set_option maxRecDepth 10000
namespace Go.Proofs.YtfbfedpjahpnmaaGreatDoor
open Go Go.Ab

def fewE (e : Eng) : Bool := decide (e.t.length ≤ 16) && (decide (e.b.length ≤ 12) && (decide (e.vl.length ≤ 12) && (decide (e.w.length ≤ 16) && (decide (e.late.length ≤ 10) && (decide (e.k.length ≤ 20) && (decide (e.j.length ≤ 24)))))))
theorem fewE_few {e : Eng} (h : fewE e = true) : e.few := by
  simp only [fewE, Bool.and_eq_true, decide_eq_true_eq] at h
  exact ⟨by omega, by omega, by omega, by omega, by omega, by omega, by omega⟩
theorem few_c (e : Eng) : Cal Tryz.prog 15 [e.av] (.bool (fewE e)) := by
  by_cases h0 : e.t.length ≤ 16
  · have e0 : decide ((e.t.length : Int) ≤ 16) = true := decide_eq_true (by omega)
    by_cases h1 : e.b.length ≤ 12
    · have e1 : decide ((e.b.length : Int) ≤ 12) = true := decide_eq_true (by omega)
      by_cases h2 : e.vl.length ≤ 12
      · have e2 : decide ((e.vl.length : Int) ≤ 12) = true := decide_eq_true (by omega)
        by_cases h3 : e.w.length ≤ 16
        · have e3 : decide ((e.w.length : Int) ≤ 16) = true := decide_eq_true (by omega)
          by_cases h4 : e.late.length ≤ 10
          · have e4 : decide ((e.late.length : Int) ≤ 10) = true := decide_eq_true (by omega)
            by_cases h5 : e.k.length ≤ 20
            · have e5 : decide ((e.k.length : Int) ≤ 20) = true := decide_eq_true (by omega)
              by_cases h6 : e.j.length ≤ 24
              · have e6 : decide ((e.j.length : Int) ≤ 24) = true := decide_eq_true (by omega)
                have er : fewE e = true := by simp [fewE, h0, h1, h2, h3, h4, h5, h6]
                have ff := And.intro e0 (And.intro e1 (And.intro e2 (And.intro e3 (And.intro e4 (And.intro e5 (And.intro e6 er))))))
                have hR : Tryz.f15.results.toList = [.tmp 2] := rfl
                refine ⟨enters_of Tryz.func15 (by kernel_rfl) rfl, pure_of_tr Tryz.func15 rfl (Nat.le_of_ble_eq_true rfl) rfl fun E hE hP => ?_⟩
                exact mX
              · have e6 : decide ((e.j.length : Int) ≤ 24) = false := decide_eq_false (by omega)
                have er : fewE e = false := by simp [fewE, h0, h1, h2, h3, h4, h5, h6]
                have ff := And.intro e0 (And.intro e1 (And.intro e2 (And.intro e3 (And.intro e4 (And.intro e5 (And.intro e6 er))))))
                have hR : Tryz.f15.results.toList = [.tmp 2] := rfl
                refine ⟨enters_of Tryz.func15 (by kernel_rfl) rfl, pure_of_tr Tryz.func15 rfl (Nat.le_of_ble_eq_true rfl) rfl fun E hE hP => ?_⟩
                exact mX
            · have e5 : decide ((e.k.length : Int) ≤ 20) = false := decide_eq_false (by omega)
              have er : fewE e = false := by simp [fewE, h0, h1, h2, h3, h4, h5]
              have ff := And.intro e0 (And.intro e1 (And.intro e2 (And.intro e3 (And.intro e4 (And.intro e5 er)))))
              have hR : Tryz.f15.results.toList = [.tmp 2] := rfl
              refine ⟨enters_of Tryz.func15 (by kernel_rfl) rfl, pure_of_tr Tryz.func15 rfl (Nat.le_of_ble_eq_true rfl) rfl fun E hE hP => ?_⟩
              exact mX
          · have e4 : decide ((e.late.length : Int) ≤ 10) = false := decide_eq_false (by omega)
            have er : fewE e = false := by simp [fewE, h0, h1, h2, h3, h4]
            have ff := And.intro e0 (And.intro e1 (And.intro e2 (And.intro e3 (And.intro e4 er))))
            have hR : Tryz.f15.results.toList = [.tmp 2] := rfl
            refine ⟨enters_of Tryz.func15 (by kernel_rfl) rfl, pure_of_tr Tryz.func15 rfl (Nat.le_of_ble_eq_true rfl) rfl fun E hE hP => ?_⟩
            exact mX
        · have e3 : decide ((e.w.length : Int) ≤ 16) = false := decide_eq_false (by omega)
          have er : fewE e = false := by simp [fewE, h0, h1, h2, h3]
          have ff := And.intro e0 (And.intro e1 (And.intro e2 (And.intro e3 er)))
          have hR : Tryz.f15.results.toList = [.tmp 2] := rfl
          refine ⟨enters_of Tryz.func15 (by kernel_rfl) rfl, pure_of_tr Tryz.func15 rfl (Nat.le_of_ble_eq_true rfl) rfl fun E hE hP => ?_⟩
          exact mX
      · have e2 : decide ((e.vl.length : Int) ≤ 12) = false := decide_eq_false (by omega)
        have er : fewE e = false := by simp [fewE, h0, h1, h2]
        have ff := And.intro e0 (And.intro e1 (And.intro e2 er))
        have hR : Tryz.f15.results.toList = [.tmp 2] := rfl
        refine ⟨enters_of Tryz.func15 (by kernel_rfl) rfl, pure_of_tr Tryz.func15 rfl (Nat.le_of_ble_eq_true rfl) rfl fun E hE hP => ?_⟩
        exact mX
    · have e1 : decide ((e.b.length : Int) ≤ 12) = false := decide_eq_false (by omega)
      have er : fewE e = false := by simp [fewE, h0, h1]
      have ff := And.intro e0 (And.intro e1 er)
      have hR : Tryz.f15.results.toList = [.tmp 2] := rfl
      refine ⟨enters_of Tryz.func15 (by kernel_rfl) rfl, pure_of_tr Tryz.func15 rfl (Nat.le_of_ble_eq_true rfl) rfl fun E hE hP => ?_⟩
      exact mX
  · have e0 : decide ((e.t.length : Int) ≤ 16) = false := decide_eq_false (by omega)
    have er : fewE e = false := by simp [fewE, h0]
    have ff := And.intro e0 er
    have hR : Tryz.f15.results.toList = [.tmp 2] := rfl
    refine ⟨enters_of Tryz.func15 (by kernel_rfl) rfl, pure_of_tr Tryz.func15 rfl (Nat.le_of_ble_eq_true rfl) rfl fun E hE hP => ?_⟩
    exact mX
end Go.Proofs.YtfbfedpjahpnmaaGreatDoor

/- The law of blocks: plain facts, the reference's equality. -/
set_option linter.unusedSimpArgs false
set_option maxRecDepth 10000
namespace Go.Proofs.YtfbfedpjahpnmaaGreatDoor
open Go Go.Ab

theorem tsame6_c (t k : List Node) (hl : t.length ≤ 1000) : Cal Tryz.prog 40 [tav t, tav k] (.bool (decide (t = k))) := by
  by_cases hlen : t.length = k.length
  · have e0 : decide ((t.length : Int) = (k.length : Int)) = true := decide_eq_true (by omega)
    have ff := e0
    have hR : Tryz.f40.results.toList = [.tmp 4] := rfl
    refine ⟨enters_of Tryz.func40 (by kernel_rfl) rfl, pure_of_tr Tryz.func40 rfl (Nat.le_of_ble_eq_true rfl) rfl fun E hE hP => ?_⟩
    refine mW ?_
    refine Tr.loop (fun i : Nat => (⟨[(2, .ptr 0 [] 0), (3, .ptr 1 [] 0), (5, .int .i64 i)], [(0, .var (tav t)), (1, .var (tav k))], 2, []⟩ : S)) (fun i => i ≤ t.length ∧ ∀ j, j < i → t.getD j zNode = k.getD j zNode) (fun i => t.length - i) 0 ⟨Nat.zero_le _, fun j hj => absurd hj (Nat.not_lt_zero j)⟩ ?_ ?_
    · refine wk_ren (fun | 1 => 16 | n => n) ?_ ?_ rfl rfl rfl
      · repeat' (first | exact rfl | exact trivial | constructor)
      · repeat' (first | exact rfl | exact trivial | constructor)
    · rintro i ⟨hi, hall⟩
      by_cases hlt : i < t.length
      · have e1 : decide ((i : Int) < (t.length : Int)) = true := decide_eq_true (by omega)
        have hn := nth_node hlt
        have hk := nth_node (t := k) (k := i) (by omega)
        have hw := wrap_next (n := i) (by omega)
        by_cases he : t.getD i zNode = k.getD i zNode
        · have hall2 : ∀ j, j < i + 1 → t.getD j zNode = k.getD j zNode := fun j hj => by
            by_cases hji : j = i
            · rw [hji]; exact he
            · exact hall j (by omega)
          have e2 : decide (t.getD i zNode = k.getD i zNode) = true := decide_eq_true he
          generalize t.getD i zNode = x at hn e2
          generalize k.getD i zNode = y at hk e2
          have ff := And.intro e1 (And.intro hn (And.intro hk (And.intro hw e2)))
          refine mW ?_
          refine ⟨i + 1, ⟨hlt, hall2⟩, by omega, ?_⟩
          exact mK
        · have e2 : decide (t.getD i zNode = k.getD i zNode) = false := decide_eq_false he
          have er : decide (t = k) = false := decide_eq_false fun h => he (by rw [h])
          rw [er]
          generalize t.getD i zNode = x at hn e2
          generalize k.getD i zNode = y at hk e2
          have ff := And.intro e1 (And.intro hn (And.intro hk e2))
          exact mX
      · have e1 : decide ((i : Int) < (t.length : Int)) = false := decide_eq_false (by omega)
        have er : decide (t = k) = true := decide_eq_true (by
          refine List.ext_getElem hlen fun j h1 h2 => ?_
          have := hall j (by omega)
          rw [getD_lt h1, getD_lt h2] at this
          exact this)
        rw [er]
        have ff := e1
        exact mX
  · have e0 : decide ((t.length : Int) = (k.length : Int)) = false := decide_eq_false (by omega)
    have er : decide (t = k) = false := decide_eq_false fun h => hlen (by rw [h])
    rw [er]
    have ff := e0
    have hR : Tryz.f40.results.toList = [.tmp 4] := rfl
    refine ⟨enters_of Tryz.func40 (by kernel_rfl) rfl, pure_of_tr Tryz.func40 rfl (Nat.le_of_ble_eq_true rfl) rfl fun E hE hP => ?_⟩
    exact mX
theorem rsame_c (s k : Snap) (hl : s.t.length ≤ 1000) : Cal Tryz.prog 16 [s.av, k.av] (.bool (decide (s.t = k.t) && decide (s.ver = k.ver) && decide (s.head = k.head) && decide (s.just = k.just) && decide (s.fin = k.fin))) := by
  have c1 := tsame6_c s.t k.t hl
  cases h0 : decide (s.t = k.t)
  · rw [h0] at c1
    simp only [Bool.false_and]
    have hR : Tryz.f16.results.toList = [.tmp 4] := rfl
    refine ⟨enters_of Tryz.func16 (by kernel_rfl) rfl, pure_of_tr Tryz.func16 rfl (Nat.le_of_ble_eq_true rfl) rfl fun E hE hP => ?_⟩
    exact mX
  rw [h0] at c1
  cases h1 : decide (s.ver = k.ver)
  · simp only [Bool.false_and, Bool.true_and, Bool.and_false, Bool.and_self]
    have ff := h1
    have hR : Tryz.f16.results.toList = [.tmp 4] := rfl
    refine ⟨enters_of Tryz.func16 (by kernel_rfl) rfl, pure_of_tr Tryz.func16 rfl (Nat.le_of_ble_eq_true rfl) rfl fun E hE hP => ?_⟩
    exact mX
  cases h2 : decide (s.head = k.head)
  · simp only [Bool.false_and, Bool.true_and, Bool.and_false, Bool.and_self]
    have ff := And.intro h1 h2
    have hR : Tryz.f16.results.toList = [.tmp 4] := rfl
    refine ⟨enters_of Tryz.func16 (by kernel_rfl) rfl, pure_of_tr Tryz.func16 rfl (Nat.le_of_ble_eq_true rfl) rfl fun E hE hP => ?_⟩
    exact mX
  cases h3 : decide (s.just = k.just)
  · simp only [Bool.false_and, Bool.true_and, Bool.and_false, Bool.and_self]
    have ff := And.intro h1 (And.intro h2 h3)
    have hR : Tryz.f16.results.toList = [.tmp 4] := rfl
    refine ⟨enters_of Tryz.func16 (by kernel_rfl) rfl, pure_of_tr Tryz.func16 rfl (Nat.le_of_ble_eq_true rfl) rfl fun E hE hP => ?_⟩
    exact mX
  cases h4 : decide (s.fin = k.fin)
  · simp only [Bool.false_and, Bool.true_and, Bool.and_false, Bool.and_self]
    have ff := And.intro h1 (And.intro h2 (And.intro h3 h4))
    have hR : Tryz.f16.results.toList = [.tmp 4] := rfl
    refine ⟨enters_of Tryz.func16 (by kernel_rfl) rfl, pure_of_tr Tryz.func16 rfl (Nat.le_of_ble_eq_true rfl) rfl fun E hE hP => ?_⟩
    exact mX
  simp only [Bool.and_self]
  have ff := And.intro h1 (And.intro h2 (And.intro h3 h4))
  have hR : Tryz.f16.results.toList = [.tmp 4] := rfl
  refine ⟨enters_of Tryz.func16 (by kernel_rfl) rfl, pure_of_tr Tryz.func16 rfl (Nat.le_of_ble_eq_true rfl) rfl fun E hE hP => ?_⟩
  exact mX
end Go.Proofs.YtfbfedpjahpnmaaGreatDoor

/- The law of blocks. -/
set_option linter.unusedSimpArgs false
set_option maxRecDepth 10000
namespace Go.Proofs.YtfbfedpjahpnmaaGreatDoor
open Go Go.Ab

section
variable {t : List Node} {n : Node}
theorem atN_app (hm : mayB t = true) (s : Int) : ∀ (m : Nat) (a : Int), (a = -1 ∨ (0 ≤ a ∧ a < t.length)) → atN (t ++ [n]) s m a = atN t s m a
  | 0, _, _ => rfl
  | m + 1, a, h => by
    simp only [atN]
    split
    · rfl
    · rename_i h1
      have h2 := h.resolve_left h1
      have hs : slotI (t ++ [n]) a = slotI t a := by
        unfold slotI
        rw [getD_app (by omega)]
      rw [hs]
      split
      · rfl
      · rw [par_app h2.1 h2.2, atN_app hm s m]
        rcases par_range hm h2.1 h2.2 with h3 | h3
        · exact .inl h3
        · exact .inr ⟨h3.1, by omega⟩
theorem at_app (h : canB t n) {a s : Int} (h0 : 0 ≤ a) (h1 : a < t.length) : atR (t ++ [n]) a s = atR t a s := by
  rw [atR_in (can_may h) h0 (by rw [List.length_append, List.length_singleton]; omega), atR_in h.1 h0 h1]
  exact atN_app h.1 s _ a (.inr ⟨h0, h1⟩)
end
theorem head_may {e : Eng} (h : mayE e = true) (ver : Int) : smayR (ofR e ver) = true := by
  obtain ⟨p1, p2, p3, p4⟩ := head_law h
  have er : ofR e ver = ⟨ver, e.t, (e.t.getD (headE e).toNat zNode).root, justE e, e.fin⟩ := by rw [ofR, h]; rfl
  rw [er]
  unfold smayR
  simp only
  rw [p1, show findR e.t e.fin.root = finE e from rfl, p2, p3]
  rfl
theorem just_put {e : Eng} {n : Node} (h : mayE e = true) (hc : canB e.t n) : justE (putE e n) = justE e := by
  obtain ⟨hj, _, _, hf⟩ := other_roots h hc
  exact foldl_best_app hc e.fin hf e.j e.fin hj
theorem ask_put {e : Eng} {n : Node} (h : mayE e = true) (hc : canB e.t n) {c : Ask} (h5 : c.kind ≠ 5) (ha : c.a ≠ n.root) (hb : c.b ≠ n.root) : askR (ofR (putE e n) 1) c = askR (ofR e 1) c := by
  have h2 := may_put h hc
  have s1 := head_may h 1
  have s2 := head_may h2 1
  have er : ofR e 1 = ⟨1, e.t, (e.t.getD (headE e).toNat zNode).root, justE e, e.fin⟩ := by rw [ofR, h]; rfl
  have er2 : ofR (putE e n) 1 = ⟨1, e.t ++ [n], ((e.t ++ [n]).getD (headE (putE e n)).toNat zNode).root, justE (putE e n), e.fin⟩ := by rw [ofR, h2]; rfl
  unfold askR
  rw [s1, s2, if_pos rfl, if_pos rfl, if_neg h5, if_neg h5]
  rw [er, er2]
  simp only
  have fa : findR (e.t ++ [n]) c.a = findR e.t c.a := by rw [find_app hc, if_neg (fun hh => ha hh.symm)]
  have fb : findR (e.t ++ [n]) c.b = findR e.t c.b := by rw [find_app hc, if_neg (fun hh => hb hh.symm)]
  rw [fa, fb]
  have ra := findR_range e.t c.a
  have rb := findR_range e.t c.b
  have hl := may_len hc.1
  have k3 : ∀ (H1 H2 : Root) (J1 J2 : Check), ans3R ⟨1, e.t ++ [n], H1, J1, e.fin⟩ (findR e.t c.a) c.slot = ans3R ⟨1, e.t, H2, J2, e.fin⟩ (findR e.t c.a) c.slot := fun H1 H2 J1 J2 => by
    unfold ans3R
    by_cases hn : findR e.t c.a < 0
    · rw [if_pos hn, if_pos hn]
    · rw [if_neg hn, if_neg hn]
      simp only
      rw [at_app hc (by omega) (by omega)]
      by_cases hx : atR e.t (findR e.t c.a) c.slot < 0
      · rw [if_pos hx, if_pos hx]
      · rw [if_neg hx, if_neg hx, getD_app (by have := atR_lt e.t (findR e.t c.a) c.slot; omega)]
  have k4 : ∀ (H1 H2 : Root) (J1 J2 : Check), ans4R ⟨1, e.t ++ [n], H1, J1, e.fin⟩ (findR e.t c.a) (findR e.t c.b) = ans4R ⟨1, e.t, H2, J2, e.fin⟩ (findR e.t c.a) (findR e.t c.b) := fun H1 H2 J1 J2 => by
    unfold ans4R
    simp only
    rw [above_app hc (by omega) (by omega)]
  rw [k3 _ (e.t.getD (headE e).toNat zNode).root _ (justE e), k4 _ (e.t.getD (headE e).toNat zNode).root _ (justE e)]
theorem blockR_ok {e : Eng} {b : Block} (h : (blockR e b).2 = 0) : mayE e = true ∧ b.slot ≤ e.now ∧ canB e.t (nodeOf e.t b) ∧ (blockR e b).1 = putE e (nodeOf e.t b) ∧ aboveR (e.t ++ [nodeOf e.t b]) (findR e.t e.fin.root) (e.t.length : Int) = true := by
  unfold blockR at h ⊢
  split at h
  · cases h
  · rename_i h1
    rw [if_neg h1]
    split at h
    · cases h
    · rename_i h2
      rw [if_neg h2]
      split at h
      · rename_i h3; exact absurd h h3
      · rename_i h3
        rw [if_neg h3]
        obtain ⟨e1, e2⟩ := insR_ok (Classical.not_not.1 h3)
        split at h
        · cases h
        · rename_i h4
          rw [if_neg h4]
          rw [e1, List.length_append, List.length_singleton] at h4
          refine ⟨by simpa using h1, by omega, e2, ?_, ?_⟩
          · rw [e1]; rfl
          · simpa using h4
theorem blockR_err {e : Eng} {b : Block} (h : (blockR e b).2 ≠ 0) : (blockR e b).1 = e := by
  unfold blockR at h ⊢
  split at h
  · rename_i h1; rw [if_pos h1]
  · rename_i h1
    rw [if_neg h1]
    split at h
    · rename_i h2; rw [if_pos h2]
    · rename_i h2
      rw [if_neg h2]
      split at h
      · rename_i h3; rw [if_pos h3]
      · rename_i h3
        rw [if_neg h3]
        split at h
        · rename_i h4; rw [if_pos h4]
        · exact absurd rfl h
theorem blockLaw_no (e : Eng) (ho : e.ok) (b : Block) (c : Ask) (h : fewE e = false ∨ (fewE e = true ∧ mayE e = false)) : CalT Tryz.prog 0 tabV 7 [e.av, b.av, c.av] (.bool true) := by
  have x1 := awake_t
  have c1 := few_c e
  rcases h with h | ⟨h1, h2⟩
  · rw [h] at c1
    have hR : Tryz.f7.results.toList = [.tmp 6] := rfl
    refine ⟨enters_of Tryz.func7 (by kernel_rfl) rfl, eff_of_tr Tryz.func7 rfl (Nat.le_of_ble_eq_true rfl) (by first | rfl | (simp only [AV.idsB, AV.idsBL, Bool.and_true, Bool.true_and] <;> rfl)) fun E hE hP => ?_⟩
    exact mX
  · have x2 := may_t e (fewE_few h1) ho
    rw [h1] at c1
    rw [h2] at x2
    have hR : Tryz.f7.results.toList = [.tmp 6] := rfl
    refine ⟨enters_of Tryz.func7 (by kernel_rfl) rfl, eff_of_tr Tryz.func7 rfl (Nat.le_of_ble_eq_true rfl) (by first | rfl | (simp only [AV.idsB, AV.idsBL, Bool.and_true, Bool.true_and] <;> rfl)) fun E hE hP => ?_⟩
    exact mX
theorem blockLaw_err (e : Eng) (ho : e.ok) (b : Block) (c : Ask) (h1 : fewE e = true) (h2 : mayE e = true) (h3 : (blockR e b).2 ≠ 0) : CalT Tryz.prog 0 tabV 7 [e.av, b.av, c.av] (.bool true) := by
  have he := fewE_few h1
  have x1 := awake_t
  have c1 := few_c e
  rw [h1] at c1
  have x2 := may_t e he ho
  rw [h2] at x2
  have x3 := block_t e b he ho
  rw [blockR_err h3] at x3
  have x4 := of_t e he ho 1
  have hlen : (ofR e 1).t.length ≤ 1000 := by
    have er : ofR e 1 = ⟨1, e.t, (e.t.getD (headE e).toNat zNode).root, justE e, e.fin⟩ := by rw [ofR, h2]; rfl
    rw [er]
    have := he.t
    show e.t.length ≤ 1000
    omega
  have c2 := rsame_c (ofR e 1) (ofR e 1) hlen
  simp only [decide_true, Bool.and_self] at c2
  have e1 : decide ((blockR e b).2 = 0) = false := decide_eq_false h3
  generalize (blockR e b).2 = i at x3 e1
  generalize ofR e 1 = S at x4 c2
  have ff := e1
  have hR : Tryz.f7.results.toList = [.tmp 6] := rfl
  refine ⟨enters_of Tryz.func7 (by kernel_rfl) rfl, eff_of_tr Tryz.func7 rfl (Nat.le_of_ble_eq_true rfl) (by first | rfl | (simp only [AV.idsB, AV.idsBL, Bool.and_true, Bool.true_and] <;> rfl)) fun E hE hP => ?_⟩
  exact mX
theorem put_few {e : Eng} (h : fewE e = true) (n : Node) : (putE e n).few := by
  simp only [fewE, Bool.and_eq_true, decide_eq_true_eq] at h
  refine ⟨?_, by show e.b.length ≤ 100; omega, by show e.vl.length ≤ 100; omega, ?_, by show e.late.length ≤ 100; omega, by show e.k.length ≤ 40; omega, by show e.j.length ≤ 40; omega⟩
  · show (e.t ++ [n]).length ≤ 100
    rw [List.length_append, List.length_singleton]
    omega
  · show (e.w ++ [0]).length ≤ 100
    rw [List.length_append, List.length_singleton]
    omega
theorem put_ok {e : Eng} (h : e.ok) (n : Node) : (putE e n).ok := ⟨h.b, h.kL, h.kC⟩
set_option maxHeartbeats 2000000 in
theorem blockLaw_w (e f : Eng) (b : Block) (c : Ask) (J : Check) (H1 H2 : Root) (T : List Node) (B : Bool) (A1 A2 : Resp) (x2 : CalT Tryz.prog 0 tabV 25 [e.av] (.bool true)) (x3 : CalT Tryz.prog 0 tabV 30 [e.av, b.av] (.tup [f.av, .int .i64 0]))
    (x4 : CalT Tryz.prog 0 tabV 17 [e.av, .int .i64 1] (Snap.mk 1 e.t H1 J e.fin).av) (x5 : CalT Tryz.prog 0 tabV 17 [f.av, .int .i64 1] (Snap.mk 1 T H2 J e.fin).av) (c1 : Cal Tryz.prog 15 [e.av] (.bool true)) (c2 : Cal Tryz.prog 16 [(Snap.mk 1 e.t H1 J e.fin).av, (Snap.mk 1 T H2 J e.fin).av] (.bool B))
    (c3 : Cal Tryz.prog 22 [(Snap.mk 1 e.t H1 J e.fin).av, c.av] A1.av) (c4 : Cal Tryz.prog 22 [(Snap.mk 1 T H2 J e.fin).av, c.av] A2.av)
    (h : (decide (c.kind = 5) || (decide (c.a = b.root) || decide (c.b = b.root))) = true ∨ A1 = A2) : CalT Tryz.prog 0 tabV 7 [e.av, b.av, c.av] (.bool true) := by
  have x1 := awake_t
  have e1 : decide (J = J) = true := decide_eq_true rfl
  have e2 : decide (e.fin = e.fin) = true := decide_eq_true rfl
  rcases Bool.eq_false_or_eq_true (decide (c.kind = 5)) with g1 | g1
  · have ff := And.intro e1 (And.intro e2 g1)
    have hR : Tryz.f7.results.toList = [.tmp 6] := rfl
    refine ⟨enters_of Tryz.func7 (by kernel_rfl) rfl, eff_of_tr Tryz.func7 rfl (Nat.le_of_ble_eq_true rfl) (by first | rfl | (simp only [AV.idsB, AV.idsBL, Bool.and_true, Bool.true_and] <;> rfl)) fun E hE hP => ?_⟩
    exact mX
  rcases Bool.eq_false_or_eq_true (decide (c.a = b.root)) with g2 | g2
  · have ff := And.intro e1 (And.intro e2 (And.intro g1 g2))
    have hR : Tryz.f7.results.toList = [.tmp 6] := rfl
    refine ⟨enters_of Tryz.func7 (by kernel_rfl) rfl, eff_of_tr Tryz.func7 rfl (Nat.le_of_ble_eq_true rfl) (by first | rfl | (simp only [AV.idsB, AV.idsBL, Bool.and_true, Bool.true_and] <;> rfl)) fun E hE hP => ?_⟩
    exact mX
  rcases Bool.eq_false_or_eq_true (decide (c.b = b.root)) with g3 | g3
  · have ff := And.intro e1 (And.intro e2 (And.intro g1 (And.intro g2 g3)))
    have hR : Tryz.f7.results.toList = [.tmp 6] := rfl
    refine ⟨enters_of Tryz.func7 (by kernel_rfl) rfl, eff_of_tr Tryz.func7 rfl (Nat.le_of_ble_eq_true rfl) (by first | rfl | (simp only [AV.idsB, AV.idsBL, Bool.and_true, Bool.true_and] <;> rfl)) fun E hE hP => ?_⟩
    exact mX
  have hA : A1 = A2 := h.resolve_left (by rw [g1, g2, g3]; decide)
  subst hA
  have e3 : decide (A1 = A1) = true := decide_eq_true rfl
  have ff := And.intro e1 (And.intro e2 (And.intro g1 (And.intro g2 (And.intro g3 e3))))
  have hR : Tryz.f7.results.toList = [.tmp 6] := rfl
  refine ⟨enters_of Tryz.func7 (by kernel_rfl) rfl, eff_of_tr Tryz.func7 rfl (Nat.le_of_ble_eq_true rfl) (by first | rfl | (simp only [AV.idsB, AV.idsBL, Bool.and_true, Bool.true_and] <;> rfl)) fun E hE hP => ?_⟩
  exact mX
theorem blockLaw_t (e : Eng) (ho : e.ok) (b : Block) (c : Ask) : CalT Tryz.prog 0 tabV 7 [e.av, b.av, c.av] (.bool true) := by
  cases h1 : fewE e
  · exact blockLaw_no e ho b c (.inl h1)
  cases h2 : mayE e
  · exact blockLaw_no e ho b c (.inr ⟨h1, h2⟩)
  by_cases h3 : (blockR e b).2 = 0
  · obtain ⟨_, _, hc, hf, _⟩ := blockR_ok h3
    have he := fewE_few h1
    have c1 := few_c e
    rw [h1] at c1
    have x2 := may_t e he ho
    rw [h2] at x2
    have x3 := block_t e b he ho
    rw [h3, hf] at x3
    have x4 := of_t e he ho 1
    have x5 := of_t (putE e (nodeOf e.t b)) (put_few h1 _) (put_ok ho _) 1
    have hm2 := may_put h2 hc
    have er : ofR e 1 = ⟨1, e.t, (e.t.getD (headE e).toNat zNode).root, justE e, e.fin⟩ := by rw [ofR, h2]; rfl
    have er2 : ofR (putE e (nodeOf e.t b)) 1 = ⟨1, e.t ++ [nodeOf e.t b], ((e.t ++ [nodeOf e.t b]).getD (headE (putE e (nodeOf e.t b))).toNat zNode).root, justE e, e.fin⟩ := by
      rw [ofR, hm2, ← just_put h2 hc]
      rfl
    have c2 := rsame_c (ofR e 1) (ofR (putE e (nodeOf e.t b)) 1) (by rw [er]; have := he.t; show e.t.length ≤ 1000; omega)
    have c3 := ask_c (ofR e 1) c
    have c4 := ask_c (ofR (putE e (nodeOf e.t b)) 1) c
    have hA : (decide (c.kind = 5) || (decide (c.a = b.root) || decide (c.b = b.root))) = true ∨ askR (ofR e 1) c = askR (ofR (putE e (nodeOf e.t b)) 1) c := by
      by_cases g1 : c.kind = 5
      · exact .inl (by rw [decide_eq_true g1]; rfl)
      · by_cases g2 : c.a = b.root
        · exact .inl (by rw [decide_eq_true g2, Bool.true_or, Bool.or_true])
        · by_cases g3 : c.b = b.root
          · exact .inl (by rw [decide_eq_true g3, Bool.or_true, Bool.or_true])
          · exact .inr (ask_put h2 hc g1 g2 g3).symm
    rw [er] at x4
    rw [er2] at x5
    generalize askR (ofR e 1) c = A1 at c3 hA
    generalize askR (ofR (putE e (nodeOf e.t b)) 1) c = A2 at c4 hA
    rw [er, er2] at c2
    rw [er] at c3
    rw [er2] at c4
    exact blockLaw_w e (putE e (nodeOf e.t b)) b c _ _ _ _ _ A1 A2 x2 x3 x4 x5 c1 c2 c3 c4 hA
  · exact blockLaw_err e ho b c h1 h2 h3
end Go.Proofs.YtfbfedpjahpnmaaGreatDoor
