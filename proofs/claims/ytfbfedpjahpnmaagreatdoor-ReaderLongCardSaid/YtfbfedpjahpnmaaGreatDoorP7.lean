/- Readers: one step up. -/
import Derived.Test.YtfbfedpjahpnmaaGreatDoorP6
set_option linter.unusedSimpArgs false
set_option maxRecDepth 10000
namespace Go.Proofs.YtfbfedpjahpnmaaGreatDoor
open Go Go.Ab

def rwav (s : Snap) (r : Rdr) : AV := .st [s.av, r.av]
attribute [go_sem] rwav
def ancS (n : Node) (r : Rdr) : Int × Rdr :=
  if n.slot ≤ r.c.slot then (2, ⟨r.c, r.pc, r.pos, r.done, ⟨r.r.e, n.root, r.r.is, r.r.c⟩⟩)
  else if n.parent = -1 then (1, ⟨r.c, r.pc, r.pos, r.done, ⟨8, r.r.r, r.r.is, r.r.c⟩⟩)
  else (0, ⟨r.c, r.pc, n.parent, r.done, r.r⟩)
theorem anc_e (s : Snap) (r : Rdr) (n : Node) (hnd : nth (s.t.map Node.av) r.pos = some n.av) : CalE Tryz.prog 178 [.ptr 0 [] 0] 1 [(0, .var (rwav s r))] (.int .i64 (ancS n r).1) [(0, .var (rwav s (ancS n r).2))] := by
  rcases Bool.eq_false_or_eq_true (decide (n.slot ≤ r.c.slot)) with g1 | g1
  · have er : ancS n r = (2, ⟨r.c, r.pc, r.pos, r.done, ⟨r.r.e, n.root, r.r.is, r.r.c⟩⟩) := by rw [ancS, if_pos (of_decide_eq_true g1)]
    rw [er]
    have ff := And.intro hnd g1
    have hR : Tryz.f178.results.toList = [.tmp 2] := rfl
    refine ⟨enters_of Tryz.func178 (by kernel_rfl) rfl, eff_of_tr Tryz.func178 rfl (Nat.le_of_ble_eq_true rfl) (by first | rfl | (simp only [AV.idsB, AV.idsBL, Bool.and_true, Bool.true_and] <;> rfl)) fun E hE hP => ?_⟩
    exact mX
  · rcases Bool.eq_false_or_eq_true (decide (n.parent = -1)) with g2 | g2
    · have er : ancS n r = (1, ⟨r.c, r.pc, r.pos, r.done, ⟨8, r.r.r, r.r.is, r.r.c⟩⟩) := by rw [ancS, if_neg (of_decide_eq_false g1), if_pos (of_decide_eq_true g2)]
      rw [er]
      have ff := And.intro hnd (And.intro g1 g2)
      have hR : Tryz.f178.results.toList = [.tmp 2] := rfl
      refine ⟨enters_of Tryz.func178 (by kernel_rfl) rfl, eff_of_tr Tryz.func178 rfl (Nat.le_of_ble_eq_true rfl) (by first | rfl | (simp only [AV.idsB, AV.idsBL, Bool.and_true, Bool.true_and] <;> rfl)) fun E hE hP => ?_⟩
      exact mX
    · have er : ancS n r = (0, ⟨r.c, r.pc, n.parent, r.done, r.r⟩) := by rw [ancS, if_neg (of_decide_eq_false g1), if_neg (of_decide_eq_false g2)]
      rw [er]
      have ff := And.intro hnd (And.intro g1 g2)
      have hR : Tryz.f178.results.toList = [.tmp 2] := rfl
      refine ⟨enters_of Tryz.func178 (by kernel_rfl) rfl, eff_of_tr Tryz.func178 rfl (Nat.le_of_ble_eq_true rfl) (by first | rfl | (simp only [AV.idsB, AV.idsBL, Bool.and_true, Bool.true_and] <;> rfl)) fun E hE hP => ?_⟩
      exact mX
def descS (n : Node) (r : Rdr) : Int × Rdr :=
  if n.root = r.c.a then (2, ⟨r.c, r.pc, r.pos, r.done, ⟨r.r.e, r.r.r, true, r.r.c⟩⟩)
  else if n.parent = -1 then (2, ⟨r.c, r.pc, r.pos, r.done, ⟨r.r.e, r.r.r, false, r.r.c⟩⟩)
  else (0, ⟨r.c, r.pc, n.parent, r.done, ⟨r.r.e, r.r.r, false, r.r.c⟩⟩)
theorem desc_e (s : Snap) (r : Rdr) (n : Node) (hnd : nth (s.t.map Node.av) r.pos = some n.av) : CalE Tryz.prog 179 [.ptr 0 [] 0] 1 [(0, .var (rwav s r))] (.int .i64 (descS n r).1) [(0, .var (rwav s (descS n r).2))] := by
  rcases Bool.eq_false_or_eq_true (decide (n.root = r.c.a)) with g1 | g1
  · have er : descS n r = (2, ⟨r.c, r.pc, r.pos, r.done, ⟨r.r.e, r.r.r, true, r.r.c⟩⟩) := by rw [descS, if_pos (of_decide_eq_true g1)]
    rw [er]
    have ff := And.intro hnd g1
    have hR : Tryz.f179.results.toList = [.tmp 2] := rfl
    refine ⟨enters_of Tryz.func179 (by kernel_rfl) rfl, eff_of_tr Tryz.func179 rfl (Nat.le_of_ble_eq_true rfl) (by first | rfl | (simp only [AV.idsB, AV.idsBL, Bool.and_true, Bool.true_and] <;> rfl)) fun E hE hP => ?_⟩
    refine mW ?_
    first | refine tr_seq_drawn mixed _ (keepAll _) (by rw [hE]; rfl) (by kernel_rfl) ?_ | (refine Tr.seq ?_; refine tr_seq_drawn mixed _ (keepAll _) (by rw [hE]; rfl) (by kernel_rfl) ?_)
    simp only [List.map_cons, List.map_nil]
    refine vd_q rfl rfl ?_; simp only [g1, go_sem, seval]
    refine vd_q rfl rfl ?_; simp only [g1, go_sem, seval]
    refine vd_q rfl rfl ?_; simp only [g1, go_sem, seval]
    refine vd_q rfl rfl ?_; simp only [g1, go_sem, seval]
    refine vd_q rfl rfl ?_; simp only [g1, go_sem, seval]
    refine vd_q rfl rfl ?_; simp only [g1, go_sem, seval]
    refine vd_q rfl rfl ?_; simp only [g1, go_sem, seval]
    refine vd_q rfl rfl ?_; simp only [g1, go_sem, seval]
    refine vd_q rfl rfl ?_; simp only [g1, go_sem, seval]
    refine vd_q rfl rfl ?_; simp only [g1, go_sem, seval]
    refine vd_q rfl rfl ?_; simp only [g1, go_sem, seval]
    refine vd_q rfl rfl ?_; simp only [g1, go_sem, seval]
    refine vd_q rfl rfl ?_; simp only [g1, go_sem, seval]
    refine vd_q rfl rfl ?_; simp only [g1, go_sem, seval]
    refine vd_w rfl rfl (by kernel_rfl) ?_; simp only [g1, go_sem, seval]
    refine vd_nil ?_
    exact mX
  · rcases Bool.eq_false_or_eq_true (decide (n.parent = -1)) with g2 | g2
    · have er : descS n r = (2, ⟨r.c, r.pc, r.pos, r.done, ⟨r.r.e, r.r.r, false, r.r.c⟩⟩) := by rw [descS, if_neg (of_decide_eq_false g1), if_pos (of_decide_eq_true g2)]
      rw [er]
      have ff := And.intro hnd (And.intro g1 g2)
      have hR : Tryz.f179.results.toList = [.tmp 2] := rfl
      refine ⟨enters_of Tryz.func179 (by kernel_rfl) rfl, eff_of_tr Tryz.func179 rfl (Nat.le_of_ble_eq_true rfl) (by first | rfl | (simp only [AV.idsB, AV.idsBL, Bool.and_true, Bool.true_and] <;> rfl)) fun E hE hP => ?_⟩
      refine mW ?_
      first | refine tr_seq_drawn mixed _ (keepAll _) (by rw [hE]; rfl) (by kernel_rfl) ?_ | (refine Tr.seq ?_; refine tr_seq_drawn mixed _ (keepAll _) (by rw [hE]; rfl) (by kernel_rfl) ?_)
      simp only [List.map_cons, List.map_nil]
      refine vd_q rfl rfl ?_; simp only [g1, go_sem, seval]
      refine vd_q rfl rfl ?_; simp only [g1, go_sem, seval]
      refine vd_q rfl rfl ?_; simp only [g1, go_sem, seval]
      refine vd_q rfl rfl ?_; simp only [g1, go_sem, seval]
      refine vd_q rfl rfl ?_; simp only [g1, go_sem, seval]
      refine vd_q rfl rfl ?_; simp only [g1, go_sem, seval]
      refine vd_q rfl rfl ?_; simp only [g1, go_sem, seval]
      refine vd_q rfl rfl ?_; simp only [g1, go_sem, seval]
      refine vd_q rfl rfl ?_; simp only [g1, go_sem, seval]
      refine vd_q rfl rfl ?_; simp only [g1, go_sem, seval]
      refine vd_q rfl rfl ?_; simp only [g1, go_sem, seval]
      refine vd_q rfl rfl ?_; simp only [g1, go_sem, seval]
      refine vd_q rfl rfl ?_; simp only [g1, go_sem, seval]
      refine vd_q rfl rfl ?_; simp only [g1, go_sem, seval]
      refine vd_w rfl rfl (by kernel_rfl) ?_; simp only [g1, go_sem, seval]
      refine vd_nil ?_
      exact mX
    · have er : descS n r = (0, ⟨r.c, r.pc, n.parent, r.done, ⟨r.r.e, r.r.r, false, r.r.c⟩⟩) := by rw [descS, if_neg (of_decide_eq_false g1), if_neg (of_decide_eq_false g2)]
      rw [er]
      have ff := And.intro hnd (And.intro g1 g2)
      have hR : Tryz.f179.results.toList = [.tmp 2] := rfl
      refine ⟨enters_of Tryz.func179 (by kernel_rfl) rfl, eff_of_tr Tryz.func179 rfl (Nat.le_of_ble_eq_true rfl) (by first | rfl | (simp only [AV.idsB, AV.idsBL, Bool.and_true, Bool.true_and] <;> rfl)) fun E hE hP => ?_⟩
      refine mW ?_
      first | refine tr_seq_drawn mixed _ (keepAll _) (by rw [hE]; rfl) (by kernel_rfl) ?_ | (refine Tr.seq ?_; refine tr_seq_drawn mixed _ (keepAll _) (by rw [hE]; rfl) (by kernel_rfl) ?_)
      simp only [List.map_cons, List.map_nil]
      refine vd_q rfl rfl ?_; simp only [g1, go_sem, seval]
      refine vd_q rfl rfl ?_; simp only [g1, go_sem, seval]
      refine vd_q rfl rfl ?_; simp only [g1, go_sem, seval]
      refine vd_q rfl rfl ?_; simp only [g1, go_sem, seval]
      refine vd_q rfl rfl ?_; simp only [g1, go_sem, seval]
      refine vd_q rfl rfl ?_; simp only [g1, go_sem, seval]
      refine vd_q rfl rfl ?_; simp only [g1, go_sem, seval]
      refine vd_q rfl rfl ?_; simp only [g1, go_sem, seval]
      refine vd_q rfl rfl ?_; simp only [g1, go_sem, seval]
      refine vd_q rfl rfl ?_; simp only [g1, go_sem, seval]
      refine vd_q rfl rfl ?_; simp only [g1, go_sem, seval]
      refine vd_q rfl rfl ?_; simp only [g1, go_sem, seval]
      refine vd_q rfl rfl ?_; simp only [g1, go_sem, seval]
      refine vd_q rfl rfl ?_; simp only [g1, go_sem, seval]
      refine vd_w rfl rfl (by kernel_rfl) ?_; simp only [g1, go_sem, seval]
      refine vd_nil ?_
      exact mX
def waysE : List (AV × AV) := [(.int .i64 6, .fn (.func 178) [] []), (.int .i64 7, .fn (.func 179) [] [])]
theorem tMap185 : tMap Tryz.prog 185 = some (3, 183) := by kernel_rfl
theorem tZero183 : tZero Tryz.prog 183 = some .nilf := by kernel_rfl
theorem upd185 {hp : HP} {o : Nat} {es : List (AV × AV)} {k : Int} {y : AV} {K : AV → HP → Prop} (hg : HP.get hp o = some (.amap es)) (hk : (es.all fun e => isI e.1) = true) (hn : (es.findIdx? fun e => (AV.int .i64 k).eqb e.1) = none)
    (h1 : y.ok = true) (h2 : y.idf = true) (h : K (.tup []) (HP.set hp o (.amap (es ++ [(.int .i64 k, y)])))) : mapUpdateK Tryz.prog 185 hp (.mp o) (.int .i64 k) y K := by
  simp only [mapUpdateK, tMap185, hg]
  refine ⟨fits3 k, Nat.le_of_ble_eq_true rfl, keysI hk, h1, h2, ?_⟩
  unfold setE
  rw [hn]
  exact h
theorem look185 {hp : HP} {o : Nat} {es : List (AV × AV)} {k : Int} {K : AV → Prop} (hg : HP.get hp o = some (.amap es)) (hk : (es.all fun e => isI e.1) = true) (h : K (.tup [(foundE (.int .i64 k) es).getD .nilf, .bool (foundE (.int .i64 k) es).isSome])) :
    lookupK Tryz.prog 185 hp (.mp o) (.int .i64 k) true K := by
  simp only [lookupK, tMap185, tZero183, hg, if_true]
  exact ⟨fits3 k, Nat.le_of_ble_eq_true rfl, keysI hk, h⟩
theorem ways_o : CalO Tryz.prog 132 [] (.mp 0) [(0, .amap waysE)] := by
  have hR : Tryz.f132.results.toList = [.tmp 0] := rfl
  refine ⟨enters_of Tryz.func132 (by kernel_rfl) rfl, own_of_tr Tryz.func132 rfl (Nat.le_of_ble_eq_true rfl) rfl fun E hE hP => ?_⟩
  refine mr ?_
  first | apply tr_m (by rw [hE]; rfl) | (refine Tr.seq ?_; apply tr_m (by rw [hE]; rfl))
  intro Q hQ
  simp only [go_sem, seval]
  (refine vm_op ?_); intro r hr; simp only [go_sem, seval]; subst hr
  (refine vm_op ?_); intro r hr; simp only [go_sem, seval]
  refine upd185 rfl rfl rfl rfl rfl ?_
  try simp only [go_sem, seval]
  subst hr
  (refine vm_op ?_); intro r hr; simp only [go_sem, seval]
  refine upd185 rfl rfl rfl rfl rfl ?_
  try simp only [go_sem, seval]
  subst hr
  iterate 2 ((refine vm_op ?_); intro r hr; simp only [go_sem, seval]; subst hr)
  exact hQ
  refine Tr.wk (s' := ⟨[(0, .mp 0)], [(0, .amap waysE)], 1, []⟩) ?_ ?_
  · refine wk_ren (fun | 0 => 16 | n => n) ?_ ?_ rfl rfl rfl
    · repeat' (first | exact rfl | exact trivial | constructor)
    · repeat' (first | exact rfl | exact trivial | constructor)
  refine Tr.ret ?_
  simp only [hR, go_sem, seval]
  exact ⟨fun n => n, rfl, (by repeat' (first | exact rfl | exact trivial | constructor)), rfl⟩
end Go.Proofs.YtfbfedpjahpnmaaGreatDoor

/- Readers: the first step. -/
set_option linter.unusedSimpArgs false
set_option maxRecDepth 10000
namespace Go.Proofs.YtfbfedpjahpnmaaGreatDoor
open Go Go.Ab

theorem first_1 (s : Snap) (r : Rdr) (h : decide (r.c.kind = 7) = false) : CalE Tryz.prog 133 [.ptr 0 [] 0] 1 [(0, .var (rwav s r))] (.sl [.root r.c.a] false) [(0, .var (rwav s r))] := by
  have ff := h
  have hR : Tryz.f133.results.toList = [.tmp 2] := rfl
  refine ⟨enters_of Tryz.func133 (by kernel_rfl) rfl, eff_of_tr Tryz.func133 rfl (Nat.le_of_ble_eq_true rfl) (by first | rfl | (simp only [AV.idsB, AV.idsBL, Bool.and_true, Bool.true_and] <;> rfl)) fun E hE hP => ?_⟩
  exact mX
theorem first_2 (s : Snap) (r : Rdr) (h : decide (r.c.kind = 7) = true) : CalE Tryz.prog 133 [.ptr 0 [] 0] 1 [(0, .var (rwav s r))] (.sl [.root r.c.a, .root r.c.b] false) [(0, .var (rwav s r))] := by
  have ff := h
  have hR : Tryz.f133.results.toList = [.tmp 2] := rfl
  refine ⟨enters_of Tryz.func133 (by kernel_rfl) rfl, eff_of_tr Tryz.func133 rfl (Nat.le_of_ble_eq_true rfl) (by first | rfl | (simp only [AV.idsB, AV.idsBL, Bool.and_true, Bool.true_and] <;> rfl)) fun E hE hP => ?_⟩
  exact mX
theorem way_none {k : Int} (h : wayB k = false) : foundE (.int .i64 k) waysE = none := by
  have h' : k ≠ 6 ∧ k ≠ 7 := by simpa [wayB] using h
  have e : ∀ j : Int, k ≠ j → (AV.int .i64 k).eqb (.int .i64 j) = false := fun j hk => by
    show (decide (IntKind.i64 = IntKind.i64) && (k == j)) = false
    simp [hk]
  unfold foundE waysE
  simp only [List.find?_cons, e _ h'.1, e _ h'.2, List.find?_nil, Option.map_none]
theorem way_6 {k : Int} (h : k = 6) : foundE (.int .i64 k) waysE = some (.fn (.func 178) [] []) := by rw [h]; rfl
theorem way_7 {k : Int} (h : k = 7) : foundE (.int .i64 k) waysE = some (.fn (.func 179) [] []) := by rw [h]; rfl
theorem waysI : (waysE.all fun e => isI e.1) = true := rfl
/-- What a way, or the first step, leaves behind: how it ends, and the reader. -/
def outR (r : Rdr) (x : Resp) : Rdr := ⟨r.c, r.pc, r.pos, r.done, x⟩
theorem begin_0 (s : Snap) (r : Rdr) (h : wayB r.c.kind = false) : CalE Tryz.prog 76 [.ptr 0 [] 0] 1 [(0, .var (rwav s r))] (.int .i64 2) [(0, .var (rwav s (outR r (askR s r.c))))] := by
  have o1 := ways_o
  have hf := way_none h
  have d2 := ask_c s r.c
  have hR : Tryz.f76.results.toList = [.tmp 2] := rfl
  refine ⟨enters_of Tryz.func76 (by kernel_rfl) rfl, eff_of_tr Tryz.func76 rfl (Nat.le_of_ble_eq_true rfl) (by first | rfl | (simp only [AV.idsB, AV.idsBL, Bool.and_true, Bool.true_and] <;> rfl)) fun E hE hP => ?_⟩
  refine mr ?_
  first | apply tr_md mixed _ (keepAll _) (by rw [hE]; rfl) (by kernel_rfl) | (refine Tr.seq ?_; apply tr_md mixed _ (keepAll _) (by rw [hE]; rfl) (by kernel_rfl))
  intro Q hQ
  simp only [go_sem, seval]
  (refine vd2_x rfl ?_); intro r hr; simp only [go_sem, seval]
  refine call_own rfl rfl rfl rfl (enters_of Tryz.func132 (by kernel_rfl) rfl) (o1.2) rfl rfl ?_
  simp only [go_sem, seval]
  subst hr
  iterate 6 ((refine vd2_q rfl ?_); intro r hr; simp only [go_sem, seval]; subst hr)
  (refine vd2_x rfl ?_); intro r hr; simp only [go_sem, seval]
  refine look185 rfl waysI ?_; rw [hf]
  try simp only [go_sem, seval]
  subst hr
  iterate 5 ((refine vd2_q rfl ?_); intro r hr; simp only [go_sem, seval]; subst hr)
  exact hQ
  refine mr ?_
  refine mC ?_
  first | refine tr_seq_drawn mixed _ (keepAll _) (by rw [hE]; rfl) (by kernel_rfl) ?_ | (refine Tr.seq ?_; refine tr_seq_drawn mixed _ (keepAll _) (by rw [hE]; rfl) (by kernel_rfl) ?_)
  simp only [List.map_cons, List.map_nil]
  refine vd_q rfl rfl ?_; simp only [go_sem, seval]
  refine vd_q rfl rfl ?_; simp only [go_sem, seval]
  refine vd_q rfl rfl ?_; simp only [go_sem, seval]
  refine vd_q rfl rfl ?_; simp only [go_sem, seval]
  refine vd_q rfl rfl ?_; simp only [go_sem, seval]
  refine vd_q rfl rfl ?_; simp only [go_sem, seval]
  refine vd_q rfl rfl ?_; simp only [go_sem, seval]
  refine vd_q rfl rfl ?_; simp only [go_sem, seval]
  refine vd_q rfl rfl ?_; simp only [go_sem, seval]
  refine vd_q rfl rfl ?_; simp only [go_sem, seval]
  refine vd_x rfl rfl ?_; simp only [go_sem, seval]
  refine call_fn rfl rfl rfl rfl (enters_of Tryz.func22 (by kernel_rfl) rfl) (d2.2) rfl rfl rfl ?_
  simp only [go_sem, seval]
  refine vd_q rfl rfl ?_; simp only [go_sem, seval]
  refine vd_q rfl rfl ?_; simp only [go_sem, seval]
  refine vd_q rfl rfl ?_; simp only [go_sem, seval]
  refine vd_w rfl rfl (by kernel_rfl) ?_; simp only [go_sem, seval]
  refine vd_nil ?_
  exact mX
theorem begin_1 (s : Snap) (r : Rdr) (F : Nat) (hf : foundE (.int .i64 r.c.kind) waysE = some (.fn (.func F) [] [])) (hm : smayR s = false) : CalE Tryz.prog 76 [.ptr 0 [] 0] 1 [(0, .var (rwav s r))] (.int .i64 2) [(0, .var (rwav s (outR r (askR s r.c))))] := by
  have o1 := ways_o
  have d2 := ask_c s r.c
  have c1 := smay_c s
  rw [hm] at c1
  have hR : Tryz.f76.results.toList = [.tmp 2] := rfl
  refine ⟨enters_of Tryz.func76 (by kernel_rfl) rfl, eff_of_tr Tryz.func76 rfl (Nat.le_of_ble_eq_true rfl) (by first | rfl | (simp only [AV.idsB, AV.idsBL, Bool.and_true, Bool.true_and] <;> rfl)) fun E hE hP => ?_⟩
  refine mr ?_
  first | apply tr_md mixed _ (keepAll _) (by rw [hE]; rfl) (by kernel_rfl) | (refine Tr.seq ?_; apply tr_md mixed _ (keepAll _) (by rw [hE]; rfl) (by kernel_rfl))
  intro Q hQ
  simp only [go_sem, seval]
  (refine vd2_x rfl ?_); intro r hr; simp only [go_sem, seval]
  refine call_own rfl rfl rfl rfl (enters_of Tryz.func132 (by kernel_rfl) rfl) (o1.2) rfl rfl ?_
  simp only [go_sem, seval]
  subst hr
  iterate 6 ((refine vd2_q rfl ?_); intro r hr; simp only [go_sem, seval]; subst hr)
  (refine vd2_x rfl ?_); intro r hr; simp only [go_sem, seval]
  refine look185 rfl waysI ?_; rw [hf]
  try simp only [go_sem, seval]
  subst hr
  iterate 5 ((refine vd2_q rfl ?_); intro r hr; simp only [go_sem, seval]; subst hr)
  exact hQ
  refine mr ?_
  refine mC ?_
  first | refine tr_seq_drawn mixed _ (keepAll _) (by rw [hE]; rfl) (by kernel_rfl) ?_ | (refine Tr.seq ?_; refine tr_seq_drawn mixed _ (keepAll _) (by rw [hE]; rfl) (by kernel_rfl) ?_)
  simp only [List.map_cons, List.map_nil]
  refine vd_q rfl rfl ?_; simp only [go_sem, seval]
  refine vd_q rfl rfl ?_; simp only [go_sem, seval]
  refine vd_q rfl rfl ?_; simp only [go_sem, seval]
  refine vd_q rfl rfl ?_; simp only [go_sem, seval]
  refine vd_q rfl rfl ?_; simp only [go_sem, seval]
  refine vd_q rfl rfl ?_; simp only [go_sem, seval]
  refine vd_q rfl rfl ?_; simp only [go_sem, seval]
  refine vd_q rfl rfl ?_; simp only [go_sem, seval]
  refine vd_q rfl rfl ?_; simp only [go_sem, seval]
  refine vd_q rfl rfl ?_; simp only [go_sem, seval]
  refine vd_x rfl rfl ?_; simp only [go_sem, seval]
  refine call_fn rfl rfl rfl rfl (enters_of Tryz.func22 (by kernel_rfl) rfl) (d2.2) rfl rfl rfl ?_
  simp only [go_sem, seval]
  refine vd_q rfl rfl ?_; simp only [go_sem, seval]
  refine vd_q rfl rfl ?_; simp only [go_sem, seval]
  refine vd_q rfl rfl ?_; simp only [go_sem, seval]
  refine vd_w rfl rfl (by kernel_rfl) ?_; simp only [go_sem, seval]
  refine vd_nil ?_
  exact mX
def begL (s : Snap) (r : Rdr) (L : List Root) : Int × Rdr := if L.any (fun x => decide (findR s.t x = -1)) then (1, ⟨r.c, 0, -1, r.done, failR 5⟩) else (0, ⟨r.c, 1, findR s.t (L.getLastD zroot), r.done, r.r⟩)
def begK (s : Snap) (r : Rdr) (L : List Root) : Nat → Rdr
  | 0 => r
  | k + 1 => ⟨r.c, 1, findR s.t (L.getD k zroot), r.done, r.r⟩
theorem begin_w (s : Snap) (r : Rdr) (L : List Root) (F : Nat) (hl1 : 1 ≤ L.length) (hl2 : L.length ≤ 2) (hf : foundE (.int .i64 r.c.kind) waysE = some (.fn (.func F) [] [])) (hm : smayR s = true)
    (y1 : CalE Tryz.prog 133 [.ptr 0 [] 0] 1 [(0, .var (rwav s r))] (.sl (L.map .root) false) [(0, .var (rwav s r))]) :
    CalE Tryz.prog 76 [.ptr 0 [] 0] 1 [(0, .var (rwav s r))] (.int .i64 (begL s r L).1) [(0, .var (rwav s (begL s r L).2))] := by
  have o1 := ways_o
  have c1 := smay_c s
  rw [hm] at c1
  have hR : Tryz.f76.results.toList = [.tmp 2] := rfl
  refine ⟨enters_of Tryz.func76 (by kernel_rfl) rfl, eff_of_tr Tryz.func76 rfl (Nat.le_of_ble_eq_true rfl) (by first | rfl | (simp only [AV.idsB, AV.idsBL, Bool.and_true, Bool.true_and] <;> rfl)) fun E hE hP => ?_⟩
  refine mr ?_
  first | apply tr_md mixed _ (keepAll _) (by rw [hE]; rfl) (by kernel_rfl) | (refine Tr.seq ?_; apply tr_md mixed _ (keepAll _) (by rw [hE]; rfl) (by kernel_rfl))
  intro Q hQ
  simp only [go_sem, seval]
  (refine vd2_x rfl ?_); intro r hr; simp only [go_sem, seval]
  refine call_own rfl rfl rfl rfl (enters_of Tryz.func132 (by kernel_rfl) rfl) (o1.2) rfl rfl ?_
  simp only [go_sem, seval]
  subst hr
  iterate 6 ((refine vd2_q rfl ?_); intro r hr; simp only [go_sem, seval]; subst hr)
  (refine vd2_x rfl ?_); intro r hr; simp only [go_sem, seval]
  refine look185 rfl waysI ?_; rw [hf]
  try simp only [go_sem, seval]
  subst hr
  iterate 5 ((refine vd2_q rfl ?_); intro r hr; simp only [go_sem, seval]; subst hr)
  exact hQ
  refine mr ?_
  refine mC ?_
  refine mW ?_
  refine Tr.loop (fun k : Nat => (⟨[(0, .ptr 0 [] 0), (43, .sl (L.map .root) false), (44, .int .i64 L.length), (45, .int .i64 k)], [(0, .var (rwav s (begK s r L k)))], 1, []⟩ : S)) (fun k => k ≤ L.length ∧ ∀ j, j < k → findR s.t (L.getD j zroot) ≠ -1) (fun k => L.length - k) 0 ⟨Nat.zero_le _, fun j hj => absurd hj (Nat.not_lt_zero j)⟩ ?_ ?_
  · refine wk_ren (fun | n => n) ?_ ?_ rfl rfl rfl
    · repeat' (first | exact rfl | exact trivial | constructor)
    · repeat' (first | exact rfl | exact trivial | constructor)
  · rintro k ⟨hk, hall⟩
    by_cases hlt : k < L.length
    · have e1 : decide ((k : Int) < (L.length : Int)) = true := decide_eq_true (by omega)
      have hn : nth (L.map AV.root) (k : Int) = some (.root (L.getD k zroot)) := by
        rw [nth_map_lt AV.root L k hlt]
        simp [List.getD_eq_getElem?_getD, hlt]
      have hw := wrap_next (n := k) (by omega)
      have c2 : Cal Tryz.prog 26 [tav s.t, .root (L.getD k zroot)] (.int .i64 (findR s.t (L.getD k zroot))) := And.intro (enters_of Tryz.func26 (by kernel_rfl) rfl) (find_pure s.t (L.getD k zroot))
      have hkk : begK s r L (k + 1) = ⟨r.c, 1, findR s.t (L.getD k zroot), r.done, r.r⟩ := rfl
      have hk0 : (begK s r L k).c = r.c ∧ (begK s r L k).done = r.done ∧ (begK s r L k).r = r.r := by cases k <;> exact ⟨rfl, rfl, rfl⟩
      generalize begK s r L k = X at hk0
      obtain ⟨Xc, Xp, Xa, Xd, Xr⟩ := X
      obtain ⟨rfl, rfl, rfl⟩ := hk0
      by_cases hfe : findR s.t (L.getD k zroot) = -1
      · have er : begL s r L = (1, ⟨r.c, 0, -1, r.done, failR 5⟩) := by
          rw [begL, if_pos (List.any_eq_true.2 ⟨L.getD k zroot, by rw [List.getD_eq_getElem?_getD, List.getElem?_eq_getElem hlt]; exact List.getElem_mem hlt, decide_eq_true hfe⟩)]
        rw [er]
        rw [hfe] at c2
        have ff := And.intro e1 hn
        refine mr ?_
        refine mC ?_
        refine mC ?_
        refine mC ?_
        refine mr ?_
        first | refine tr_seq_drawn mixed _ (keepAll _) (by rw [hE]; rfl) (by kernel_rfl) ?_ | (refine Tr.seq ?_; refine tr_seq_drawn mixed _ (keepAll _) (by rw [hE]; rfl) (by kernel_rfl) ?_)
        simp only [List.map_cons, List.map_nil]
        refine vd_q rfl rfl ?_; simp only [go_sem, seval]
        refine vd_q rfl rfl ?_; simp only [go_sem, seval]
        refine vd_q rfl rfl ?_; simp only [go_sem, seval]
        refine vd_q rfl rfl ?_; simp only [go_sem, seval]
        refine vd_q rfl rfl ?_; simp only [go_sem, seval]
        refine vd_q rfl rfl ?_; simp only [go_sem, seval]
        refine vd_q rfl rfl ?_; simp only [go_sem, seval]
        refine vd_q rfl rfl ?_; simp only [go_sem, seval]
        refine vd_x rfl rfl ?_; simp only [go_sem, seval]
        refine call_fn rfl rfl rfl rfl (enters_of Tryz.func26 (by kernel_rfl) rfl) (c2.2) rfl rfl rfl ?_
        simp only [go_sem, seval]
        refine vd_q rfl rfl ?_; simp only [go_sem, seval]
        refine vd_q rfl rfl ?_; simp only [go_sem, seval]
        refine vd_q rfl rfl ?_; simp only [go_sem, seval]
        refine vd_w rfl rfl (by kernel_rfl) ?_; simp only [go_sem, seval]
        refine vd_q rfl rfl ?_; simp only [go_sem, seval]
        refine vd_q rfl rfl ?_; simp only [go_sem, seval]
        refine vd_q rfl rfl ?_; simp only [go_sem, seval]
        refine vd_w rfl rfl (by kernel_rfl) ?_; simp only [go_sem, seval]
        refine vd_nil ?_
        exact mX
      · have e2 : decide (findR s.t (L.getD k zroot) = -1) = false := decide_eq_false hfe
        have hall2 : ∀ j, j < k + 1 → findR s.t (L.getD j zroot) ≠ -1 := fun j hj => by
          by_cases hjk : j = k
          · rw [hjk]; exact hfe
          · exact hall j (by omega)
        generalize findR s.t (L.getD k zroot) = f at c2 e2 hkk
        have ff := And.intro e1 (And.intro hn (And.intro e2 hw))
        refine mr ?_
        refine mC ?_
        refine mC ?_
        refine mC ?_
        refine mr ?_
        first | refine tr_seq_drawn mixed _ (keepAll _) (by rw [hE]; rfl) (by kernel_rfl) ?_ | (refine Tr.seq ?_; refine tr_seq_drawn mixed _ (keepAll _) (by rw [hE]; rfl) (by kernel_rfl) ?_)
        simp only [List.map_cons, List.map_nil]
        refine vd_q rfl rfl ?_; simp only [go_sem, seval]
        refine vd_q rfl rfl ?_; simp only [go_sem, seval]
        refine vd_q rfl rfl ?_; simp only [go_sem, seval]
        refine vd_q rfl rfl ?_; simp only [go_sem, seval]
        refine vd_q rfl rfl ?_; simp only [go_sem, seval]
        refine vd_q rfl rfl ?_; simp only [go_sem, seval]
        refine vd_q rfl rfl ?_; simp only [go_sem, seval]
        refine vd_q rfl rfl ?_; simp only [go_sem, seval]
        refine vd_x rfl rfl ?_; simp only [go_sem, seval]
        refine call_fn rfl rfl rfl rfl (enters_of Tryz.func26 (by kernel_rfl) rfl) (c2.2) rfl rfl rfl ?_
        simp only [go_sem, seval]
        refine vd_q rfl rfl ?_; simp only [go_sem, seval]
        refine vd_q rfl rfl ?_; simp only [go_sem, seval]
        refine vd_q rfl rfl ?_; simp only [go_sem, seval]
        refine vd_w rfl rfl (by kernel_rfl) ?_; simp only [go_sem, seval]
        refine vd_q rfl rfl ?_; simp only [go_sem, seval]
        refine vd_q rfl rfl ?_; simp only [go_sem, seval]
        refine vd_q rfl rfl ?_; simp only [go_sem, seval]
        refine vd_w rfl rfl (by kernel_rfl) ?_; simp only [go_sem, seval]
        refine vd_nil ?_
        refine mW ?_
        refine ⟨k + 1, ⟨hlt, hall2⟩, by omega, ?_⟩
        rw [hkk]
        exact mK
    · have e1 : decide ((k : Int) < (L.length : Int)) = false := decide_eq_false (by omega)
      have hil : k = L.length := by omega
      subst hil
      have er : begL s r L = (0, begK s r L L.length) := by
        rw [begL, if_neg]
        · obtain ⟨n, hn⟩ : ∃ n, L.length = n + 1 := ⟨L.length - 1, by omega⟩
          rw [hn]
          show _ = (0, Rdr.mk r.c 1 (findR s.t (L.getD n zroot)) r.done r.r)
          rw [List.getLastD_eq_getLast?, List.getLast?_eq_getElem?, List.getD_eq_getElem?_getD, hn]
          rfl
        · intro h
          obtain ⟨x, hx, hxx⟩ := List.any_eq_true.1 h
          obtain ⟨j, hj, rfl⟩ := List.mem_iff_getElem.1 hx
          have := hall j hj
          rw [List.getD_eq_getElem?_getD, List.getElem?_eq_getElem hj] at this
          exact this (of_decide_eq_true hxx)
      rw [er]
      generalize begK s r L L.length = X
      have ff := e1
      exact mX
end Go.Proofs.YtfbfedpjahpnmaaGreatDoor

/- Readers: any other step. -/
set_option linter.unusedSimpArgs false
set_option maxRecDepth 10000
namespace Go.Proofs.YtfbfedpjahpnmaaGreatDoor
open Go Go.Ab

@[go_sem] theorem sbuild51_n (K : AV → Prop) : buildK Tryz.prog 51 [] K = K (failR 0).av := build_struct Tryz.underlying51 stZero51 rfl (by kernel_rfl) rfl K
theorem up_0 (s : Snap) (r : Rdr) (h : wayB r.c.kind = false) : CalE Tryz.prog 75 [.ptr 0 [] 0] 1 [(0, .var (rwav s r))] (.int .i64 1) [(0, .var (rwav s (outR r (failR 1))))] := by
  have o1 := ways_o
  have hf := way_none h
  have hR : Tryz.f75.results.toList = [.tmp 2] := rfl
  refine ⟨enters_of Tryz.func75 (by kernel_rfl) rfl, eff_of_tr Tryz.func75 rfl (Nat.le_of_ble_eq_true rfl) (by first | rfl | (simp only [AV.idsB, AV.idsBL, Bool.and_true, Bool.true_and] <;> rfl)) fun E hE hP => ?_⟩
  refine mr ?_
  first | apply tr_md mixed _ (keepAll _) (by rw [hE]; rfl) (by kernel_rfl) | (refine Tr.seq ?_; apply tr_md mixed _ (keepAll _) (by rw [hE]; rfl) (by kernel_rfl))
  intro Q hQ
  simp only [go_sem, seval]
  (refine vd2_x rfl ?_); intro r hr; simp only [go_sem, seval]
  refine call_own rfl rfl rfl rfl (enters_of Tryz.func132 (by kernel_rfl) rfl) (o1.2) rfl rfl ?_
  simp only [go_sem, seval]
  subst hr
  iterate 6 ((refine vd2_q rfl ?_); intro r hr; simp only [go_sem, seval]; subst hr)
  (refine vd2_x rfl ?_); intro r hr; simp only [go_sem, seval]
  refine look185 rfl waysI ?_; rw [hf]
  try simp only [go_sem, seval]
  subst hr
  iterate 5 ((refine vd2_q rfl ?_); intro r hr; simp only [go_sem, seval]; subst hr)
  exact hQ
  exact mX
theorem up_1 (s : Snap) (r : Rdr) (F : Nat) (hf : foundE (.int .i64 r.c.kind) waysE = some (.fn (.func F) [] [])) (hm : smayR s = false) : CalE Tryz.prog 75 [.ptr 0 [] 0] 1 [(0, .var (rwav s r))] (.int .i64 1) [(0, .var (rwav s (outR r (failR 1))))] := by
  have o1 := ways_o
  have c1 := smay_c s
  rw [hm] at c1
  have hR : Tryz.f75.results.toList = [.tmp 2] := rfl
  refine ⟨enters_of Tryz.func75 (by kernel_rfl) rfl, eff_of_tr Tryz.func75 rfl (Nat.le_of_ble_eq_true rfl) (by first | rfl | (simp only [AV.idsB, AV.idsBL, Bool.and_true, Bool.true_and] <;> rfl)) fun E hE hP => ?_⟩
  refine mr ?_
  first | apply tr_md mixed _ (keepAll _) (by rw [hE]; rfl) (by kernel_rfl) | (refine Tr.seq ?_; apply tr_md mixed _ (keepAll _) (by rw [hE]; rfl) (by kernel_rfl))
  intro Q hQ
  simp only [go_sem, seval]
  (refine vd2_x rfl ?_); intro r hr; simp only [go_sem, seval]
  refine call_own rfl rfl rfl rfl (enters_of Tryz.func132 (by kernel_rfl) rfl) (o1.2) rfl rfl ?_
  simp only [go_sem, seval]
  subst hr
  iterate 6 ((refine vd2_q rfl ?_); intro r hr; simp only [go_sem, seval]; subst hr)
  (refine vd2_x rfl ?_); intro r hr; simp only [go_sem, seval]
  refine look185 rfl waysI ?_; rw [hf]
  try simp only [go_sem, seval]
  subst hr
  iterate 5 ((refine vd2_q rfl ?_); intro r hr; simp only [go_sem, seval]; subst hr)
  exact hQ
  exact mX
theorem up_2 (s : Snap) (r : Rdr) (F : Nat) (hf : foundE (.int .i64 r.c.kind) waysE = some (.fn (.func F) [] [])) (hm : smayR s = true) (h1 : decide (r.pos < 0) = true) : CalE Tryz.prog 75 [.ptr 0 [] 0] 1 [(0, .var (rwav s r))] (.int .i64 1) [(0, .var (rwav s (outR r (failR 1))))] := by
  have o1 := ways_o
  have c1 := smay_c s
  rw [hm] at c1
  have ff := h1
  have hR : Tryz.f75.results.toList = [.tmp 2] := rfl
  refine ⟨enters_of Tryz.func75 (by kernel_rfl) rfl, eff_of_tr Tryz.func75 rfl (Nat.le_of_ble_eq_true rfl) (by first | rfl | (simp only [AV.idsB, AV.idsBL, Bool.and_true, Bool.true_and] <;> rfl)) fun E hE hP => ?_⟩
  refine mr ?_
  first | apply tr_md mixed _ (keepAll _) (by rw [hE]; rfl) (by kernel_rfl) | (refine Tr.seq ?_; apply tr_md mixed _ (keepAll _) (by rw [hE]; rfl) (by kernel_rfl))
  intro Q hQ
  simp only [go_sem, seval]
  (refine vd2_x rfl ?_); intro r hr; simp only [go_sem, seval]
  refine call_own rfl rfl rfl rfl (enters_of Tryz.func132 (by kernel_rfl) rfl) (o1.2) rfl rfl ?_
  simp only [go_sem, seval]
  subst hr
  iterate 6 ((refine vd2_q rfl ?_); intro r hr; simp only [go_sem, seval]; subst hr)
  (refine vd2_x rfl ?_); intro r hr; simp only [go_sem, seval]
  refine look185 rfl waysI ?_; rw [hf]
  try simp only [go_sem, seval]
  subst hr
  iterate 5 ((refine vd2_q rfl ?_); intro r hr; simp only [go_sem, seval]; subst hr)
  exact hQ
  exact mX
theorem up_3 (s : Snap) (r : Rdr) (F : Nat) (hf : foundE (.int .i64 r.c.kind) waysE = some (.fn (.func F) [] [])) (hm : smayR s = true) (h1 : decide (r.pos < 0) = false) (h2 : decide ((s.t.length : Int) ≤ r.pos) = true) : CalE Tryz.prog 75 [.ptr 0 [] 0] 1 [(0, .var (rwav s r))] (.int .i64 1) [(0, .var (rwav s (outR r (failR 1))))] := by
  have o1 := ways_o
  have c1 := smay_c s
  rw [hm] at c1
  have ff := And.intro h1 h2
  have hR : Tryz.f75.results.toList = [.tmp 2] := rfl
  refine ⟨enters_of Tryz.func75 (by kernel_rfl) rfl, eff_of_tr Tryz.func75 rfl (Nat.le_of_ble_eq_true rfl) (by first | rfl | (simp only [AV.idsB, AV.idsBL, Bool.and_true, Bool.true_and] <;> rfl)) fun E hE hP => ?_⟩
  refine mr ?_
  first | apply tr_md mixed _ (keepAll _) (by rw [hE]; rfl) (by kernel_rfl) | (refine Tr.seq ?_; apply tr_md mixed _ (keepAll _) (by rw [hE]; rfl) (by kernel_rfl))
  intro Q hQ
  simp only [go_sem, seval]
  (refine vd2_x rfl ?_); intro r hr; simp only [go_sem, seval]
  refine call_own rfl rfl rfl rfl (enters_of Tryz.func132 (by kernel_rfl) rfl) (o1.2) rfl rfl ?_
  simp only [go_sem, seval]
  subst hr
  iterate 6 ((refine vd2_q rfl ?_); intro r hr; simp only [go_sem, seval]; subst hr)
  (refine vd2_x rfl ?_); intro r hr; simp only [go_sem, seval]
  refine look185 rfl waysI ?_; rw [hf]
  try simp only [go_sem, seval]
  subst hr
  iterate 5 ((refine vd2_q rfl ?_); intro r hr; simp only [go_sem, seval]; subst hr)
  exact hQ
  exact mX
theorem up_4 (s : Snap) (r : Rdr) (F : Nat) (i : Int) (x : Rdr) (hf : foundE (.int .i64 r.c.kind) waysE = some (.fn (.func F) [] [])) (hm : smayR s = true) (h1 : decide (r.pos < 0) = false) (h2 : decide ((s.t.length : Int) ≤ r.pos) = false) (h3 : decide (i = 0) = false)
    (y1 : CalE Tryz.prog F [.ptr 0 [] 0] 1 [(0, .var (rwav s (outR r (failR 0))))] (.int .i64 i) [(0, .var (rwav s x))]) : CalE Tryz.prog 75 [.ptr 0 [] 0] 1 [(0, .var (rwav s r))] (.int .i64 i) [(0, .var (rwav s x))] := by
  have o1 := ways_o
  have c1 := smay_c s
  rw [hm] at c1
  have ff := And.intro h1 (And.intro h2 h3)
  have hR : Tryz.f75.results.toList = [.tmp 2] := rfl
  refine ⟨enters_of Tryz.func75 (by kernel_rfl) rfl, eff_of_tr Tryz.func75 rfl (Nat.le_of_ble_eq_true rfl) (by first | rfl | (simp only [AV.idsB, AV.idsBL, Bool.and_true, Bool.true_and] <;> rfl)) fun E hE hP => ?_⟩
  refine mr ?_
  first | apply tr_md mixed _ (keepAll _) (by rw [hE]; rfl) (by kernel_rfl) | (refine Tr.seq ?_; apply tr_md mixed _ (keepAll _) (by rw [hE]; rfl) (by kernel_rfl))
  intro Q hQ
  simp only [go_sem, seval]
  (refine vd2_x rfl ?_); intro r hr; simp only [go_sem, seval]
  refine call_own rfl rfl rfl rfl (enters_of Tryz.func132 (by kernel_rfl) rfl) (o1.2) rfl rfl ?_
  simp only [go_sem, seval]
  subst hr
  iterate 6 ((refine vd2_q rfl ?_); intro r hr; simp only [go_sem, seval]; subst hr)
  (refine vd2_x rfl ?_); intro r hr; simp only [go_sem, seval]
  refine look185 rfl waysI ?_; rw [hf]
  try simp only [go_sem, seval]
  subst hr
  iterate 5 ((refine vd2_q rfl ?_); intro r hr; simp only [go_sem, seval]; subst hr)
  exact hQ
  exact mX
theorem up_5 (s : Snap) (r : Rdr) (F : Nat) (x : Rdr) (hf : foundE (.int .i64 r.c.kind) waysE = some (.fn (.func F) [] [])) (hm : smayR s = true) (h1 : decide (r.pos < 0) = false) (h2 : decide ((s.t.length : Int) ≤ r.pos) = false)
    (y1 : CalE Tryz.prog F [.ptr 0 [] 0] 1 [(0, .var (rwav s (outR r (failR 0))))] (.int .i64 0) [(0, .var (rwav s x))]) : CalE Tryz.prog 75 [.ptr 0 [] 0] 1 [(0, .var (rwav s r))] (.int .i64 0) [(0, .var (rwav s (outR x r.r)))] := by
  have o1 := ways_o
  have c1 := smay_c s
  rw [hm] at c1
  have ff := And.intro h1 h2
  have hR : Tryz.f75.results.toList = [.tmp 2] := rfl
  refine ⟨enters_of Tryz.func75 (by kernel_rfl) rfl, eff_of_tr Tryz.func75 rfl (Nat.le_of_ble_eq_true rfl) (by first | rfl | (simp only [AV.idsB, AV.idsBL, Bool.and_true, Bool.true_and] <;> rfl)) fun E hE hP => ?_⟩
  refine mr ?_
  first | apply tr_md mixed _ (keepAll _) (by rw [hE]; rfl) (by kernel_rfl) | (refine Tr.seq ?_; apply tr_md mixed _ (keepAll _) (by rw [hE]; rfl) (by kernel_rfl))
  intro Q hQ
  simp only [go_sem, seval]
  (refine vd2_x rfl ?_); intro r hr; simp only [go_sem, seval]
  refine call_own rfl rfl rfl rfl (enters_of Tryz.func132 (by kernel_rfl) rfl) (o1.2) rfl rfl ?_
  simp only [go_sem, seval]
  subst hr
  iterate 6 ((refine vd2_q rfl ?_); intro r hr; simp only [go_sem, seval]; subst hr)
  (refine vd2_x rfl ?_); intro r hr; simp only [go_sem, seval]
  refine look185 rfl waysI ?_; rw [hf]
  try simp only [go_sem, seval]
  subst hr
  iterate 5 ((refine vd2_q rfl ?_); intro r hr; simp only [go_sem, seval]; subst hr)
  exact hQ
  exact mX
end Go.Proofs.YtfbfedpjahpnmaaGreatDoor

/- Readers: a step. -/
set_option linter.unusedSimpArgs false
set_option maxRecDepth 10000
namespace Go.Proofs.YtfbfedpjahpnmaaGreatDoor
open Go Go.Ab

theorem step_d (s : Snap) (r : Rdr) (hl : r.c.vals.length ≤ 140737488351232) (hd : r.done = true) : Cal Tryz.prog 33 [s.av, r.av] r.av := by
  have o1 := bclone_c r.c.vals hl
  obtain ⟨c, p, a, d, x⟩ := r
  simp only at hd hl o1
  subst hd
  have hR : Tryz.f33.results.toList = [.cell 4 76] := rfl
  refine ⟨enters_of Tryz.func33 (by kernel_rfl) rfl, pure_of_tr Tryz.func33 rfl (Nat.le_of_ble_eq_true rfl) rfl fun E hE hP => ?_⟩
  refine mr ?_
  refine mr ?_
  refine Tr.wk (Wk.frzH [96]) ?_
  simp only [frzHP, frzA, AV.frz, AV.frzL, List.map_cons, List.map_nil, go_sem, seval]
  exact mX
theorem step_b1 (s : Snap) (r : Rdr) (i : Int) (x : Rdr) (hl : r.c.vals.length ≤ 140737488351232) (hd : r.done = false) (h1 : decide (r.pc = 0) = true) (h2 : decide (i = 1) = true) (h3 : decide (i = 2) = false)
    (y1 : CalE Tryz.prog 76 [.ptr 0 [] 0] 1 [(0, .var (rwav s r))] (.int .i64 i) [(0, .var (rwav s x))]) : Cal Tryz.prog 33 [s.av, r.av] (Rdr.mk x.c x.pc r.pos true x.r).av := by
  have o1 := bclone_c r.c.vals hl
  obtain ⟨c, p, a, d, z⟩ := r
  simp only at hd hl o1 h1
  subst hd
  have ff := And.intro h1 (And.intro h2 h3)
  have hR : Tryz.f33.results.toList = [.cell 4 76] := rfl
  refine ⟨enters_of Tryz.func33 (by kernel_rfl) rfl, pure_of_tr Tryz.func33 rfl (Nat.le_of_ble_eq_true rfl) rfl fun E hE hP => ?_⟩
  refine mr ?_
  refine mr ?_
  refine Tr.wk (Wk.frzH [96]) ?_
  simp only [frzHP, frzA, AV.frz, AV.frzL, List.map_cons, List.map_nil, go_sem, seval]
  refine mW ?_
  refine Tr.wk (s' := ⟨[(3, .ptr 1 [] 0), (4, .ptr 2 [] 0), (5, .ptr 0 [] 0), (6, .fn (.func 76) [.ptr 0 [] 0] [])], [(0, .var (rwav s ⟨c, p, a, false, z⟩)), (1, .var (Rdr.av ⟨c, p, a, false, z⟩)), (2, .var (.st [.st [.int .i64 0, .sl [] false, .root zroot, .root zroot, .int .u64 0], .int .i64 0, .int .i64 0, .bool false, zResp.av]))], 3, []⟩) ?_ ?_
  · refine wk_ren (fun | 0 => 240 | 1 => 16 | 2 => 32 | n => n) ?_ ?_ rfl rfl rfl
    · repeat' (first | exact rfl | exact trivial | constructor)
    · repeat' (first | exact rfl | exact trivial | constructor)
  refine mW ?_
  refine Tr.seq ?_
  exact mX
theorem step_b2 (s : Snap) (r : Rdr) (i : Int) (x : Rdr) (hl : r.c.vals.length ≤ 140737488351232) (hd : r.done = false) (h1 : decide (r.pc = 0) = true) (h2 : decide (i = 1) = false) (h3 : decide (i = 2) = true)
    (y1 : CalE Tryz.prog 76 [.ptr 0 [] 0] 1 [(0, .var (rwav s r))] (.int .i64 i) [(0, .var (rwav s x))]) : Cal Tryz.prog 33 [s.av, r.av] (Rdr.mk x.c x.pc x.pos true x.r).av := by
  have o1 := bclone_c r.c.vals hl
  obtain ⟨c, p, a, d, z⟩ := r
  simp only at hd hl o1 h1
  subst hd
  have ff := And.intro h1 (And.intro h2 h3)
  have hR : Tryz.f33.results.toList = [.cell 4 76] := rfl
  refine ⟨enters_of Tryz.func33 (by kernel_rfl) rfl, pure_of_tr Tryz.func33 rfl (Nat.le_of_ble_eq_true rfl) rfl fun E hE hP => ?_⟩
  refine mr ?_
  refine mr ?_
  refine Tr.wk (Wk.frzH [96]) ?_
  simp only [frzHP, frzA, AV.frz, AV.frzL, List.map_cons, List.map_nil, go_sem, seval]
  refine mW ?_
  refine Tr.wk (s' := ⟨[(3, .ptr 1 [] 0), (4, .ptr 2 [] 0), (5, .ptr 0 [] 0), (6, .fn (.func 76) [.ptr 0 [] 0] [])], [(0, .var (rwav s ⟨c, p, a, false, z⟩)), (1, .var (Rdr.av ⟨c, p, a, false, z⟩)), (2, .var (.st [.st [.int .i64 0, .sl [] false, .root zroot, .root zroot, .int .u64 0], .int .i64 0, .int .i64 0, .bool false, zResp.av]))], 3, []⟩) ?_ ?_
  · refine wk_ren (fun | 0 => 240 | 1 => 16 | 2 => 32 | n => n) ?_ ?_ rfl rfl rfl
    · repeat' (first | exact rfl | exact trivial | constructor)
    · repeat' (first | exact rfl | exact trivial | constructor)
  refine mW ?_
  refine Tr.seq ?_
  exact mX
theorem step_b0 (s : Snap) (r : Rdr) (i : Int) (x : Rdr) (hl : r.c.vals.length ≤ 140737488351232) (hd : r.done = false) (h1 : decide (r.pc = 0) = true) (h2 : decide (i = 1) = false) (h3 : decide (i = 2) = false)
    (y1 : CalE Tryz.prog 76 [.ptr 0 [] 0] 1 [(0, .var (rwav s r))] (.int .i64 i) [(0, .var (rwav s x))]) : Cal Tryz.prog 33 [s.av, r.av] x.av := by
  have o1 := bclone_c r.c.vals hl
  obtain ⟨c, p, a, d, z⟩ := r
  simp only at hd hl o1 h1
  subst hd
  have ff := And.intro h1 (And.intro h2 h3)
  have hR : Tryz.f33.results.toList = [.cell 4 76] := rfl
  refine ⟨enters_of Tryz.func33 (by kernel_rfl) rfl, pure_of_tr Tryz.func33 rfl (Nat.le_of_ble_eq_true rfl) rfl fun E hE hP => ?_⟩
  refine mr ?_
  refine mr ?_
  refine Tr.wk (Wk.frzH [96]) ?_
  simp only [frzHP, frzA, AV.frz, AV.frzL, List.map_cons, List.map_nil, go_sem, seval]
  refine mW ?_
  refine Tr.wk (s' := ⟨[(3, .ptr 1 [] 0), (4, .ptr 2 [] 0), (5, .ptr 0 [] 0), (6, .fn (.func 76) [.ptr 0 [] 0] [])], [(0, .var (rwav s ⟨c, p, a, false, z⟩)), (1, .var (Rdr.av ⟨c, p, a, false, z⟩)), (2, .var (.st [.st [.int .i64 0, .sl [] false, .root zroot, .root zroot, .int .u64 0], .int .i64 0, .int .i64 0, .bool false, zResp.av]))], 3, []⟩) ?_ ?_
  · refine wk_ren (fun | 0 => 240 | 1 => 16 | 2 => 32 | n => n) ?_ ?_ rfl rfl rfl
    · repeat' (first | exact rfl | exact trivial | constructor)
    · repeat' (first | exact rfl | exact trivial | constructor)
  refine mW ?_
  refine Tr.seq ?_
  exact mX
theorem step_u1 (s : Snap) (r : Rdr) (i : Int) (x : Rdr) (hl : r.c.vals.length ≤ 140737488351232) (hd : r.done = false) (h1 : decide (r.pc = 0) = false) (h2 : decide (i = 1) = true) (h3 : decide (i = 2) = false)
    (y1 : CalE Tryz.prog 75 [.ptr 0 [] 0] 1 [(0, .var (rwav s r))] (.int .i64 i) [(0, .var (rwav s x))]) : Cal Tryz.prog 33 [s.av, r.av] (Rdr.mk x.c x.pc r.pos true x.r).av := by
  have o1 := bclone_c r.c.vals hl
  obtain ⟨c, p, a, d, z⟩ := r
  simp only at hd hl o1 h1
  subst hd
  have ff := And.intro h1 (And.intro h2 h3)
  have hR : Tryz.f33.results.toList = [.cell 4 76] := rfl
  refine ⟨enters_of Tryz.func33 (by kernel_rfl) rfl, pure_of_tr Tryz.func33 rfl (Nat.le_of_ble_eq_true rfl) rfl fun E hE hP => ?_⟩
  refine mr ?_
  refine mr ?_
  refine Tr.wk (Wk.frzH [96]) ?_
  simp only [frzHP, frzA, AV.frz, AV.frzL, List.map_cons, List.map_nil, go_sem, seval]
  refine mW ?_
  refine Tr.wk (s' := ⟨[(3, .ptr 1 [] 0), (4, .ptr 2 [] 0), (5, .ptr 0 [] 0), (6, .fn (.func 75) [.ptr 0 [] 0] [])], [(0, .var (rwav s ⟨c, p, a, false, z⟩)), (1, .var (Rdr.av ⟨c, p, a, false, z⟩)), (2, .var (.st [.st [.int .i64 0, .sl [] false, .root zroot, .root zroot, .int .u64 0], .int .i64 0, .int .i64 0, .bool false, zResp.av]))], 3, []⟩) ?_ ?_
  · refine wk_ren (fun | 0 => 240 | 1 => 16 | 2 => 32 | n => n) ?_ ?_ rfl rfl rfl
    · repeat' (first | exact rfl | exact trivial | constructor)
    · repeat' (first | exact rfl | exact trivial | constructor)
  refine mW ?_
  refine Tr.seq ?_
  exact mX
theorem step_u2 (s : Snap) (r : Rdr) (i : Int) (x : Rdr) (hl : r.c.vals.length ≤ 140737488351232) (hd : r.done = false) (h1 : decide (r.pc = 0) = false) (h2 : decide (i = 1) = false) (h3 : decide (i = 2) = true)
    (y1 : CalE Tryz.prog 75 [.ptr 0 [] 0] 1 [(0, .var (rwav s r))] (.int .i64 i) [(0, .var (rwav s x))]) : Cal Tryz.prog 33 [s.av, r.av] (Rdr.mk x.c x.pc x.pos true x.r).av := by
  have o1 := bclone_c r.c.vals hl
  obtain ⟨c, p, a, d, z⟩ := r
  simp only at hd hl o1 h1
  subst hd
  have ff := And.intro h1 (And.intro h2 h3)
  have hR : Tryz.f33.results.toList = [.cell 4 76] := rfl
  refine ⟨enters_of Tryz.func33 (by kernel_rfl) rfl, pure_of_tr Tryz.func33 rfl (Nat.le_of_ble_eq_true rfl) rfl fun E hE hP => ?_⟩
  refine mr ?_
  refine mr ?_
  refine Tr.wk (Wk.frzH [96]) ?_
  simp only [frzHP, frzA, AV.frz, AV.frzL, List.map_cons, List.map_nil, go_sem, seval]
  refine mW ?_
  refine Tr.wk (s' := ⟨[(3, .ptr 1 [] 0), (4, .ptr 2 [] 0), (5, .ptr 0 [] 0), (6, .fn (.func 75) [.ptr 0 [] 0] [])], [(0, .var (rwav s ⟨c, p, a, false, z⟩)), (1, .var (Rdr.av ⟨c, p, a, false, z⟩)), (2, .var (.st [.st [.int .i64 0, .sl [] false, .root zroot, .root zroot, .int .u64 0], .int .i64 0, .int .i64 0, .bool false, zResp.av]))], 3, []⟩) ?_ ?_
  · refine wk_ren (fun | 0 => 240 | 1 => 16 | 2 => 32 | n => n) ?_ ?_ rfl rfl rfl
    · repeat' (first | exact rfl | exact trivial | constructor)
    · repeat' (first | exact rfl | exact trivial | constructor)
  refine mW ?_
  refine Tr.seq ?_
  exact mX
theorem step_u0 (s : Snap) (r : Rdr) (i : Int) (x : Rdr) (hl : r.c.vals.length ≤ 140737488351232) (hd : r.done = false) (h1 : decide (r.pc = 0) = false) (h2 : decide (i = 1) = false) (h3 : decide (i = 2) = false)
    (y1 : CalE Tryz.prog 75 [.ptr 0 [] 0] 1 [(0, .var (rwav s r))] (.int .i64 i) [(0, .var (rwav s x))]) : Cal Tryz.prog 33 [s.av, r.av] x.av := by
  have o1 := bclone_c r.c.vals hl
  obtain ⟨c, p, a, d, z⟩ := r
  simp only at hd hl o1 h1
  subst hd
  have ff := And.intro h1 (And.intro h2 h3)
  have hR : Tryz.f33.results.toList = [.cell 4 76] := rfl
  refine ⟨enters_of Tryz.func33 (by kernel_rfl) rfl, pure_of_tr Tryz.func33 rfl (Nat.le_of_ble_eq_true rfl) rfl fun E hE hP => ?_⟩
  refine mr ?_
  refine mr ?_
  refine Tr.wk (Wk.frzH [96]) ?_
  simp only [frzHP, frzA, AV.frz, AV.frzL, List.map_cons, List.map_nil, go_sem, seval]
  refine mW ?_
  refine Tr.wk (s' := ⟨[(3, .ptr 1 [] 0), (4, .ptr 2 [] 0), (5, .ptr 0 [] 0), (6, .fn (.func 75) [.ptr 0 [] 0] [])], [(0, .var (rwav s ⟨c, p, a, false, z⟩)), (1, .var (Rdr.av ⟨c, p, a, false, z⟩)), (2, .var (.st [.st [.int .i64 0, .sl [] false, .root zroot, .root zroot, .int .u64 0], .int .i64 0, .int .i64 0, .bool false, zResp.av]))], 3, []⟩) ?_ ?_
  · refine wk_ren (fun | 0 => 240 | 1 => 16 | 2 => 32 | n => n) ?_ ?_ rfl rfl rfl
    · repeat' (first | exact rfl | exact trivial | constructor)
    · repeat' (first | exact rfl | exact trivial | constructor)
  refine mW ?_
  refine Tr.seq ?_
  exact mX
end Go.Proofs.YtfbfedpjahpnmaaGreatDoor

/- Readers: what a step is, and a run. -/
set_option linter.unusedSimpArgs false
set_option maxRecDepth 10000
namespace Go.Proofs.YtfbfedpjahpnmaaGreatDoor
open Go Go.Ab

theorem way_some {k : Int} (h : wayB k = true) : ∃ F : Nat, foundE (.int .i64 k) waysE = some (.fn (.func F) [] []) := by
  have h' : k = 6 ∨ k = 7 := by simpa [wayB] using h
  rcases h' with h | h
  · exact ⟨178, way_6 h⟩
  · exact ⟨179, way_7 h⟩
theorem step_begin (s : Snap) (r : Rdr) (hl : r.c.vals.length ≤ 140737488351232) (hd : r.done = false) (hp : r.pc = 0) : Cal Tryz.prog 33 [s.av, r.av] (beginR s r).av := by
  have h1 : decide (r.pc = 0) = true := decide_eq_true hp
  cases hw : wayB r.c.kind
  · have er : beginR s r = Rdr.mk (outR r (askR s r.c)).c (outR r (askR s r.c)).pc (outR r (askR s r.c)).pos true (outR r (askR s r.c)).r := by
      rw [beginR, hw, Bool.false_and, if_neg (by decide)]
      rfl
    rw [er]
    exact step_b2 s r 2 _ hl hd h1 rfl rfl (begin_0 s r hw)
  · obtain ⟨F, hF⟩ := way_some hw
    cases hm : smayR s
    · have er : beginR s r = Rdr.mk (outR r (askR s r.c)).c (outR r (askR s r.c)).pc (outR r (askR s r.c)).pos true (outR r (askR s r.c)).r := by
        rw [beginR, hm, Bool.and_false, if_neg (by decide)]
        rfl
      rw [er]
      exact step_b2 s r 2 _ hl hd h1 rfl rfl (begin_1 s r F hF hm)
    · have hmain : ∀ L : List Root, 1 ≤ L.length → L.length ≤ 2 → CalE Tryz.prog 133 [.ptr 0 [] 0] 1 [(0, .var (rwav s r))] (.sl (L.map .root) false) [(0, .var (rwav s r))] →
          beginR s r = (if L.any (fun x => decide (findR s.t x = -1)) then endR r (failR 5) else goR r (findR s.t (L.getLastD zroot))) → Cal Tryz.prog 33 [s.av, r.av] (beginR s r).av := by
        intro L l1 l2 y1 er
        have hb := begin_w s r L F l1 l2 hF hm y1
        rw [er]
        cases ha : L.any (fun x => decide (findR s.t x = -1))
        · have eb : begL s r L = (0, ⟨r.c, 1, findR s.t (L.getLastD zroot), r.done, r.r⟩) := by rw [begL, ha]; rfl
          rw [eb] at hb
          rw [if_neg (by decide)]
          exact step_b0 s r 0 _ hl hd h1 rfl rfl hb
        · have eb : begL s r L = (1, ⟨r.c, 0, -1, r.done, failR 5⟩) := by rw [begL, ha]; rfl
          rw [eb] at hb
          rw [if_pos rfl]
          have e2 : endR r (failR 5) = Rdr.mk r.c 0 r.pos true (failR 5) := by rw [endR, hp]
          rw [e2]
          exact step_b1 s r 1 _ hl hd h1 rfl rfl hb
      cases hk : decide (r.c.kind = 7)
      · refine hmain [r.c.a] (by simp) (by simp) (first_1 s r hk) ?_
        rw [beginR, hw, hm, Bool.and_self, if_pos rfl, if_neg (of_decide_eq_false hk)]
        by_cases ha : findR s.t r.c.a = -1 <;> simp [ha]
      · refine hmain [r.c.a, r.c.b] (by simp) (by simp) (first_2 s r hk) ?_
        rw [beginR, hw, hm, Bool.and_self, if_pos rfl, if_pos (of_decide_eq_true hk)]
        by_cases ha : findR s.t r.c.a = -1 <;> by_cases hb : findR s.t r.c.b = -1 <;> simp [ha, hb]
theorem step_up (s : Snap) (r : Rdr) (hl : r.c.vals.length ≤ 140737488351232) (hd : r.done = false) (hp : r.pc ≠ 0) : Cal Tryz.prog 33 [s.av, r.av] (upR s r).av := by
  have h1 : decide (r.pc = 0) = false := decide_eq_false hp
  have hbad : upOK s r = false → upR s r = Rdr.mk (outR r (failR 1)).c (outR r (failR 1)).pc r.pos true (outR r (failR 1)).r := fun h => by
    rw [upR, h, if_neg (by decide)]
    rfl
  cases hw : wayB r.c.kind
  · rw [hbad (by rw [upOK, hw, Bool.false_and])]
    exact step_u1 s r 1 _ hl hd h1 rfl rfl (up_0 s r hw)
  · obtain ⟨F, hF⟩ := way_some hw
    cases hm : smayR s
    · rw [hbad (by rw [upOK, hw, hm]; rfl)]
      exact step_u1 s r 1 _ hl hd h1 rfl rfl (up_1 s r F hF hm)
    · rcases Bool.eq_false_or_eq_true (decide (r.pos < 0)) with g1 | g1
      · have g1' := of_decide_eq_true g1
        rw [hbad (by rw [upOK, decide_eq_false (show ¬ 0 ≤ r.pos by omega), Bool.false_and, Bool.and_false, Bool.and_false])]
        exact step_u1 s r 1 _ hl hd h1 rfl rfl (up_2 s r F hF hm g1)
      · have g1' := of_decide_eq_false g1
        rcases Bool.eq_false_or_eq_true (decide ((s.t.length : Int) ≤ r.pos)) with g2 | g2
        · have g2' := of_decide_eq_true g2
          rw [hbad (by rw [upOK, decide_eq_false (show ¬ r.pos < s.t.length by omega), Bool.and_false, Bool.and_false, Bool.and_false])]
          exact step_u1 s r 1 _ hl hd h1 rfl rfl (up_3 s r F hF hm g1 g2)
        · have g2' := of_decide_eq_false g2
          have hok : upOK s r = true := by
            rw [upOK, hw, hm, decide_eq_true (show 0 ≤ r.pos by omega), decide_eq_true (show r.pos < s.t.length by omega)]
            rfl
          have hnd : nth (s.t.map Node.av) r.pos = some (s.t.getD r.pos.toNat zNode).av := by
            obtain ⟨k, hk⟩ : ∃ k : Nat, r.pos = k := ⟨r.pos.toNat, by omega⟩
            rw [hk, Int.toNat_natCast]
            exact nth_node (by omega)
          rw [upR, if_pos hok]
          generalize s.t.getD r.pos.toNat zNode = n at hnd
          have hk' : r.c.kind = 6 ∨ r.c.kind = 7 := by simpa [wayB] using hw
          rcases hk' with hk | hk
          · have hy := anc_e s (outR r (failR 0)) n hnd
            rw [upN, if_pos hk]
            by_cases c1 : n.slot ≤ r.c.slot
            · rw [if_pos c1]
              have ea : ancS n (outR r (failR 0)) = (2, ⟨r.c, r.pc, r.pos, r.done, ⟨0, n.root, false, ⟨0, zroot⟩⟩⟩) := by rw [ancS, if_pos (show n.slot ≤ (outR r (failR 0)).c.slot from c1)]; rfl
              rw [ea] at hy
              exact step_u2 s r 2 _ hl hd h1 rfl rfl (up_4 s r 178 2 _ (way_6 hk) hm g1 g2 rfl hy)
            · rw [if_neg c1]
              by_cases c2 : n.parent = -1
              · rw [if_pos c2]
                have ea : ancS n (outR r (failR 0)) = (1, ⟨r.c, r.pc, r.pos, r.done, failR 8⟩) := by rw [ancS, if_neg (show ¬ n.slot ≤ (outR r (failR 0)).c.slot from c1), if_pos c2]; rfl
                rw [ea] at hy
                exact step_u1 s r 1 _ hl hd h1 rfl rfl (up_4 s r 178 1 _ (way_6 hk) hm g1 g2 rfl hy)
              · rw [if_neg c2]
                have ea : ancS n (outR r (failR 0)) = (0, ⟨r.c, r.pc, n.parent, r.done, failR 0⟩) := by rw [ancS, if_neg (show ¬ n.slot ≤ (outR r (failR 0)).c.slot from c1), if_neg c2]; rfl
                rw [ea] at hy
                exact step_u0 s r 0 _ hl hd h1 rfl rfl (up_5 s r 178 _ (way_6 hk) hm g1 g2 hy)
          · have hy := desc_e s (outR r (failR 0)) n hnd
            rw [upN, if_neg (by rw [hk]; decide)]
            by_cases c1 : n.root = r.c.a
            · rw [if_pos c1]
              have ea : descS n (outR r (failR 0)) = (2, ⟨r.c, r.pc, r.pos, r.done, ⟨0, zroot, true, ⟨0, zroot⟩⟩⟩) := by rw [descS, if_pos (show n.root = (outR r (failR 0)).c.a from c1)]; rfl
              rw [ea] at hy
              exact step_u2 s r 2 _ hl hd h1 rfl rfl (up_4 s r 179 2 _ (way_7 hk) hm g1 g2 rfl hy)
            · rw [if_neg c1]
              by_cases c2 : n.parent = -1
              · rw [if_pos c2]
                have ea : descS n (outR r (failR 0)) = (2, ⟨r.c, r.pc, r.pos, r.done, failR 0⟩) := by rw [descS, if_neg (show ¬ n.root = (outR r (failR 0)).c.a from c1), if_pos c2]; rfl
                rw [ea] at hy
                exact step_u2 s r 2 _ hl hd h1 rfl rfl (up_4 s r 179 2 _ (way_7 hk) hm g1 g2 rfl hy)
              · rw [if_neg c2]
                have ea : descS n (outR r (failR 0)) = (0, ⟨r.c, r.pc, n.parent, r.done, failR 0⟩) := by rw [descS, if_neg (show ¬ n.root = (outR r (failR 0)).c.a from c1), if_neg c2]; rfl
                rw [ea] at hy
                exact step_u0 s r 0 _ hl hd h1 rfl rfl (up_5 s r 179 _ (way_7 hk) hm g1 g2 hy)
theorem step_c (s : Snap) (r : Rdr) (hl : r.c.vals.length ≤ 140737488351232) : Cal Tryz.prog 33 [s.av, r.av] (stepR s r).av := by
  cases hd : r.done
  · by_cases hp : r.pc = 0
    · rw [stepR, if_neg (by rw [hd]; decide), if_pos hp]
      exact step_begin s r hl hd hp
    · rw [stepR, if_neg (by rw [hd]; decide), if_neg hp]
      exact step_up s r hl hd hp
  · rw [stepR, if_pos hd]
    exact step_d s r hl hd
end Go.Proofs.YtfbfedpjahpnmaaGreatDoor

/- Readers: what a run is. -/
set_option linter.unusedSimpArgs false
set_option maxRecDepth 10000
namespace Go.Proofs.YtfbfedpjahpnmaaGreatDoor
open Go Go.Ab

theorem step_call (s : Snap) (r : Rdr) : (stepR s r).c = r.c := by
  unfold stepR
  split
  · rfl
  · split
    · unfold beginR goR endR
      repeat' split
      all_goals rfl
    · unfold upR upN endR
      repeat' split
      all_goals rfl
/-- On its way: where it is, and in which step. -/
def wayJ (s : Snap) (c : Ask) (r : Rdr) (n : Nat) : Prop := (wayB c.kind = true ∧ smayR s = true) ∧ (r.pc = 1 ∧ r.done = false) ∧ (0 ≤ r.pos ∧ r.pos < s.t.length) ∧ 1 ≤ n ∧ (n : Int) + r.pos ≤ s.t.length
def runJ (s : Snap) (c : Ask) (r : Rdr) (n : Nat) : Prop := (r.c = c ∧ n ≤ 20) ∧ runN s (20 - n) r n = runR s c ∧ (r.done = true ∨ (n = 0 ∧ r = startR c) ∨ wayJ s c r n)
theorem runJ_start (s : Snap) (c : Ask) : runJ s c (startR c) 0 := ⟨⟨rfl, Nat.zero_le _⟩, rfl, .inr (.inl ⟨rfl, rfl⟩)⟩
theorem runJ_done {s : Snap} {c : Ask} {r : Rdr} {n : Nat} (h : runJ s c r n) (hd : r.done = true) : runR s c = (r.r, (n : Int)) := by rw [← h.2.1, runN_done hd]
theorem runJ_next {s : Snap} {c : Ask} {r : Rdr} {n : Nat} (h : runJ s c r n) (hd : r.done = false) : n < 13 ∧ runJ s c (stepR s r) (n + 1) ∧ (r.pc = 1 → (stepR s r).done = false → (s.t.getD r.pos.toNat zNode).parent = (stepR s r).pos) ∧ (r.pc = 1 → 0 ≤ r.pos ∧ r.pos < s.t.length) := by
  obtain ⟨⟨hc, hn⟩, hr, h3⟩ := h
  have h3 := h3.resolve_left (by rw [hd]; decide)
  have hlen : wayJ s c r n → n ≤ 12 := fun hw => by
    have := (may_len (smay_tree hw.1.2)).2
    have := hw.2.2.2.2
    have := hw.2.2.1.1
    omega
  have hn2 : n < 13 := by
    rcases h3 with ⟨h3, _⟩ | h3
    · omega
    · have := hlen h3
      omega
  have hrun : runN s (20 - (n + 1)) (stepR s r) ((n + 1 : Nat) : Int) = runR s c := by
    rw [← hr, show 20 - n = (20 - (n + 1)) + 1 by omega, runN_next hd]
    rfl
  refine ⟨hn2, ⟨⟨by rw [step_call, hc], by omega⟩, hrun, ?_⟩, ?_, ?_⟩
  · rcases h3 with ⟨rfl, rfl⟩ | ⟨⟨hw, hm⟩, ⟨hp, _⟩, ⟨p0, p1⟩, hn1, hnp⟩
    · rw [stepR, if_neg (by rw [hd]; decide), if_pos (show (startR c).pc = 0 from rfl), beginR, show (startR c).c = c from rfl]
      by_cases hb : (wayB c.kind && smayR s) = true
      · rw [if_pos hb]
        have hb' := hb
        simp only [Bool.and_eq_true] at hb'
        rcases findR_range s.t c.a with ha | ha
        · rw [if_pos ha]; exact .inl rfl
        · rw [if_neg (by omega)]
          have key : ∀ a : Int, (0 ≤ a ∧ a < s.t.length) → wayJ s c (goR (startR c) a) (0 + 1) := fun a h => ⟨hb', ⟨rfl, rfl⟩, h, Nat.le_refl _, by show ((0 + 1 : Nat) : Int) + a ≤ _; omega⟩
          split
          · rcases findR_range s.t c.b with hbb | hbb
            · rw [if_pos hbb]; exact .inl rfl
            · rw [if_neg (by omega)]
              exact .inr (.inr (key _ hbb))
          · exact .inr (.inr (key _ ha))
      · rw [if_neg hb]; exact .inl rfl
    · have hok : upOK s r = true := by
        rw [upOK, hc, hw, hm, decide_eq_true p0, decide_eq_true p1]
        rfl
      rw [stepR, if_neg (by rw [hd]; decide), if_neg (by rw [hp]; decide), upR, if_pos hok]
      have hpr := par_range (smay_tree hm) p0 p1
      unfold parI at hpr
      have key : ∀ x : Int, x ≠ -1 → (x = -1 ∨ (0 ≤ x ∧ x < r.pos)) → wayJ s c ⟨r.c, r.pc, x, r.done, r.r⟩ (n + 1) := fun x hx h => by
        have h := h.resolve_left hx
        exact ⟨⟨hw, hm⟩, ⟨hp, hd⟩, ⟨h.1, by show x < _; omega⟩, by omega, by show ((n + 1 : Nat) : Int) + x ≤ _; omega⟩
      unfold upN
      split
      · split
        · exact .inl rfl
        · split
          · exact .inl rfl
          · rename_i hx
            exact .inr (.inr (key _ hx hpr))
      · split
        · exact .inl rfl
        · split
          · exact .inl rfl
          · rename_i hx
            exact .inr (.inr (key _ hx hpr))
  · intro hp hnd
    rcases h3 with ⟨rfl, rfl⟩ | ⟨⟨hw, hm⟩, _, ⟨p0, p1⟩, hn1, hnp⟩
    · exact absurd hp (by show ¬ (0 : Int) = 1; decide)
    · have hok : upOK s r = true := by
        rw [upOK, hc, hw, hm, decide_eq_true p0, decide_eq_true p1]
        rfl
      rw [stepR, if_neg (by rw [hd]; decide), if_neg (by rw [hp]; decide), upR, if_pos hok] at hnd ⊢
      unfold upN at hnd ⊢
      split
      · rename_i k1
        rw [if_pos k1] at hnd
        split
        · rename_i k2
          rw [if_pos k2] at hnd
          cases hnd
        · rename_i k2
          rw [if_neg k2] at hnd
          split
          · rename_i k3
            rw [if_pos k3] at hnd
            cases hnd
          · rfl
      · rename_i k1
        rw [if_neg k1] at hnd
        split
        · rename_i k2
          rw [if_pos k2] at hnd
          cases hnd
        · rename_i k2
          rw [if_neg k2] at hnd
          split
          · rename_i k3
            rw [if_pos k3] at hnd
            cases hnd
          · rfl
  · intro hp
    rcases h3 with ⟨rfl, rfl⟩ | h3
    · exact absurd hp (by show ¬ (0 : Int) = 1; decide)
    · exact h3.2.2.1
theorem run_c (s : Snap) (c : Ask) (hl : c.vals.length ≤ 140737488351232) : Cal Tryz.prog 32 [s.av, c.av] (.tup [(runR s c).1.av, .int .i64 (runR s c).2]) := by
  have c1 := start_c c hl
  have hR : Tryz.f32.results.toList = [.cell 4 51, .tmp 5] := rfl
  refine ⟨enters_of Tryz.func32 (by kernel_rfl) rfl, pure_of_tr Tryz.func32 rfl (Nat.le_of_ble_eq_true rfl) rfl fun E hE hP => ?_⟩
  refine mW ?_
  refine Tr.loop (fun p : Rdr × Nat => (⟨[(2, .ptr 0 [] 0), (4, .ptr 1 [] 0), (6, .ptr 2 [] 0), (7, .int .i64 p.2)], [(0, .var s.av), (1, .var zResp.av), (2, .var p.1.av)], 3, []⟩ : S)) (fun p => runJ s c p.1 p.2) (fun p => 20 - p.2) (startR c, 0) (runJ_start s c) ?_ ?_
  · refine wk_ren (fun | 1 => 32 | 2 => 96 | n => n) ?_ ?_ rfl rfl rfl
    · repeat' (first | exact rfl | exact trivial | constructor)
    · repeat' (first | exact rfl | exact trivial | constructor)
  · rintro ⟨r, n⟩ hJ
    simp only at hJ ⊢
    cases hd : r.done
    · obtain ⟨h1, h2, _, _⟩ := runJ_next hJ hd
      have c2 := step_c s r (by rw [hJ.1.1]; exact hl)
      have hw := wrap_next (n := n) (by omega)
      have hn20 : 20 - (n + 1) < 20 - n := by omega
      generalize stepR s r = r2 at c2 h2
      have ff := And.intro hd hw
      refine mW ?_
      refine ⟨(r2, n + 1), h2, hn20, ?_⟩
      exact mK
    · rw [runJ_done hJ hd]
      have ff := hd
      exact mX
end Go.Proofs.YtfbfedpjahpnmaaGreatDoor

/- Ancestors by leaps: plain facts, and the table. -/
set_option linter.unusedSimpArgs false
set_option maxRecDepth 10000
namespace Go.Proofs.YtfbfedpjahpnmaaGreatDoor
open Go Go.Ab

def leapI (t : List Node) : Nat → Int → Int
  | 0, a => parI t a
  | k + 1, a => if leapI t k a = -1 then -1 else leapI t k (leapI t k a)
theorem leap_spec {t : List Node} (hm : mayB t = true) : ∀ (k : Nat) (a : Int), 0 ≤ a → a < t.length →
    ((2 : Int) ^ k ≤ dep t a → (0 ≤ leapI t k a ∧ leapI t k a < a) ∧ dep t (leapI t k a) = dep t a - 2 ^ k) ∧ (dep t a < 2 ^ k → leapI t k a = -1)
  | 0, a, h0, h1 => by
    have hs := dep_step hm h0 h1
    have hd := dep_range hm t.length a h1 h0 h1
    rw [leapI, Int.pow_zero]
    rcases par_range hm h0 h1 with h | ⟨h2, h3⟩
    · rw [if_pos h] at hs
      exact ⟨fun h' => by omega, fun _ => h⟩
    · rw [if_neg (by omega)] at hs
      have := dep_range hm t.length (parI t a) (by omega) h2 (by omega)
      exact ⟨fun _ => ⟨⟨h2, h3⟩, by omega⟩, fun h' => by omega⟩
  | k + 1, a, h0, h1 => by
    obtain ⟨i1, i2⟩ := leap_spec hm k a h0 h1
    have hp : (2 : Int) ^ (k + 1) = 2 * 2 ^ k := by rw [Int.pow_succ, Int.mul_comm]
    have hpos : (0 : Int) < 2 ^ k := Int.pow_pos (by decide)
    rw [hp, leapI]
    rcases Int.lt_or_le (dep t a) (2 ^ k) with h | h
    · rw [if_pos (i2 h)]
      generalize (2 : Int) ^ k = P at h hpos
      exact ⟨fun h' => by omega, fun _ => rfl⟩
    · obtain ⟨⟨j1, j2⟩, j3⟩ := i1 h
      rw [if_neg (by omega)]
      obtain ⟨l1, l2⟩ := leap_spec hm k (leapI t k a) j1 (by omega)
      generalize (2 : Int) ^ k = P at h hpos j3 l1 l2
      refine ⟨fun h' => ?_, fun h' => l2 (by omega)⟩
      obtain ⟨⟨m1, m2⟩, m3⟩ := l1 (by omega)
      exact ⟨⟨m1, by omega⟩, by omega⟩
def rowA (t : List Node) (i : Nat) : AV := .arr [.int .i64 (leapI t 0 i), .int .i64 (leapI t 1 i), .int .i64 (leapI t 2 i), .int .i64 (leapI t 3 i)]
@[go_sem] theorem xZ141 : tZero Tryz.prog 141 = some (.arr [.int .i64 0, .int .i64 0, .int .i64 0, .int .i64 0]) := by kernel_rfl
@[go_sem] theorem tArr141 : tArr Tryz.prog 141 = some (4, 3) := by kernel_rfl
@[go_sem] theorem build141 (a : Int) (K : AV → Prop) : buildK Tryz.prog 141 [(0, .int .i64 a)] K = K (.arr [.int .i64 a, .int .i64 0, .int .i64 0, .int .i64 0]) := by
  have hz : tZero Tryz.prog 141 = some (.arr [.int .i64 0, .int .i64 0, .int .i64 0, .int .i64 0]) := by kernel_rfl
  have h3 : tSize Tryz.prog 3 = some 1 := by kernel_rfl
  unfold buildK
  rw [Tryz.underlying141, hz]
  simp [setParts, h3, AV.len, AV.agg, AV.ok]
theorem tis_c {t : List Node} (hm : mayB t = true) {k : Nat} (hk : k < t.length) : Cal Tryz.prog 78 [tav t, .int .i64 k] (.bool true) := by
  have c1 := And.intro (enters_of Tryz.func67 (by kernel_rfl) rfl) (may_pure t)
  rw [hm] at c1
  have e1 : decide ((0 : Int) ≤ (k : Int)) = true := decide_eq_true (by omega)
  have e2 : decide ((k : Int) < (t.length : Int)) = true := decide_eq_true (by omega)
  have ff := And.intro e1 e2
  have hR : Tryz.f78.results.toList = [.tmp 4] := rfl
  refine ⟨enters_of Tryz.func78 (by kernel_rfl) rfl, pure_of_tr Tryz.func78 rfl (Nat.le_of_ble_eq_true rfl) rfl fun E hE hP => ?_⟩
  exact mX
def arr4 (a b c d : Int) : AV := .arr [.int .i64 a, .int .i64 b, .int .i64 c, .int .i64 d]
attribute [go_sem] arr4
def accP (p0 p1 p2 p3 : Int) : Nat → AV
  | 0 => arr4 p0 0 0 0
  | 1 => arr4 p0 p1 0 0
  | 2 => arr4 p0 p1 p2 0
  | _ => arr4 p0 p1 p2 p3
def lowI : Nat → Int
  | 0 => 0
  | 1 => 1
  | 2 => 2
  | _ => 3
def rowT (t : List Node) (i : Nat) : List AV := (List.range i).map (rowA t)
theorem rowT_get (t : List Node) {i j : Nat} (h : j < i) : (rowT t i)[j]? = some (arr4 (leapI t 0 j) (leapI t 1 j) (leapI t 2 j) (leapI t 3 j)) := by
  unfold rowT
  rw [List.getElem?_map, List.getElem?_range h]
  rfl
theorem rowT_len (t : List Node) (i : Nat) : (rowT t i).length = i := by simp [rowT]
theorem table_c {t : List Node} (hm : mayB t = true) : Cal Tryz.prog 79 [tav t] (.sl (rowT t t.length) false) := by
  have hml := may_len hm
  have hR : Tryz.f79.results.toList = [.tmp 2] := rfl
  refine ⟨enters_of Tryz.func79 (by kernel_rfl) rfl, pure_of_tr Tryz.func79 rfl (Nat.le_of_ble_eq_true rfl) rfl fun E hE hP => ?_⟩
  refine mW ?_
  refine Tr.wk (Wk.nil 3 4 rfl) ?_
  refine Tr.loop (fun i : Nat => (⟨[(3, .ms 0 4 i), (9, .sl (t.map Node.av) false), (10, .int .i64 t.length), (11, .int .i64 i)], [(0, .row 4 (rowT t i))], 1, []⟩ : S)) (fun i => i ≤ t.length) (fun i => t.length - i) 0 (Nat.zero_le _) ?_ ?_
  · refine wk_ren (fun | 0 => 112 | n => n) ?_ ?_ rfl rfl rfl
    · repeat' (first | exact rfl | exact trivial | constructor)
    · repeat' (first | exact rfl | exact trivial | constructor)
  · intro i hi
    by_cases hlt : i < t.length
    · have e1 : decide ((i : Int) < (t.length : Int)) = true := decide_eq_true (by omega)
      have hn := nth_node hlt
      have hw := wrap_next (n := i) (by omega)
      have hsp : ∀ k, leapI t k i = -1 ∨ (0 ≤ leapI t k i ∧ leapI t k i < i) := fun k => by
        obtain ⟨q1, q2⟩ := leap_spec hm k (i : Int) (by omega) (by omega)
        rcases Int.lt_or_le (dep t i) (2 ^ k) with h | h
        · exact .inl (q2 h)
        · exact .inr (q1 h).1
      have hl0 : leapI t 0 i = (t.getD i zNode).parent := parI_nat t i
      have r0 := hsp 0
      have r1 := hsp 1
      have r2 := hsp 2
      have s1 : leapI t 1 i = if leapI t 0 i = -1 then -1 else leapI t 0 (leapI t 0 i) := rfl
      have s2 : leapI t 2 i = if leapI t 1 i = -1 then -1 else leapI t 1 (leapI t 1 i) := rfl
      have s3 : leapI t 3 i = if leapI t 2 i = -1 then -1 else leapI t 2 (leapI t 2 i) := rfl
      have hrow : rowT t (i + 1) = rowT t i ++ [arr4 (leapI t 0 i) (leapI t 1 i) (leapI t 2 i) (leapI t 3 i)] := by
        unfold rowT
        rw [List.range_succ, List.map_append]
        rfl
      have hget := fun j (h : j < i) => rowT_get t (i := i) (j := j) h
      have hlen := rowT_len t i
      generalize leapI t 3 i = p3 at s3 hrow
      generalize leapI t 2 i = p2 at s2 s3 r2 hrow
      generalize leapI t 1 i = p1 at s1 s2 r1 hrow
      generalize leapI t 0 i = p0 at s1 r0 hrow hl0
      generalize t.getD i zNode = n at hn hl0
      generalize rowT t i = R at hrow hget hlen
      have ff := And.intro e1 (And.intro hn hl0.symm)
      refine mW ?_
      refine Tr.loop (fun k : Nat => (⟨[(3, .ms 0 4 i), (6, .ptr 1 [] 0), (9, .sl (t.map Node.av) false), (10, .int .i64 t.length), (11, .int .i64 i), (18, .int .i64 (lowI k))], [(0, .row 4 R), (1, .var (accP p0 p1 p2 p3 k))], 2, []⟩ : S)) (fun k => k ≤ 3) (fun k => 3 - k) 0 (Nat.zero_le _) ?_ ?_
      · refine wk_ren (fun | 1 => 129 | n => n) ?_ ?_ rfl rfl rfl
        · repeat' (first | exact rfl | exact trivial | constructor)
        · repeat' (first | exact rfl | exact trivial | constructor)
      · intro k hk
        have w1 : IntKind.i64.wrap 1 = 1 := by decide
        have w2 : IntKind.i64.wrap 2 = 2 := by decide
        have w3 : IntKind.i64.wrap 3 = 3 := by decide
        obtain rfl | rfl | rfl | rfl : k = 0 ∨ k = 1 ∨ k = 2 ∨ k = 3 := by omega
        · by_cases hp : p0 = -1
          · rw [if_pos hp] at s1
            subst hp
            subst s1
            have ff := And.intro w1 (And.intro w2 w3)
            simp only [accP, lowI]
            refine mW ?_
            refine ⟨1, by omega, by omega, ?_⟩
            exact mK
          · rw [if_neg hp] at s1
            obtain ⟨j, rfl⟩ : ∃ j : Nat, p0 = j := ⟨p0.toNat, by omega⟩
            have hg := hget j (by omega)
            have e2 : decide ((j : Int) = -1) = false := decide_eq_false (by omega)
            subst s1
            have ff := And.intro e2 (And.intro hg (And.intro hlen (And.intro w1 (And.intro w2 w3))))
            simp only [accP, lowI]
            refine mW ?_
            refine ⟨1, by omega, by omega, ?_⟩
            exact mK
        · by_cases hp : p1 = -1
          · rw [if_pos hp] at s2
            subst hp
            subst s2
            have ff := And.intro w1 (And.intro w2 w3)
            simp only [accP, lowI]
            refine mW ?_
            refine ⟨2, by omega, by omega, ?_⟩
            exact mK
          · rw [if_neg hp] at s2
            obtain ⟨j, rfl⟩ : ∃ j : Nat, p1 = j := ⟨p1.toNat, by omega⟩
            have hg := hget j (by omega)
            have e2 : decide ((j : Int) = -1) = false := decide_eq_false (by omega)
            subst s2
            have ff := And.intro e2 (And.intro hg (And.intro hlen (And.intro w1 (And.intro w2 w3))))
            simp only [accP, lowI]
            refine mW ?_
            refine ⟨2, by omega, by omega, ?_⟩
            exact mK
        · by_cases hp : p2 = -1
          · rw [if_pos hp] at s3
            subst hp
            subst s3
            have ff := And.intro w1 (And.intro w2 w3)
            simp only [accP, lowI]
            refine mW ?_
            refine ⟨3, by omega, by omega, ?_⟩
            exact mK
          · rw [if_neg hp] at s3
            obtain ⟨j, rfl⟩ : ∃ j : Nat, p2 = j := ⟨p2.toNat, by omega⟩
            have hg := hget j (by omega)
            have e2 : decide ((j : Int) = -1) = false := decide_eq_false (by omega)
            subst s3
            have ff := And.intro e2 (And.intro hg (And.intro hlen (And.intro w1 (And.intro w2 w3))))
            simp only [accP, lowI]
            refine mW ?_
            refine ⟨3, by omega, by omega, ?_⟩
            exact mK
        · have hb : R.length + 1 ≤ 140737488355328 := by omega
          have ff := And.intro hlen (And.intro hw hb)
          simp only [accP, lowI]
          refine mW ?_
          refine ⟨i + 1, hlt, by omega, ?_⟩
          rw [hrow]
          refine wk_ren (fun | 0 => 66 | n => n) ?_ ?_ rfl rfl rfl
          · repeat' (first | exact rfl | exact trivial | constructor)
          · repeat' (first | exact rfl | exact trivial | constructor)
    · have e1 : decide ((i : Int) < (t.length : Int)) = false := decide_eq_false (by omega)
      have hil : i = t.length := by omega
      subst hil
      have hlen := rowT_len t t.length
      have ff := And.intro e1 hlen
      exact mX
end Go.Proofs.YtfbfedpjahpnmaaGreatDoor

/- How deep one is. -/
set_option linter.unusedSimpArgs false
set_option maxRecDepth 10000
namespace Go.Proofs.YtfbfedpjahpnmaaGreatDoor
open Go Go.Ab

def downI : Nat → Int
  | 0 => 3
  | 1 => 2
  | 2 => 1
  | 3 => 0
  | _ => -1
@[go_sem] theorem nth4_0 (a b c d : AV) : nth [a, b, c, d] 0 = some a := rfl
@[go_sem] theorem nth4_1 (a b c d : AV) : nth [a, b, c, d] 1 = some b := rfl
@[go_sem] theorem nth4_2 (a b c d : AV) : nth [a, b, c, d] 2 = some c := rfl
@[go_sem] theorem nth4_3 (a b c d : AV) : nth [a, b, c, d] 3 = some d := rfl
theorem nthR {R : List AV} {x : Nat} {y : AV} (h : R[x]? = some y) : nth R (x : Int) = some y := by
  unfold nth
  rw [if_pos (by omega), Int.toNat_natCast]
  exact h
theorem deep_c {t : List Node} (hm : mayB t = true) {a : Nat} (ha : a < t.length) : Cal Tryz.prog 38 [tav t, .int .i64 a] (.int .i64 (dep t a)) := by
  have hml := may_len hm
  have c1 := tis_c hm ha
  have c2 := table_c hm
  have hlen := rowT_len t t.length
  have hget := fun j (h : j < t.length) => rowT_get t (i := t.length) (j := j) h
  have hda := dep_range hm t.length (a : Int) (by omega) (by omega) (by omega)
  generalize rowT t t.length = R at c2 hlen hget
  have hR : Tryz.f38.results.toList = [.tmp 4] := rfl
  refine ⟨enters_of Tryz.func38 (by kernel_rfl) rfl, pure_of_tr Tryz.func38 rfl (Nat.le_of_ble_eq_true rfl) rfl fun E hE hP => ?_⟩
  refine mW ?_
  refine Tr.loop (fun p : Nat × Nat × Nat => (⟨[(1, .int .i64 p.2.1), (5, .int .i64 p.2.2), (6, .sl R false), (7, .int .i64 (downI p.1))], [], 0, []⟩ : S)) (fun p => p.1 ≤ 4 ∧ p.2.1 < t.length ∧ (p.2.2 : Int) + dep t p.2.1 = dep t a ∧ dep t p.2.1 < 2 ^ (4 - p.1)) (fun p => 4 - p.1) (0, a, 0) ⟨by simp, ha, by simp, by show dep t a < 16; omega⟩ ?_ ?_
  · refine wk_ren (fun n => n) ?_ ?_ rfl rfl rfl
    · repeat' (first | exact rfl | exact trivial | constructor)
    · repeat' (first | exact rfl | exact trivial | constructor)
  · rintro ⟨p, x, n⟩ ⟨hp, hx, hn, hd⟩
    simp only at hp hx hn hd ⊢
    have hg : nth R (x : Int) = some (arr4 (leapI t 0 x) (leapI t 1 x) (leapI t 2 x) (leapI t 3 x)) := nthR (hget x hx)
    have hdx := dep_range hm t.length (x : Int) (by omega) (by omega) (by omega)
    have w1 : IntKind.i64.wrap 1 = 1 := by decide
    have w2 : IntKind.i64.wrap 2 = 2 := by decide
    have w4 : IntKind.i64.wrap 4 = 4 := by decide
    have w8 : IntKind.i64.wrap 8 = 8 := by decide
    have w0 : IntKind.i64.wrap 0 = 0 := by decide
    have wm : IntKind.i64.wrap (-1) = -1 := by decide
    obtain rfl | rfl | rfl | rfl | rfl : p = 0 ∨ p = 1 ∨ p = 2 ∨ p = 3 ∨ p = 4 := by omega
    · obtain ⟨q1, q2⟩ := leap_spec hm 3 (x : Int) (by omega) (by omega)
      by_cases hl : leapI t 3 x = -1
      · have e2 : decide (leapI t 3 x = -1) = true := decide_eq_true hl
        have hd2 : dep t x < 8 := by
          rcases Int.lt_or_le (dep t x) 8 with h | h
          · exact h
          · have := (q1 h).1.1
            omega
        have ff := And.intro hg (And.intro e2 (And.intro w1 (And.intro w2 (And.intro w0 wm))))
        simp only [downI]
        refine mW ?_
        refine ⟨(1, x, n), ⟨Nat.le_of_ble_eq_true rfl, hx, hn, hd2⟩, Nat.le_of_ble_eq_true rfl, ?_⟩
        exact mK
      · have hd2 : ¬ dep t x < 8 := fun h => hl (q2 h)
        obtain ⟨⟨q3, q4⟩, q5⟩ := q1 (by show (8 : Int) ≤ _; omega)
        obtain ⟨y, hy⟩ : ∃ y : Nat, leapI t 3 x = y := ⟨(leapI t 3 x).toNat, by omega⟩
        have e2 : decide ((y : Int) = -1) = false := decide_eq_false (by omega)
        have hsh : IntKind.i64.wrap ((n : Int) + IntKind.i64.wrap (1 * 2 ^ min 3 64)) = ((n + 8 : Nat) : Int) := by
          rw [show IntKind.i64.wrap (1 * 2 ^ min 3 64) = 8 by decide, wrap64_id (by omega) (by omega)]
          omega
        have ff := And.intro hg (And.intro hy (And.intro e2 (And.intro hsh (And.intro w1 (And.intro w2 (And.intro w0 wm))))))
        rw [hy] at q4 q5
        simp only [downI]
        refine mW ?_
        have hd3 : dep t y < 8 := by
          have h6 : dep t x < 16 := hd
          have h7 : dep t y = dep t x - 8 := q5
          omega
        have hn3 : ((n + 8 : Nat) : Int) + dep t y = dep t a := by
          have h7 : dep t y = dep t x - 8 := q5
          omega
        refine ⟨(1, y, n + 8), ⟨Nat.le_of_ble_eq_true rfl, by show y < _; omega, hn3, hd3⟩, Nat.le_of_ble_eq_true rfl, ?_⟩
        exact mK
    · obtain ⟨q1, q2⟩ := leap_spec hm 2 (x : Int) (by omega) (by omega)
      by_cases hl : leapI t 2 x = -1
      · have e2 : decide (leapI t 2 x = -1) = true := decide_eq_true hl
        have hd2 : dep t x < 4 := by
          rcases Int.lt_or_le (dep t x) 4 with h | h
          · exact h
          · have := (q1 h).1.1
            omega
        have ff := And.intro hg (And.intro e2 (And.intro w1 (And.intro w2 (And.intro w0 wm))))
        simp only [downI]
        refine mW ?_
        refine ⟨(2, x, n), ⟨Nat.le_of_ble_eq_true rfl, hx, hn, hd2⟩, Nat.le_of_ble_eq_true rfl, ?_⟩
        exact mK
      · have hd2 : ¬ dep t x < 4 := fun h => hl (q2 h)
        obtain ⟨⟨q3, q4⟩, q5⟩ := q1 (by show (4 : Int) ≤ _; omega)
        obtain ⟨y, hy⟩ : ∃ y : Nat, leapI t 2 x = y := ⟨(leapI t 2 x).toNat, by omega⟩
        have e2 : decide ((y : Int) = -1) = false := decide_eq_false (by omega)
        have hsh : IntKind.i64.wrap ((n : Int) + IntKind.i64.wrap (1 * 2 ^ min 2 64)) = ((n + 4 : Nat) : Int) := by
          rw [show IntKind.i64.wrap (1 * 2 ^ min 2 64) = 4 by decide, wrap64_id (by omega) (by omega)]
          omega
        have ff := And.intro hg (And.intro hy (And.intro e2 (And.intro hsh (And.intro w1 (And.intro w2 (And.intro w0 wm))))))
        rw [hy] at q4 q5
        simp only [downI]
        refine mW ?_
        have hd3 : dep t y < 4 := by
          have h6 : dep t x < 8 := hd
          have h7 : dep t y = dep t x - 4 := q5
          omega
        have hn3 : ((n + 4 : Nat) : Int) + dep t y = dep t a := by
          have h7 : dep t y = dep t x - 4 := q5
          omega
        refine ⟨(2, y, n + 4), ⟨Nat.le_of_ble_eq_true rfl, by show y < _; omega, hn3, hd3⟩, Nat.le_of_ble_eq_true rfl, ?_⟩
        exact mK
    · obtain ⟨q1, q2⟩ := leap_spec hm 1 (x : Int) (by omega) (by omega)
      by_cases hl : leapI t 1 x = -1
      · have e2 : decide (leapI t 1 x = -1) = true := decide_eq_true hl
        have hd2 : dep t x < 2 := by
          rcases Int.lt_or_le (dep t x) 2 with h | h
          · exact h
          · have := (q1 h).1.1
            omega
        have ff := And.intro hg (And.intro e2 (And.intro w1 (And.intro w2 (And.intro w0 wm))))
        simp only [downI]
        refine mW ?_
        refine ⟨(3, x, n), ⟨Nat.le_of_ble_eq_true rfl, hx, hn, hd2⟩, Nat.le_of_ble_eq_true rfl, ?_⟩
        exact mK
      · have hd2 : ¬ dep t x < 2 := fun h => hl (q2 h)
        obtain ⟨⟨q3, q4⟩, q5⟩ := q1 (by show (2 : Int) ≤ _; omega)
        obtain ⟨y, hy⟩ : ∃ y : Nat, leapI t 1 x = y := ⟨(leapI t 1 x).toNat, by omega⟩
        have e2 : decide ((y : Int) = -1) = false := decide_eq_false (by omega)
        have hsh : IntKind.i64.wrap ((n : Int) + IntKind.i64.wrap (1 * 2 ^ min 1 64)) = ((n + 2 : Nat) : Int) := by
          rw [show IntKind.i64.wrap (1 * 2 ^ min 1 64) = 2 by decide, wrap64_id (by omega) (by omega)]
          omega
        have ff := And.intro hg (And.intro hy (And.intro e2 (And.intro hsh (And.intro w1 (And.intro w2 (And.intro w0 wm))))))
        rw [hy] at q4 q5
        simp only [downI]
        refine mW ?_
        have hd3 : dep t y < 2 := by
          have h6 : dep t x < 4 := hd
          have h7 : dep t y = dep t x - 2 := q5
          omega
        have hn3 : ((n + 2 : Nat) : Int) + dep t y = dep t a := by
          have h7 : dep t y = dep t x - 2 := q5
          omega
        refine ⟨(3, y, n + 2), ⟨Nat.le_of_ble_eq_true rfl, by show y < _; omega, hn3, hd3⟩, Nat.le_of_ble_eq_true rfl, ?_⟩
        exact mK
    · obtain ⟨q1, q2⟩ := leap_spec hm 0 (x : Int) (by omega) (by omega)
      by_cases hl : leapI t 0 x = -1
      · have e2 : decide (leapI t 0 x = -1) = true := decide_eq_true hl
        have hd2 : dep t x < 1 := by
          rcases Int.lt_or_le (dep t x) 1 with h | h
          · exact h
          · have := (q1 h).1.1
            omega
        have ff := And.intro hg (And.intro e2 (And.intro w1 (And.intro w2 (And.intro w0 wm))))
        simp only [downI]
        refine mW ?_
        refine ⟨(4, x, n), ⟨Nat.le_of_ble_eq_true rfl, hx, hn, hd2⟩, Nat.le_of_ble_eq_true rfl, ?_⟩
        exact mK
      · have hd2 : ¬ dep t x < 1 := fun h => hl (q2 h)
        obtain ⟨⟨q3, q4⟩, q5⟩ := q1 (by show (1 : Int) ≤ _; omega)
        obtain ⟨y, hy⟩ : ∃ y : Nat, leapI t 0 x = y := ⟨(leapI t 0 x).toNat, by omega⟩
        have e2 : decide ((y : Int) = -1) = false := decide_eq_false (by omega)
        have hsh : IntKind.i64.wrap ((n : Int) + IntKind.i64.wrap (1 * 2 ^ min 0 64)) = ((n + 1 : Nat) : Int) := by
          rw [show IntKind.i64.wrap (1 * 2 ^ min 0 64) = 1 by decide, wrap64_id (by omega) (by omega)]
          omega
        have ff := And.intro hg (And.intro hy (And.intro e2 (And.intro hsh (And.intro w1 (And.intro w2 (And.intro w0 wm))))))
        rw [hy] at q4 q5
        simp only [downI]
        refine mW ?_
        have hd3 : dep t y < 1 := by
          have h6 : dep t x < 2 := hd
          have h7 : dep t y = dep t x - 1 := q5
          omega
        have hn3 : ((n + 1 : Nat) : Int) + dep t y = dep t a := by
          have h7 : dep t y = dep t x - 1 := q5
          omega
        refine ⟨(4, y, n + 1), ⟨Nat.le_of_ble_eq_true rfl, by show y < _; omega, hn3, hd3⟩, Nat.le_of_ble_eq_true rfl, ?_⟩
        exact mK
    · have hd6 : dep t x < 1 := hd
      rw [show dep t a = (n : Int) by omega]
      simp only [downI]
      have ff := w0
      exact mX
end Go.Proofs.YtfbfedpjahpnmaaGreatDoor

/- The law of answers: the walk. -/
set_option linter.unusedSimpArgs false
set_option maxRecDepth 10000
namespace Go.Proofs.YtfbfedpjahpnmaaGreatDoor
open Go Go.Ab

@[go_sem] theorem build34_0 (K : AV → Prop) : buildK Tryz.prog 34 [] K = K (.root zroot) := by
  simp [buildK, Tryz.underlying34, tZero23, tSize5]
theorem bool_eqb (a b : Bool) : (AV.bool a).eqb (.bool b) = decide (a = b) := by cases a <;> cases b <;> rfl
theorem fits4 (a : Bool) : fits Tryz.prog (.bool a) 4 = true := by kernel_rfl
@[go_sem] theorem bneq4 (a b : Bool) (K : AV → Prop) : binK Tryz.prog .neq 4 (.bool a) (.bool b) K = K (.bool !(decide (a = b))) :=
  bin_neq_of (fun _ _ h => by cases h) (fun _ h => by cases h) (fits4 a) (fits4 b) (Nat.le_of_ble_eq_true rfl) (by kernel_rfl) (bool_eqb a b) K
end Go.Proofs.YtfbfedpjahpnmaaGreatDoor

/- Readers: the chapter's example, and laws. -/
set_option linter.unusedSimpArgs false
set_option maxRecDepth 10000
namespace Go.Proofs.YtfbfedpjahpnmaaGreatDoor
open Go Go.Ab

def s1 : Snap := ⟨1, one (rootN 1), rootN 1, ⟨0, rootN 1⟩, ⟨0, rootN 1⟩⟩
def cz : Ask := ⟨0, [], zroot, zroot, 0⟩
theorem e0_of1 : ofR e0 1 = s1 := by decide +kernel
theorem s1_run : runR s1 c0 = (⟨0, rootN 1, false, ⟨0, zroot⟩⟩, 1) := by
  rw [run_one (.inl rfl)]
  rfl
theorem awake19_t : CalT Tryz.prog 0 tabV 31 [] (.bool true) := by
  have x1 := of_t e0 e0_few e0_ok 1
  rw [e0_of1] at x1
  have c1 := enew_c (rootN 1) [1] (by decide)
  have c2 := run_c s1 c0 (by decide)
  rw [s1_run] at c2
  have c3 := start_c cz (by decide)
  have h1 : decide ((1 : Int) = 1) = true := rfl
  have h2 : decide (rootN 1 = rootN 1) = true := decide_eq_true rfl
  have h3 : decide ((startR cz).pos = -1) = true := rfl
  have ff := And.intro h1 (And.intro h2 h3)
  have hR : Tryz.f31.results.toList = [.tmp 0] := rfl
  refine ⟨enters_of Tryz.func31 (by kernel_rfl) rfl, eff_of_tr Tryz.func31 rfl (Nat.le_of_ble_eq_true rfl) (by first | rfl | (simp only [AV.idsB, AV.idsBL, Bool.and_true, Bool.true_and] <;> rfl)) fun E hE hP => ?_⟩
  exact mX
end Go.Proofs.YtfbfedpjahpnmaaGreatDoor

/- The law of how long readers take. -/
set_option linter.unusedSimpArgs false
set_option maxRecDepth 10000
namespace Go.Proofs.YtfbfedpjahpnmaaGreatDoor
open Go Go.Ab

theorem long_no (s : Snap) (c : Ask) (hl : c.vals.length ≤ 140737488351232) (hs : smayR s = true) (h : c.kind ≠ 6 ∨ findR s.t c.a < 0) : CalT Tryz.prog 0 tabV 13 [s.av, c.av] (.bool true) := by
  have x1 := awake19_t
  have c1 := smay_c s
  rw [hs] at c1
  have c2 := run_c s c hl
  have c3 := And.intro (enters_of Tryz.func26 (by kernel_rfl) rfl) (find_pure s.t c.a)
  have hm := smay_tree hs
  have hml := may_len hm
  have hw := wrap_next (n := s.t.length) (by omega)
  have hn : ∃ n : Int, runR s c = (askR s c, n) ∧ (n = 1 ∨ (c.kind = 7 ∧ n ≤ s.t.length + 1 ∧ 0 ≤ findR s.t c.a)) := by
    rcases findR_range s.t c.a with ha | ha
    · exact ⟨1, run_one (.inr (.inl ha)), .inl rfl⟩
    · have h6 := h.resolve_right (by omega)
      by_cases h7 : c.kind = 7
      · rcases findR_range s.t c.b with hb | hb
        · exact ⟨1, run_one (.inr (.inr ⟨h7, hb⟩)), .inl rfl⟩
        · obtain ⟨k, hk, hr⟩ := run_7 hs h7 ha.1 hb.1
          exact ⟨_, hr, .inr ⟨h7, by omega, ha.1⟩⟩
      · exact ⟨1, run_one (.inl (by simp [wayB, h6, h7])), .inl rfl⟩
  obtain ⟨n, hr, hn⟩ := hn
  rw [hr] at c2
  generalize askR s c = A at c2
  have h' : (decide (c.kind = 6)) = false ∨ decide (findR s.t c.a < 0) = true := by
    rcases h with h | h
    · exact .inl (decide_eq_false h)
    · exact .inr (decide_eq_true h)
  rcases hn with rfl | ⟨h7, hn, ha⟩
  · have e1 : decide ((1 : Int) = 1) = true := rfl
    generalize findR s.t c.a = a at c3 h'
    rcases Bool.eq_false_or_eq_true (decide (c.kind = 6)) with g | g
    · have g2 := h'.resolve_left (by rw [g]; decide)
      have ff := And.intro e1 (And.intro g g2)
      have hR : Tryz.f13.results.toList = [.tmp 4] := rfl
      refine ⟨enters_of Tryz.func13 (by kernel_rfl) rfl, eff_of_tr Tryz.func13 rfl (Nat.le_of_ble_eq_true rfl) (by first | rfl | (simp only [AV.idsB, AV.idsBL, Bool.and_true, Bool.true_and] <;> rfl)) fun E hE hP => ?_⟩
      exact mX
    · have ff := And.intro e1 g
      have hR : Tryz.f13.results.toList = [.tmp 4] := rfl
      refine ⟨enters_of Tryz.func13 (by kernel_rfl) rfl, eff_of_tr Tryz.func13 rfl (Nat.le_of_ble_eq_true rfl) (by first | rfl | (simp only [AV.idsB, AV.idsBL, Bool.and_true, Bool.true_and] <;> rfl)) fun E hE hP => ?_⟩
      exact mX
  · have g : decide (c.kind = 6) = false := decide_eq_false (by omega)
    have g7 : decide (c.kind = 7) = true := decide_eq_true h7
    have e2 : decide (n ≤ ((s.t.length + 1 : Nat) : Int)) = true := decide_eq_true (by omega)
    have e3 : decide (0 ≤ findR s.t c.a) = true := decide_eq_true ha
    generalize findR s.t c.a = a at c3 e3
    rcases Bool.eq_false_or_eq_true (decide (n = 1)) with e1 | e1
    · have ff := And.intro e1 g
      have hR : Tryz.f13.results.toList = [.tmp 4] := rfl
      refine ⟨enters_of Tryz.func13 (by kernel_rfl) rfl, eff_of_tr Tryz.func13 rfl (Nat.le_of_ble_eq_true rfl) (by first | rfl | (simp only [AV.idsB, AV.idsBL, Bool.and_true, Bool.true_and] <;> rfl)) fun E hE hP => ?_⟩
      exact mX
    · have ff := And.intro e1 (And.intro g (And.intro g7 (And.intro hw (And.intro e2 e3))))
      have hR : Tryz.f13.results.toList = [.tmp 4] := rfl
      refine ⟨enters_of Tryz.func13 (by kernel_rfl) rfl, eff_of_tr Tryz.func13 rfl (Nat.le_of_ble_eq_true rfl) (by first | rfl | (simp only [AV.idsB, AV.idsBL, Bool.and_true, Bool.true_and] <;> rfl)) fun E hE hP => ?_⟩
      exact mX
theorem long_yes (s : Snap) (c : Ask) (hl : c.vals.length ≤ 140737488351232) (hs : smayR s = true) (h6 : c.kind = 6) (ha : 0 ≤ findR s.t c.a) : CalT Tryz.prog 0 tabV 13 [s.av, c.av] (.bool true) := by
  have x1 := awake19_t
  have c1 := smay_c s
  rw [hs] at c1
  have c2 := run_c s c hl
  have c3 := And.intro (enters_of Tryz.func26 (by kernel_rfl) rfl) (find_pure s.t c.a)
  have hm := smay_tree hs
  have hml := may_len hm
  have hr := run_6 hs h6 ha
  rw [hr] at c2
  have hA : askR s c = ans3R s (findR s.t c.a) c.slot := by
    unfold askR
    rw [if_pos hs, if_neg (by omega), if_neg (by omega), if_pos h6]
  rw [hA] at c2
  have har := (findR_range s.t c.a).resolve_left (by omega)
  have hlt := atR_lt s.t (findR s.t c.a) c.slot
  generalize findR s.t c.a = a at c2 c3 ha har hlt
  obtain ⟨a, rfl⟩ : ∃ k : Nat, a = k := ⟨a.toNat, by omega⟩
  have c4 := deep_c hm (a := a) (by omega)
  have hd := dep_range hm s.t.length (a : Int) (by omega) (by omega) (by omega)
  have g : decide (c.kind = 6) = true := decide_eq_true h6
  have g2 : decide ((a : Int) < 0) = false := decide_eq_false (by omega)
  rw [ans3R, if_neg (by omega)] at c2
  have hsn : 0 ≤ slotC s.t (atR s.t a c.slot) a := by
    rw [atR_in hm (by omega) (by omega)]
    exact (slotC_nonneg hm s.t.length (a : Int) (by omega) (by omega) (by omega)).1
  generalize atR s.t a c.slot = x at c2 hlt hsn
  by_cases hx : x < 0
  · rw [if_pos hx, slotC, if_pos hx] at c2
    unfold failR at c2
    generalize dep s.t a = D at c2 c4 hd
    have hw : IntKind.i64.wrap (D + 2) = D + 2 := by rw [wrap64_id (by omega) (by omega)]
    have e1 : decide (2 + D = D + 2) = true := decide_eq_true (by omega)
    have ff := And.intro g (And.intro g2 (And.intro hw e1))
    have hR : Tryz.f13.results.toList = [.tmp 4] := rfl
    refine ⟨enters_of Tryz.func13 (by kernel_rfl) rfl, eff_of_tr Tryz.func13 rfl (Nat.le_of_ble_eq_true rfl) (by first | rfl | (simp only [AV.idsB, AV.idsBL, Bool.and_true, Bool.true_and] <;> rfl)) fun E hE hP => ?_⟩
    exact mX
  · rw [if_neg hx, slotC, if_neg hx] at c2
    rw [slotC, if_neg hx] at hsn
    obtain ⟨x, rfl⟩ : ∃ k : Nat, x = k := ⟨x.toNat, by omega⟩
    rw [Int.toNat_natCast] at c2
    have c5 := And.intro (enters_of Tryz.func26 (by kernel_rfl) rfl) (find_pure s.t (s.t.getD x zNode).root)
    rw [find_self hm (by omega)] at c5
    have c6 := deep_c hm (a := x) (by omega)
    have hd2 := dep_range hm s.t.length (x : Int) (by omega) (by omega) (by omega)
    generalize (s.t.getD x zNode).root = R at c2 c5
    generalize dep s.t a = D at c2 c4 hd hsn
    generalize dep s.t x = B at c2 c6 hd2 hsn
    have hw0 : IntKind.i64.wrap (D - B) = D - B := by rw [wrap64_id (by omega) (by omega)]
    have hw : IntKind.i64.wrap (D - B + 2) = D - B + 2 := by rw [wrap64_id (by omega) (by omega)]
    have e1 : decide (2 + (D - B) = D - B + 2) = true := decide_eq_true (by omega)
    have ff := And.intro g (And.intro g2 (And.intro hw0 (And.intro hw e1)))
    have hR : Tryz.f13.results.toList = [.tmp 4] := rfl
    refine ⟨enters_of Tryz.func13 (by kernel_rfl) rfl, eff_of_tr Tryz.func13 rfl (Nat.le_of_ble_eq_true rfl) (by first | rfl | (simp only [AV.idsB, AV.idsBL, Bool.and_true, Bool.true_and] <;> rfl)) fun E hE hP => ?_⟩
    exact mX
theorem long_t (s : Snap) (c : Ask) (hl : c.vals.length ≤ 140737488351232) : CalT Tryz.prog 0 tabV 13 [s.av, c.av] (.bool true) := by
  cases hs : smayR s
  · have x1 := awake19_t
    have c1 := smay_c s
    rw [hs] at c1
    have hR : Tryz.f13.results.toList = [.tmp 4] := rfl
    refine ⟨enters_of Tryz.func13 (by kernel_rfl) rfl, eff_of_tr Tryz.func13 rfl (Nat.le_of_ble_eq_true rfl) (by first | rfl | (simp only [AV.idsB, AV.idsBL, Bool.and_true, Bool.true_and] <;> rfl)) fun E hE hP => ?_⟩
    exact mX
  · by_cases h6 : c.kind = 6
    · rcases Int.lt_or_le (findR s.t c.a) 0 with h | h
      · exact long_no s c hl hs (.inr h)
      · exact long_yes s c hl hs h6 h
    · exact long_no s c hl hs (.inl h6)
end Go.Proofs.YtfbfedpjahpnmaaGreatDoor
