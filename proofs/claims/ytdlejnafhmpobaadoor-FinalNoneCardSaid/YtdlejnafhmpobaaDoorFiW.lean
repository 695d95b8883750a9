/- The chapter's example. -/
import Derived.Test.YtdlejnafhmpobaaDoorFiV
set_option linter.unusedSimpArgs false
set_option maxRecDepth 10000
namespace Go.Proofs.YtdlejnafhmpobaaDoor
open Go Go.Ab

def rootN (n : Int) : Root := rootSet zroot 0 n
def exT : List Node := [⟨rootN 1, -1, 0, 0⟩, ⟨rootN 2, 0, 3, 0⟩, ⟨rootN 3, 1, 5, 0⟩]
def exA : Check := ⟨0, rootN 1⟩
def exB : Check := ⟨1, rootN 2⟩
def exC : Check := ⟨2, rootN 3⟩
def exL : List Link := [⟨exB, exC, 7⟩, ⟨exA, exB, 14⟩]
def exW : List Int := [1, 1, 1, 1]
@[go_sem] theorem build89_01 (r : Root) (p : Int) (K : AV → Prop) : buildK Tryd.prog 89 [(0, .root r), (1, .int .i64 p)] K = K (Node.mk r p 0 0).av := build_struct Tryd.underlying89 tZero63 rfl (by kernel_rfl) rfl K
@[go_sem] theorem build89_02 (r : Root) (s : Int) (K : AV → Prop) : buildK Tryd.prog 89 [(0, .root r), (2, .int .u64 s)] K = K (Node.mk r 0 s 0).av := build_struct Tryd.underlying89 tZero63 rfl (by kernel_rfl) rfl K
@[go_sem] theorem build89_012 (r : Root) (p s : Int) (K : AV → Prop) : buildK Tryd.prog 89 [(0, .root r), (1, .int .i64 p), (2, .int .u64 s)] K = K (Node.mk r p s 0).av := build_struct Tryd.underlying89 tZero63 rfl (by kernel_rfl) rfl K
@[go_sem] theorem build24 (xs : List AV) (c : Bool) (K : AV → Prop) : buildK Tryd.prog 24 [(0, .sl xs c)] K = K (.st [.sl xs c]) := build_struct Tryd.underlying24 tZero47 rfl (by kernel_rfl) rfl K
@[go_sem] theorem und30 : Tryd.prog.underlying 30 = some (.array 32 5) := Tryd.underlying30
theorem build30 (n : Int) (h0 : 0 ≤ n) (h1 : n < 256) (K : AV → Prop) : buildK Tryd.prog 30 [(0, .int .u8 n)] K = K (.root (rootN n)) := by
  simp [buildK, und30, tZero23, tSize5, h0, h1, rootN]
@[go_sem] theorem build30_1 (K : AV → Prop) : buildK Tryd.prog 30 [(0, .int .u8 1)] K = K (.root (rootN 1)) := build30 1 (by decide) (by decide) K
@[go_sem] theorem build30_2 (K : AV → Prop) : buildK Tryd.prog 30 [(0, .int .u8 2)] K = K (.root (rootN 2)) := build30 2 (by decide) (by decide) K
@[go_sem] theorem build30_3 (K : AV → Prop) : buildK Tryd.prog 30 [(0, .int .u8 3)] K = K (.root (rootN 3)) := build30 3 (by decide) (by decide) K
@[go_sem] theorem build32_1 (r : Root) (K : AV → Prop) : buildK Tryd.prog 32 [(1, .root r)] K = K (Check.mk 0 r).av := build_struct Tryd.underlying32 tZero28 rfl (by kernel_rfl) rfl K

theorem three_pure : Pure Tryd.prog 30 [] (tav exT) := by
  refine pure_of_tr Tryd.func30 rfl (Nat.le_of_ble_eq_true rfl) rfl fun E hE hP => ?_
  first | refine tr_seq_region (by rw [hE]; rfl) ?_ | (refine Tr.seq ?_; refine tr_seq_region (by rw [hE]; rfl) ?_)
  repeat (refine vc_op rfl ?_; simp only [go_sem, seval])
  refine vc_nil ?_
  first | apply tr_m (by rw [hE]; rfl) | (refine Tr.seq ?_; apply tr_m (by rw [hE]; rfl))
  intro Q hQ
  simp only [List.toList_toArray, List.map_cons, List.map_nil, mo, guardSlot, Option.map_some, Option.map_none, List.getElem?_toArray, List.getElem?_cons_succ, List.getElem?_cons_zero, Option.bind_some]
  iterate 7 ((refine vm_op ?_); intro r hr; simp only [go_sem, seval]; subst hr)
  iterate 2 ((refine vm_op ?_); intro r hr; simp only [go_sem, seval]; subst hr)
  exact hQ
  refine Tr.ret ?_
  simp only [Tryd.f30, go_sem, seval]
  rfl
theorem two_pure : Pure Tryd.prog 31 [] (links exL) := by
  refine pure_of_tr Tryd.func31 rfl (Nat.le_of_ble_eq_true rfl) rfl fun E hE hP => ?_
  first | refine tr_seq_region (by rw [hE]; rfl) ?_ | (refine Tr.seq ?_; refine tr_seq_region (by rw [hE]; rfl) ?_)
  repeat (refine vc_op rfl ?_; simp only [go_sem, seval])
  refine vc_nil ?_
  first | refine tr_seq_region (by rw [hE]; rfl) ?_ | (refine Tr.seq ?_; refine tr_seq_region (by rw [hE]; rfl) ?_)
  repeat (refine vc_op rfl ?_; simp only [go_sem, seval])
  refine vc_nil ?_
  first | refine tr_seq_region (by rw [hE]; rfl) ?_ | (refine Tr.seq ?_; refine tr_seq_region (by rw [hE]; rfl) ?_)
  repeat (refine vc_op rfl ?_; simp only [go_sem, seval])
  refine vc_nil ?_
  first | refine tr_seq_region (by rw [hE]; rfl) ?_ | (refine Tr.seq ?_; refine tr_seq_region (by rw [hE]; rfl) ?_)
  repeat (refine vc_op rfl ?_; simp only [go_sem, seval])
  refine vc_nil ?_
  first | refine tr_seq_region (by rw [hE]; rfl) ?_ | (refine Tr.seq ?_; refine tr_seq_region (by rw [hE]; rfl) ?_)
  repeat (refine vc_op rfl ?_; simp only [go_sem, seval])
  refine vc_nil ?_
  refine Tr.ret ?_
  simp only [Tryd.f31, go_sem, seval]
  rfl
theorem few_pure (t : List Node) (l : List Link) (js : List Check) : Pure Tryd.prog 10 [tav t, links l, checks js] (.bool (decide (t.length ≤ 20) && (decide (l.length ≤ 20) && decide (js.length ≤ 20)))) := by
  have e1 : decide (t.length ≤ 20) = decide ((t.length : Int) ≤ 20) := decide_eq_decide.2 (by omega)
  have e2 : decide (l.length ≤ 20) = decide ((l.length : Int) ≤ 20) := decide_eq_decide.2 (by omega)
  have e3 : decide (js.length ≤ 20) = decide ((js.length : Int) ≤ 20) := decide_eq_decide.2 (by omega)
  rw [e1, e2, e3]
  unfold links checks
  cases x1 : decide ((t.length : Int) ≤ 20)
  · refine pure_of_tr Tryd.func10 rfl (Nat.le_of_ble_eq_true rfl) rfl fun E hE hP => ?_
    first | refine tr_seq_region (by rw [hE]; rfl) ?_ | (refine Tr.seq ?_; refine tr_seq_region (by rw [hE]; rfl) ?_)
    repeat (refine vc_op rfl ?_; simp only [go_sem, seval])
    refine vc_nil ?_
    first | apply tr_m (by rw [hE]; rfl) | (refine Tr.seq ?_; apply tr_m (by rw [hE]; rfl))
    intro Q hQ
    simp only [List.toList_toArray, List.map_cons, List.map_nil, mo, guardSlot, Option.map_some, Option.map_none, List.getElem?_toArray, List.getElem?_cons_succ, List.getElem?_cons_zero, Option.bind_some]
    iterate 5 ((refine vm_op ?_); intro r hr; simp only [x1, go_sem, seval]; subst hr)
    iterate 3 ((first | refine vm_if rfl ?_ | refine vm_no rfl ?_ | refine vm_skip rfl ?_); intro r hr; simp only [x1, go_sem, seval]; subst hr)
    iterate 2 ((refine vm_op ?_); intro r hr; simp only [x1, go_sem, seval]; subst hr)
    iterate 3 ((first | refine vm_if rfl ?_ | refine vm_no rfl ?_ | refine vm_skip rfl ?_); intro r hr; simp only [x1, go_sem, seval]; subst hr)
    iterate 2 ((refine vm_op ?_); intro r hr; simp only [x1, go_sem, seval]; subst hr)
    exact hQ
    refine Tr.ret ?_
    simp only [Bool.false_and, Tryd.f10, go_sem, seval]
  · cases x2 : decide ((l.length : Int) ≤ 20)
    · refine pure_of_tr Tryd.func10 rfl (Nat.le_of_ble_eq_true rfl) rfl fun E hE hP => ?_
      first | refine tr_seq_region (by rw [hE]; rfl) ?_ | (refine Tr.seq ?_; refine tr_seq_region (by rw [hE]; rfl) ?_)
      repeat (refine vc_op rfl ?_; simp only [go_sem, seval])
      refine vc_nil ?_
      first | apply tr_m (by rw [hE]; rfl) | (refine Tr.seq ?_; apply tr_m (by rw [hE]; rfl))
      intro Q hQ
      simp only [List.toList_toArray, List.map_cons, List.map_nil, mo, guardSlot, Option.map_some, Option.map_none, List.getElem?_toArray, List.getElem?_cons_succ, List.getElem?_cons_zero, Option.bind_some]
      iterate 5 ((refine vm_op ?_); intro r hr; simp only [x1, x2, go_sem, seval]; subst hr)
      iterate 3 ((first | refine vm_if rfl ?_ | refine vm_no rfl ?_ | refine vm_skip rfl ?_); intro r hr; simp only [x1, x2, go_sem, seval]; subst hr)
      iterate 2 ((refine vm_op ?_); intro r hr; simp only [x1, x2, go_sem, seval]; subst hr)
      iterate 3 ((first | refine vm_if rfl ?_ | refine vm_no rfl ?_ | refine vm_skip rfl ?_); intro r hr; simp only [x1, x2, go_sem, seval]; subst hr)
      iterate 2 ((refine vm_op ?_); intro r hr; simp only [x1, x2, go_sem, seval]; subst hr)
      exact hQ
      refine Tr.ret ?_
      simp only [Bool.false_and, Bool.true_and, Tryd.f10, go_sem, seval]
    · refine pure_of_tr Tryd.func10 rfl (Nat.le_of_ble_eq_true rfl) rfl fun E hE hP => ?_
      first | refine tr_seq_region (by rw [hE]; rfl) ?_ | (refine Tr.seq ?_; refine tr_seq_region (by rw [hE]; rfl) ?_)
      repeat (refine vc_op rfl ?_; simp only [go_sem, seval])
      refine vc_nil ?_
      first | apply tr_m (by rw [hE]; rfl) | (refine Tr.seq ?_; apply tr_m (by rw [hE]; rfl))
      intro Q hQ
      simp only [List.toList_toArray, List.map_cons, List.map_nil, mo, guardSlot, Option.map_some, Option.map_none, List.getElem?_toArray, List.getElem?_cons_succ, List.getElem?_cons_zero, Option.bind_some]
      iterate 5 ((refine vm_op ?_); intro r hr; simp only [x1, x2, go_sem, seval]; subst hr)
      iterate 3 ((first | refine vm_if rfl ?_ | refine vm_no rfl ?_ | refine vm_skip rfl ?_); intro r hr; simp only [x1, x2, go_sem, seval]; subst hr)
      iterate 2 ((refine vm_op ?_); intro r hr; simp only [x1, x2, go_sem, seval]; subst hr)
      iterate 3 ((first | refine vm_if rfl ?_ | refine vm_no rfl ?_ | refine vm_skip rfl ?_); intro r hr; simp only [x1, x2, go_sem, seval]; subst hr)
      iterate 2 ((refine vm_op ?_); intro r hr; simp only [x1, x2, go_sem, seval]; subst hr)
      exact hQ
      refine Tr.ret ?_
      simp only [Bool.true_and, Tryd.f10, go_sem, seval]

theorem ex_ok : okB exW ∧ okL exL ∧ okC exL := by
  refine ⟨fun x hx => ?_, fun a ha => ?_, fun a ha => ?_⟩
  · simp only [exW, List.mem_cons, List.not_mem_nil, or_false] at hx
    omega
  · simp only [exL, List.mem_cons, List.not_mem_nil, or_false] at ha
    rcases ha with rfl | rfl <;> simp
  · simp only [exL, List.mem_cons, List.not_mem_nil, or_false] at ha
    rcases ha with rfl | rfl <;> simp [exA, exB, exC]
theorem ex_more : moreR exT exL exW [exA] = [exA, exB, exC] := by decide +kernel
theorem ex_finals : finalsR exT exL exW [exA, exB, exC] = [exA, exB] := by decide +kernel
theorem ex_next : nextR exT exL exW [exA, exB, exC] exA = exB := by decide +kernel
theorem ex_best : bestR exT [exA, exB, exC] exB = exC := by decide +kernel
theorem ex_chain : chainR exT [exA, exB] = true := by decide +kernel

def stX : S where
  fr := [(1, .ptr 33 [] 0), (3, .sl ([exA, exB, exC].map Check.av) false), (4, .sl ([exA, exB].map Check.av) false), (5, .ptr 34 [] 0)]
  hp := [(0, .tab 0 tabV), (33, .var (tav exT)), (34, .var exB.av)]
  nx := 35
theorem awake_T : PureT Tryd.prog 0 tabV 9 [] (.bool true) := by
  obtain ⟨o1, o2, o3⟩ := ex_ok
  have h1 := more_T exT exL exW [exA] (by decide) (by decide) o1 o2
  rw [ex_more] at h1
  have h2 := finals_T exT exL exW [exA, exB, exC] (by decide) (by decide) o1 o2 o3
  rw [ex_finals] at h2
  have h3 := next_T exT exL exW [exA, exB, exC] exA (by decide) (by decide) o1 o2 o3
  rw [ex_next] at h3
  have h4 := best_pure exT [exA, exB, exC] exB (by decide)
  rw [ex_best] at h4
  have h5 := chain_pure exT [exA, exB] (by decide)
  rw [ex_chain] at h5
  refine eff_of_tr Tryd.func9 rfl (Nat.le_of_ble_eq_true rfl) (by first | rfl | (simp only [AV.idsB, AV.idsBL, Bool.and_true, Bool.true_and] <;> rfl)) fun E hE hP => ?_
  first | refine tr_seq_region (by rw [hE]; rfl) ?_ | (refine Tr.seq ?_; refine tr_seq_region (by rw [hE]; rfl) ?_)
  repeat (refine vc_op rfl ?_; simp only [go_sem, seval])
  refine vc_nil ?_
  first | apply tr_m (by rw [hE]; rfl) | (refine Tr.seq ?_; apply tr_m (by rw [hE]; rfl))
  intro Q hQ
  simp only [List.toList_toArray, List.map_cons, List.map_nil, mo, guardSlot, Option.map_some, Option.map_none, List.getElem?_toArray, List.getElem?_cons_succ, List.getElem?_cons_zero, Option.bind_some]
  (refine vm_op ?_); intro r hr; simp only [go_sem, seval]
  refine call_fn rfl rfl rfl rfl (enters_of Tryd.func30 (by kernel_rfl) rfl) (three_pure) rfl rfl rfl ?_
  simp only [go_sem, seval]
  subst hr
  iterate 2 ((refine vm_op ?_); intro r hr; simp only [go_sem, seval]; subst hr)
  exact hQ
  first | refine tr_seq_region (by rw [hE]; rfl) ?_ | (refine Tr.seq ?_; refine tr_seq_region (by rw [hE]; rfl) ?_)
  repeat (refine vc_op rfl ?_; simp only [go_sem, seval])
  refine vc_nil ?_
  first | apply tr_md mixed [33] rfl (by rw [hE]; rfl) (by kernel_rfl) | (refine Tr.seq ?_; apply tr_md mixed [33] rfl (by rw [hE]; rfl) (by kernel_rfl))
  intro Q hQ
  simp only [List.toList_toArray, List.map_cons, List.map_nil, mo, guardSlot, Option.map_some, Option.map_none, List.getElem?_toArray, List.getElem?_cons_succ, List.getElem?_cons_zero, Option.bind_some]
  (refine vd2_q rfl ?_); intro r hr; simp only [go_sem, seval]; subst hr
  (refine vd2_x rfl ?_); intro r hr; simp only [go_sem, seval]
  refine call_fn rfl rfl rfl rfl (enters_of Tryd.func31 (by kernel_rfl) rfl) (two_pure) rfl rfl rfl ?_
  simp only [go_sem, seval]
  subst hr
  iterate 4 ((refine vd2_q rfl ?_); intro r hr; simp only [go_sem, seval]; subst hr)
  (refine vd2_x rfl ?_); intro r hr; simp only [go_sem, seval]
  refine call_eff (fun n => n) [true, true, true, true] [] rfl rfl rfl rfl (enters_of Tryd.func12 (by kernel_rfl) rfl) (h1) rfl rfl (by repeat' (first | exact rfl | exact trivial | constructor)) rfl rfl rfl ?_
  simp only [renH_nil, renH_cons, effR, go_sem, seval]
  subst hr
  (refine vd2_q rfl ?_); intro r hr; simp only [go_sem, seval]; subst hr
  exact hQ
  first | refine tr_seq_region (by rw [hE]; rfl) ?_ | (refine Tr.seq ?_; refine tr_seq_region (by rw [hE]; rfl) ?_)
  repeat (refine vc_op rfl ?_; simp only [checks, go_sem, seval])
  refine vc_nil ?_
  first | refine Tr.cond rfl (fun h => by cases h) (fun _ => ?_) | refine Tr.seq (Tr.cond rfl (fun h => by cases h) (fun _ => ?_))
  refine Tr.skip ?_
  try simp only [blockK, thenK, ↓reduceIte]
  first | apply tr_md mixed [33] rfl (by rw [hE]; rfl) (by kernel_rfl) | (refine Tr.seq ?_; apply tr_md mixed [33] rfl (by rw [hE]; rfl) (by kernel_rfl))
  intro Q hQ
  simp only [List.toList_toArray, List.map_cons, List.map_nil, mo, guardSlot, Option.map_some, Option.map_none, List.getElem?_toArray, List.getElem?_cons_succ, List.getElem?_cons_zero, Option.bind_some]
  (refine vd2_q rfl ?_); intro r hr; simp only [go_sem, seval]; subst hr
  (refine vd2_x rfl ?_); intro r hr; simp only [go_sem, seval]
  refine call_fn rfl rfl rfl rfl (enters_of Tryd.func31 (by kernel_rfl) rfl) (two_pure) rfl rfl rfl ?_
  simp only [go_sem, seval]
  subst hr
  iterate 2 ((refine vd2_q rfl ?_); intro r hr; simp only [go_sem, seval]; subst hr)
  (refine vd2_x rfl ?_); intro r hr; simp only [go_sem, seval]
  refine call_eff (fun n => n) [true, true, true, true] [] rfl rfl rfl rfl (enters_of Tryd.func14 (by kernel_rfl) rfl) (h2) rfl rfl (by repeat' (first | exact rfl | exact trivial | constructor)) rfl rfl rfl ?_
  simp only [renH_nil, renH_cons, effR, go_sem, seval]
  subst hr
  (refine vd2_q rfl ?_); intro r hr; simp only [go_sem, seval]; subst hr
  exact hQ
  refine tr_seq_plan mixed [33] (.one 0 (.one 2 (.one 3 (.one 4 (.one 5 (.one 6 (.two 1 (.two 7 (.one 8 (.one 9 .done)) 8 (.one 7 (.one 9 .done))) 8 (.one 1 (.one 7 (.one 9 .done)))))))))) stX rfl (by rw [hE]; rfl) (by kernel_rfl) ?_ ?_
  · apply pl_q; exact rfl; exact rfl; exact rfl; simp only [List.getElem_toArray, List.getElem_cons_zero, List.getElem_cons_succ, go_sem, seval]
    apply pl_q; exact rfl; exact rfl; exact rfl; simp only [List.getElem_toArray, List.getElem_cons_zero, List.getElem_cons_succ, go_sem, seval]
    apply pl_q; exact rfl; exact rfl; exact rfl; simp only [List.getElem_toArray, List.getElem_cons_zero, List.getElem_cons_succ, go_sem, seval]
    apply pl_q; exact rfl; exact rfl; exact rfl; simp only [List.getElem_toArray, List.getElem_cons_zero, List.getElem_cons_succ, go_sem, seval]
    have hn : nth [exA.av, exB.av, exC.av] 0 = some exA.av := rfl
    apply pl_q; exact rfl; exact rfl; exact rfl; simp only [hn, List.getElem_toArray, List.getElem_cons_zero, List.getElem_cons_succ, go_sem, seval]
    apply pl_q; exact rfl; exact rfl; exact rfl; simp only [List.getElem_toArray, List.getElem_cons_zero, List.getElem_cons_succ, go_sem, seval]
    apply pl_two; exact rfl; exact rfl
    · refine st_x rfl rfl ?_
      simp only [List.getElem_toArray, List.getElem_cons_zero, List.getElem_cons_succ, go_sem, seval]
      refine call_fn rfl rfl rfl rfl (enters_of Tryd.func31 (by kernel_rfl) rfl) (two_pure) rfl rfl rfl ?_
      simp only [go_sem, seval]
      apply pl_two; exact rfl; exact rfl
      · refine st_x rfl rfl ?_
        simp only [List.getElem_toArray, List.getElem_cons_zero, List.getElem_cons_succ, go_sem, seval]
        refine call_eff (fun n => n) [true, true, true, true, true] [] rfl rfl rfl rfl (enters_of Tryd.func17 (by kernel_rfl) rfl) (h3) rfl rfl (by repeat' (first | exact rfl | exact trivial | constructor)) rfl rfl rfl ?_
        simp only [renH_nil, renH_cons, effR, go_sem, seval]
        apply pl_x; exact rfl; refine st_x rfl rfl ?_; simp only [List.getElem_toArray, List.getElem_cons_zero, List.getElem_cons_succ, go_sem, seval]
        apply pl_x; exact rfl; refine st_w rfl rfl (by kernel_rfl) ?_; simp only [List.getElem_toArray, List.getElem_cons_zero, List.getElem_cons_succ, go_sem, seval]
        refine pl_done (st := _) ?_ rfl
        refine wk_ren (fun | 34 => 497 | n => n) ?_ ?_ rfl rfl rfl
        · repeat' (first | exact rfl | exact trivial | constructor)
        · repeat' (first | exact rfl | exact trivial | constructor)
      · refine st_x rfl rfl ?_
        simp only [List.getElem_toArray, List.getElem_cons_zero, List.getElem_cons_succ, go_sem, seval]
        apply pl_x; exact rfl; refine st_x rfl rfl ?_
        simp only [List.getElem_toArray, List.getElem_cons_zero, List.getElem_cons_succ, go_sem, seval]
        refine call_eff (fun n => n) [true, true, true, true, true] [] rfl rfl rfl rfl (enters_of Tryd.func17 (by kernel_rfl) rfl) (h3) rfl rfl (by repeat' (first | exact rfl | exact trivial | constructor)) rfl rfl rfl ?_
        simp only [renH_nil, renH_cons, effR, go_sem, seval]
        apply pl_x; exact rfl; refine st_w rfl rfl (by kernel_rfl) ?_; simp only [List.getElem_toArray, List.getElem_cons_zero, List.getElem_cons_succ, go_sem, seval]
        refine pl_done (st := _) ?_ rfl
        refine wk_ren (fun | 34 => 497 | n => n) ?_ ?_ rfl rfl rfl
        · repeat' (first | exact rfl | exact trivial | constructor)
        · repeat' (first | exact rfl | exact trivial | constructor)
    · refine st_x rfl rfl ?_
      simp only [List.getElem_toArray, List.getElem_cons_zero, List.getElem_cons_succ, go_sem, seval]
      apply pl_x; exact rfl; refine st_x rfl rfl ?_
      simp only [List.getElem_toArray, List.getElem_cons_zero, List.getElem_cons_succ, go_sem, seval]
      refine call_fn rfl rfl rfl rfl (enters_of Tryd.func31 (by kernel_rfl) rfl) (two_pure) rfl rfl rfl ?_
      simp only [go_sem, seval]
      apply pl_x; exact rfl; refine st_x rfl rfl ?_
      simp only [List.getElem_toArray, List.getElem_cons_zero, List.getElem_cons_succ, go_sem, seval]
      refine call_eff (fun n => n) [true, true, true, true, true] [] rfl rfl rfl rfl (enters_of Tryd.func17 (by kernel_rfl) rfl) (h3) rfl rfl (by repeat' (first | exact rfl | exact trivial | constructor)) rfl rfl rfl ?_
      simp only [renH_nil, renH_cons, effR, go_sem, seval]
      apply pl_x; exact rfl; refine st_w rfl rfl (by kernel_rfl) ?_; simp only [List.getElem_toArray, List.getElem_cons_zero, List.getElem_cons_succ, go_sem, seval]
      refine pl_done (st := _) ?_ rfl
      refine wk_ren (fun | 34 => 497 | n => n) ?_ ?_ rfl rfl rfl
      · repeat' (first | exact rfl | exact trivial | constructor)
      · repeat' (first | exact rfl | exact trivial | constructor)
  · unfold stX
    have e3 : decide (((2 : Nat) : Int) = 2) = true := rfl
    have e4 : decide (exB.epoch = 1) = true := rfl
    have e5 : decide (exC.epoch = 2) = true := rfl
    first | apply tr_m (by rw [hE]; rfl) | (refine Tr.seq ?_; apply tr_m (by rw [hE]; rfl))
    intro Q hQ
    simp only [List.toList_toArray, List.map_cons, List.map_nil, mo, guardSlot, Option.map_some, Option.map_none, List.getElem?_toArray, List.getElem?_cons_succ, List.getElem?_cons_zero, Option.bind_some]
    iterate 4 ((refine vm_op ?_); intro r hr; simp only [int_beq, e3, e4, List.map_cons, List.map_nil, List.length_cons, List.length_nil, go_sem, seval]; subst hr)
    iterate 3 ((first | refine vm_if rfl ?_ | refine vm_no rfl ?_ | refine vm_skip rfl ?_); intro r hr; simp only [int_beq, e3, e4, List.map_cons, List.map_nil, List.length_cons, List.length_nil, go_sem, seval]; subst hr)
    iterate 2 ((refine vm_op ?_); intro r hr; simp only [int_beq, e3, e4, List.map_cons, List.map_nil, List.length_cons, List.length_nil, go_sem, seval]; subst hr)
    iterate 3 ((first | refine vm_if rfl ?_ | refine vm_no rfl ?_ | refine vm_skip rfl ?_); intro r hr; simp only [int_beq, e3, e4, List.map_cons, List.map_nil, List.length_cons, List.length_nil, go_sem, seval]; subst hr)
    (first | refine vm_if rfl ?_ | refine vm_no rfl ?_ | refine vm_skip rfl ?_); intro r hr; simp only [int_beq, e3, e4, List.map_cons, List.map_nil, List.length_cons, List.length_nil, go_sem, seval]
    refine call_fn rfl rfl rfl rfl (enters_of Tryd.func19 (by kernel_rfl) rfl) (h4) rfl rfl rfl ?_
    simp only [go_sem, seval]
    subst hr
    (first | refine vm_if rfl ?_ | refine vm_no rfl ?_ | refine vm_skip rfl ?_); intro r hr; simp only [tField28_0, Check.av, List.getElem?_cons_zero, List.take_zero, AV.lens, go_sem, seval]; subst hr
    (first | refine vm_if rfl ?_ | refine vm_no rfl ?_ | refine vm_skip rfl ?_); intro r hr; simp only [int_beq, e5, go_sem, seval]; subst hr
    iterate 2 ((refine vm_op ?_); intro r hr; simp only [int_beq, e5, go_sem, seval]; subst hr)
    iterate 2 ((first | refine vm_if rfl ?_ | refine vm_no rfl ?_ | refine vm_skip rfl ?_); intro r hr; simp only [int_beq, e5, go_sem, seval]; subst hr)
    (first | refine vm_if rfl ?_ | refine vm_no rfl ?_ | refine vm_skip rfl ?_); intro r hr; simp only [int_beq, e5, go_sem, seval]
    refine call_fn rfl rfl rfl rfl (enters_of Tryd.func21 (by kernel_rfl) rfl) (h5) rfl rfl rfl ?_
    simp only [go_sem, seval]
    subst hr
    iterate 2 ((refine vm_op ?_); intro r hr; simp only [go_sem, seval]; subst hr)
    exact hQ
    refine Tr.ret ?_
    simp only [Tryd.f9, go_sem, seval]
    exact ⟨fun n => n, ⟨⟨rfl, rfl, rfl⟩, trivial⟩, rfl, fun _ _ => rfl⟩
