/- Which links clash, and who is guilty, once more. -/
import Derived.Test.YtdlejnafhmpobaaDoorFkF
set_option linter.unusedSimpArgs false
set_option maxRecDepth 10000
namespace Go.Proofs.YtdlejnafhmpobaaDoor
open Go Go.Ab

def clash (x y : Link) : Bool := [Rule.one, Rule.two].any (hit x y)

@[go_sem] theorem build71_one (f : FuncId) (K : AV → Prop) : buildK Tryd.prog 110 [(0, .fn (.func f) [] [])] K = K (.st [.fn (.func f) [] []]) :=
  build_struct Tryd.underlying110 (zs := [.nilf]) (by kernel_rfl) rfl (by kernel_rfl) rfl K

@[go_sem] theorem tZero71 : tZero Tryd.prog 110 = some (.st [.nilf]) := by kernel_rfl
theorem rules_pure : Pure Tryd.prog 80 [] (rules [.one, .two]) := by
  unfold rules
  refine pure_of_tr Tryd.func80 rfl (Nat.le_of_ble_eq_true rfl) rfl fun E hE hP => ?_
  first | refine tr_seq_region (by rw [hE]; rfl) ?_ | (refine Tr.seq ?_; refine tr_seq_region (by rw [hE]; rfl) ?_)
  repeat (refine vc_op rfl ?_; simp only [go_sem, seval])
  refine vc_nil ?_
  first | refine tr_seq_region (by rw [hE]; rfl) ?_ | (refine Tr.seq ?_; refine tr_seq_region (by rw [hE]; rfl) ?_)
  repeat (refine vc_op rfl ?_; simp only [go_sem, seval])
  refine vc_nil ?_
  refine Tr.ret ?_
  simp only [Rule.av, Tryd.f80, go_sem, seval]

theorem LClash_pure (x y : Link) : Pure Tryd.prog 56 [x.av, y.av] (.bool (clash x y)) := by
  refine pure_of_tr Tryd.func56 rfl (Nat.le_of_ble_eq_true rfl) rfl fun E hE hP => ?_
  first | refine tr_seq_region (by rw [hE]; rfl) ?_ | (refine Tr.seq ?_; refine tr_seq_region (by rw [hE]; rfl) ?_)
  repeat (refine vc_op rfl ?_; simp only [go_sem, seval])
  refine vc_nil ?_
  first | refine tr_seq_region (by rw [hE]; rfl) ?_ | (refine Tr.seq ?_; refine tr_seq_region (by rw [hE]; rfl) ?_)
  repeat (refine vc_op rfl ?_; simp only [go_sem, seval])
  refine call_fn rfl rfl rfl rfl (enters_of Tryd.func80 (by kernel_rfl) rfl) (rules_pure) rfl rfl rfl ?_
  simp only [go_sem, seval]
  repeat (refine vc_op rfl ?_; simp only [go_sem, seval])
  refine call_fn rfl rfl rfl rfl (enters_of Tryd.func79 (by kernel_rfl) rfl) (RContains_pure x y [.one, .two] (by show 2 ≤ 100; omega)) rfl rfl rfl ?_
  simp only [go_sem, seval]
  repeat (refine vc_op rfl ?_; simp only [go_sem, seval])
  refine vc_nil ?_
  refine Tr.ret ?_
  simp only [clash, Tryd.f56, go_sem, seval]

def orU (a b : Int) : Int := bitsI .or .u64 a b
def andU (a b : Int) : Int := bitsI .and .u64 a b
def gstep (a : Link) (o : Int) (b : Link) : Int := if clash a b then orU o (andU a.mask b.mask) else o
def gin (a : Link) (ls : List Link) (o : Int) : Int := ls.foldl (gstep a) o
def gto (l : List Link) : Nat → Int
  | 0 => 0
  | i + 1 => match l[i]? with | some a => gin a (l.drop (i + 1)) (gto l i) | none => gto l i
def guilty (l : List Link) : Int := gto l l.length

theorem gin_next {a b : Link} {ls : List Link} {o : Int} {j : Nat} (h : j < ls.length) (hb : ls[j] = b) : gin a (ls.take (j + 1)) o = gstep a (gin a (ls.take j) o) b := by
  rw [take_next h hb, gin, List.foldl_append]; rfl
theorem gto_next {a : Link} {l : List Link} {i : Nat} (h : i < l.length) (ha : l[i] = a) : gto l (i + 1) = gin a (l.drop (i + 1)) (gto l i) := by
  rw [gto]; simp [h, ha]

theorem slice_lo22 {l : List Link} {k : Nat} {K : AV → Prop} (hk : k ≤ l.length) (h : K (.sl ((l.drop k).map Link.av) false)) : sliceK Tryd.prog 25 (.sl (l.map Link.av) false) (some (.int .i64 k)) none none K := by
  refine sliceK_lo tElem22 (by rw [tSize59]; rfl) (fun y hy => ?_) (by simpa using hk) ?_
  · obtain ⟨a, _, rfl⟩ := List.mem_map.1 hy
    exact tSize59
  · rw [← List.map_drop]
    exact h

def stGo (l : List Link) (i : Nat) : S where
  fr := [(10, .int .i64 i), (3, .int .u64 (gto l i)), (0, .sl (l.map Link.av) false), (8, .sl (l.map Link.av) false), (9, .int .i64 l.length)]
  hp := []
  nx := 0
def stGi (l : List Link) (i : Nat) (a : Link) (ls : List Link) (o : Int) (j : Nat) : S where
  fr := [(20, .int .i64 j), (3, .int .u64 (gin a (ls.take j) o)), (18, .sl (ls.map Link.av) false), (19, .int .i64 ls.length), (5, .ptr 0 [] 0), (10, .int .i64 i), (0, .sl (l.map Link.av) false), (8, .sl (l.map Link.av) false), (9, .int .i64 l.length)]
  hp := [(0, .var a.av)]
  nx := 1

theorem LGuilty_pure (l : List Link) (hl : l.length ≤ 100) : Pure Tryd.prog 29 [links l] (.int .u64 (guilty l)) := by
  unfold links
  refine pure_of_tr Tryd.func29 rfl (Nat.le_of_ble_eq_true rfl) rfl fun E hE hP => ?_
  first | refine tr_seq_region (by rw [hE]; rfl) ?_ | (refine Tr.seq ?_; refine tr_seq_region (by rw [hE]; rfl) ?_)
  repeat (refine vc_op rfl ?_; simp only [go_sem, seval])
  refine vc_nil ?_
  first | refine tr_seq_region (by rw [hE]; rfl) ?_ | (refine Tr.seq ?_; refine tr_seq_region (by rw [hE]; rfl) ?_)
  repeat (refine vc_op rfl ?_; simp only [go_sem, seval])
  refine vc_nil ?_
  refine Tr.seq ?_
  first | refine tr_seq_region (by rw [hE]; rfl) ?_ | (refine Tr.seq ?_; refine tr_seq_region (by rw [hE]; rfl) ?_)
  repeat (refine vc_op rfl ?_; simp only [go_sem, seval])
  refine vc_nil ?_
  refine Tr.block ?_
  refine Tr.loop (stGo l) (fun i => i ≤ l.length) (fun i => l.length - i) 0 (Nat.zero_le _) ?_ ?_
  · refine wk_ren (fun n => n) ?_ ?_ rfl rfl rfl
    · repeat' (first | exact rfl | exact trivial | constructor)
    · repeat' (first | exact rfl | exact trivial | constructor)
  · intro i hi
    unfold stGo
    first | refine tr_seq_region (by rw [hE]; rfl) ?_ | (refine Tr.seq ?_; refine tr_seq_region (by rw [hE]; rfl) ?_)
    repeat (refine vc_op rfl ?_; simp only [go_sem, seval])
    refine vc_nil ?_
    refine Tr.seq (Tr.cond rfl (fun h1 => ?_) (fun h1 => ?_))
    · refine Tr.skip ?_
      try simp only [blockK, thenK, ↓reduceIte]
      have hlt : i < l.length := by have := of_decide_eq_true h1; omega
      have ha := nth_map_lt Link.av l i hlt
      generalize hla : l[i] = a at ha
      have hw := wrap_next (n := i) (by omega)
      have hnx := gto_next hlt hla
      have hdl : (l.drop (i + 1)).length ≤ 100 := by simp; omega
      generalize hls : l.drop (i + 1) = ls at hnx hdl
      generalize ho : gto l i = o at hnx
      refine Tr.seq ?_
      refine Tr.block ?_
      first | refine tr_seq_region (by rw [hE]; rfl) ?_ | (refine Tr.seq ?_; refine tr_seq_region (by rw [hE]; rfl) ?_)
      repeat (refine vc_op rfl ?_; simp only [ha, go_sem, seval])
      refine vc_nil ?_
      first | refine tr_seq_region (by rw [hE]; rfl) ?_ | (refine Tr.seq ?_; refine tr_seq_region (by rw [hE]; rfl) ?_)
      repeat (refine vc_op rfl ?_; simp only [hw, go_sem, seval])
      refine slice_lo22 hlt ?_
      rw [hls]
      repeat (refine vc_op rfl ?_; simp only [go_sem, seval])
      refine vc_nil ?_
      refine Tr.block ?_
      refine Tr.loop (stGi l i a ls o) (fun j => j ≤ ls.length) (fun j => ls.length - j) 0 (Nat.zero_le _) ?_ ?_
      · refine wk_ren (fun | 0 => 64 | n => n) ?_ ?_ rfl rfl rfl
        · repeat' (first | exact rfl | exact trivial | constructor)
        · repeat' (first | exact rfl | exact trivial | constructor)
      · intro j hj
        unfold stGi
        first | refine tr_seq_region (by rw [hE]; rfl) ?_ | (refine Tr.seq ?_; refine tr_seq_region (by rw [hE]; rfl) ?_)
        repeat (refine vc_op rfl ?_; simp only [go_sem, seval])
        refine vc_nil ?_
        refine Tr.seq (Tr.cond rfl (fun h2 => ?_) (fun h2 => ?_))
        · refine Tr.skip ?_
          try simp only [blockK, thenK, ↓reduceIte]
          have hjt : j < ls.length := by have := of_decide_eq_true h2; omega
          have hb := nth_map_lt Link.av ls j hjt
          generalize hlb : ls[j] = b at hb
          have hw2 := wrap_next (n := j) (by omega)
          have hgn := gin_next (a := a) (o := o) hjt hlb
          refine Tr.seq ?_
          refine Tr.block ?_
          first | refine tr_seq_region (by rw [hE]; rfl) ?_ | (refine Tr.seq ?_; refine tr_seq_region (by rw [hE]; rfl) ?_)
          repeat (refine vc_op rfl ?_; simp only [hb, go_sem, seval])
          refine vc_nil ?_
          first | refine tr_seq_region (by rw [hE]; rfl) ?_ | (refine Tr.seq ?_; refine tr_seq_region (by rw [hE]; rfl) ?_)
          repeat (refine vc_op rfl ?_; simp only [go_sem, seval])
          refine call_fn rfl rfl rfl rfl (enters_of Tryd.func56 (by kernel_rfl) rfl) (LClash_pure a b) rfl rfl rfl ?_
          simp only [go_sem, seval]
          repeat (refine vc_op rfl ?_; simp only [go_sem, seval])
          refine vc_nil ?_
          refine Tr.cond rfl (fun h3 => ?_) (fun h3 => ?_)
          · rw [gstep, if_pos h3] at hgn
            refine tr_region (by rw [hE]; rfl) ?_
            repeat (refine vc_op rfl ?_; simp only [go_sem, seval])
            refine vc_nil ?_
            try simp only [blockK, thenK, ↓reduceIte]
            refine tr_region (by rw [hE]; rfl) ?_
            repeat (refine vc_op rfl ?_; simp only [hw2, go_sem, seval])
            refine vc_nil ?_
            try simp only [blockK, thenK, ↓reduceIte]
            refine ⟨j + 1, hjt, by omega, ?_⟩
            rw [hgn]
            refine wk_ren (fun n => n) ?_ ?_ rfl rfl rfl
            · repeat' (first | exact rfl | exact trivial | constructor)
            · repeat' (first | exact rfl | exact trivial | constructor)
          · rw [gstep, if_neg (by rw [h3]; decide)] at hgn
            refine Tr.skip ?_
            try simp only [blockK, thenK, ↓reduceIte]
            refine tr_region (by rw [hE]; rfl) ?_
            repeat (refine vc_op rfl ?_; simp only [hw2, go_sem, seval])
            refine vc_nil ?_
            try simp only [blockK, thenK, ↓reduceIte]
            refine ⟨j + 1, hjt, by omega, ?_⟩
            rw [hgn]
            refine wk_ren (fun n => n) ?_ ?_ rfl rfl rfl
            · repeat' (first | exact rfl | exact trivial | constructor)
            · repeat' (first | exact rfl | exact trivial | constructor)
        · refine Tr.exit ?_
          try simp only [blockK, thenK, ↓reduceIte]
          have hjl : j = ls.length := by
            have := of_decide_eq_false h2
            omega
          subst hjl
          rw [List.take_length]
          refine tr_region (by rw [hE]; rfl) ?_
          repeat (refine vc_op rfl ?_; simp only [hw, go_sem, seval])
          refine vc_nil ?_
          try simp only [blockK, thenK, ↓reduceIte]
          refine ⟨i + 1, hlt, by omega, ?_⟩
          rw [hnx]
          refine wk_ren (fun n => n) ?_ ?_ rfl rfl rfl
          · repeat' (first | exact rfl | exact trivial | constructor)
          · repeat' (first | exact rfl | exact trivial | constructor)
    · refine Tr.exit ?_
      try simp only [blockK, thenK, ↓reduceIte]
      have hil : i = l.length := by
        have := of_decide_eq_false h1
        omega
      subst hil
      first | refine tr_seq_region (by rw [hE]; rfl) ?_ | (refine Tr.seq ?_; refine tr_seq_region (by rw [hE]; rfl) ?_)
      repeat (refine vc_op rfl ?_; simp only [go_sem, seval])
      refine vc_nil ?_
      refine Tr.ret ?_
      simp only [guilty, Tryd.f29, go_sem, seval]
