/- The reference of layer 15: may links be, and one more attests. -/
import Derived.Test.YtekjdikofhdcpaaGreatDoorP1
set_option linter.unusedSimpArgs false
set_option maxRecDepth 10000
namespace Go.Proofs.YtekjdikofhdcpaaGreatDoor
open Go Go.Ab
def u64s (l : List Int) : AV := .sl (l.map uav) false
@[go_sem] theorem uav_ok (b : Int) : (uav b).ok = true := rfl
@[go_sem] theorem uav_idf (b : Int) : (uav b).idf = true := rfl
@[go_sem] theorem u64s_idL (l : List Int) : (u64s l).idL = [] := rfl
@[go_sem] theorem u64s_frz (hp : HP) (l : List Int) : (u64s l).frz hp = u64s l := rfl
@[go_sem] theorem u64s_flat (l : List Int) : (u64s l).flat = false := rfl
@[go_sem] theorem u64s_ok (l : List Int) : (u64s l).ok = true := rfl
@[go_sem] theorem u64s_idf (l : List Int) : (u64s l).idf = true := rfl
def over (n : Int) : Bool := decide (1099511627776 < n)
theorem over_pure (n : Int) : Pure Tryz.prog 91 [.int .u64 n] (.bool (over n)) := by
 unfold over
 refine pure_of_tr Tryz.func91 rfl nb rfl fun E hE hP => ?_
 refine mr ?_
 refine mr ?_
 refine Tr.ret ?_
 simp only [Tryz.f91, go_sem, seval]
def oidx (l : List Int) : Int := match l.findIdx? over with | some i => (i : Int) | none => -1
theorem oidx_at {l : List Int} {i : Nat} (h : i < l.length) (hb : ∀ j (hj : j < i), over (l[j]'(by omega)) = false) (hi : over l[i] = true) : oidx l = i := by
 have : l.findIdx? over = some i := by
  rw [List.findIdx?_eq_some_iff_getElem]
  exact ⟨h, hi, fun j hj => by rw [hb j hj]; simp⟩
 rw [oidx, this]
theorem oidx_none {l : List Int} (hb : ∀ j (hj : j < l.length), over l[j] = false) : oidx l = -1 := by
 have : l.findIdx? over = none := by
  rw [List.findIdx?_eq_none_iff]
  intro x hx
  obtain ⟨j, hj, rfl⟩ := List.mem_iff_getElem.1 hx
  exact hb j hj
 rw [oidx, this]
theorem oidx_any (l : List Int) : decide (0 ≤ oidx l) = l.any over := by
 unfold oidx
 cases h : l.findIdx? over with
 | none =>
  rw [List.findIdx?_eq_none_iff] at h
  have : l.any over = false := by rw [List.any_eq_false]; intro x hx; rw [h x hx]; simp
  rw [this]; rfl
 | some i =>
  rw [List.findIdx?_eq_some_iff_getElem] at h
  obtain ⟨h1, h2, _⟩ := h
  have : l.any over = true := List.any_eq_true.2 ⟨l[i], List.getElem_mem h1, h2⟩
  rw [this]; simp
def oidxSt (l : List Int) (i : Nat) : S where
 fr := [(8, .int .i64 i), (7, .int .i64 l.length), (0, .sl (l.map uav) false), (1, .fn (.func 91) [] [])]
 hp := []
 nx := 0
theorem oindex_pure (l : List Int) (hl : l.length ≤ 10000) : Pure Tryz.prog 158 [u64s l, .fn (.func 91) [] []] (.int .i64 (oidx l)) := by
 unfold u64s
 refine pure_of_tr Tryz.func158 rfl nb rfl fun E hE hP => ?_
 refine mr ?_
 refine mr ?_
 refine mBk ?_
 refine Tr.loop (oidxSt l) (fun i => i ≤ l.length ∧ ∀ j (hj : j < l.length), j < i → over l[j] = false) (fun i => l.length - i) 0 ⟨Nat.zero_le _, fun _ _ h => by omega⟩ ?_ ?_
 · exact mK
 · intro i ⟨hi, hall⟩
   unfold oidxSt
   refine mr ?_
   first | refine Tr.cond rfl (fun h1 => ?_) (fun h1 => ?_) | refine Tr.seq (Tr.cond rfl (fun h1 => ?_) (fun h1 => ?_))
   · refine mT ?_
     have hlt : i < l.length := by have := of_decide_eq_true h1; omega
     have ha := nth_map_lt uav l i hlt
     have hw := wN i
     refine mBk ?_
     refine mr ?_
     cases hb : over l[i] with
     | true =>
      have er : oidx l = i := oidx_at hlt (fun j hj => hall j (by omega) hj) hb
      have hc := over_pure l[i]
      rw [hb] at hc
      first | apply tr_m xE | (refine Tr.seq ?_; apply tr_m xE)
      intro Q hQ
      refine mS ?_
      iterate 5 (refine vm_op ?_; intro r hr; simp only [uav, ha, go_sem, seval]; subst hr)
      refine vm_op ?_; intro r hr; simp only [uav, ha, go_sem, seval]
      refine call_fn rfl rfl rfl rfl (en Tryz.func91) (hc) rfl rfl rfl ?_
      refine mS ?_
      subst hr
      exact hQ
      refine mYes ?_
      refine mr ?_
      refine Tr.ret ?_
      simp only [er, Tryz.f158, go_sem, seval]
     | false =>
      have hc := over_pure l[i]
      rw [hb] at hc
      first | apply tr_m xE | (refine Tr.seq ?_; apply tr_m xE)
      intro Q hQ
      refine mS ?_
      iterate 5 (refine vm_op ?_; intro r hr; simp only [uav, ha, go_sem, seval]; subst hr)
      refine vm_op ?_; intro r hr; simp only [uav, ha, go_sem, seval]
      refine call_fn rfl rfl rfl rfl (en Tryz.func91) (hc) rfl rfl rfl ?_
      refine mS ?_
      subst hr
      exact hQ
      refine mNot ?_
      refine mT ?_
      refine mRd ?_
      rw [hw]
      refine mU ?_
      refine ⟨i + 1, ⟨hlt, fun j hj hjl => ?_⟩, by omega, ?_⟩
      · rcases Nat.lt_or_ge j i with h | h
        · exact hall j hj h
        · have : j = i := by omega
          subst this; exact hb
      exact mK
   · refine Tr.exit ?_
     refine mU ?_
     have hil : i = l.length := by have := of_decide_eq_false h1; omega
     have er : oidx l = -1 := oidx_none fun j hj => hall j hj (by omega)
     refine mr ?_
     refine Tr.ret ?_
     simp only [er, Tryz.f158, go_sem, seval]
theorem ocontains_pure (l : List Int) (hl : l.length ≤ 10000) : Pure Tryz.prog 92 [u64s l, .fn (.func 91) [] []] (.bool (l.any over)) := by
 have er := oidx_any l
 refine pure_of_tr Tryz.func92 rfl nb rfl fun E hE hP => ?_
 refine mr ?_
 have c1 := And.intro (en Tryz.func158) (oindex_pure l hl)
 refine mr ?_
 refine Tr.ret ?_
 simp only [er, Tryz.f92, go_sem, seval]
def mayS (l : List Int) : Bool := decide (0 < l.length) && (decide (l.length ≤ 8) && !l.any over)
theorem smay_pure (l : List Int) : Pure Tryz.prog 50 [u64s l] (.bool (mayS l)) := by
 unfold u64s
 refine pure_of_tr Tryz.func50 rfl nb rfl fun E hE hP => ?_
 refine mr ?_
 refine mr ?_
 by_cases h0 : 0 < l.length
 · have e0 : decide ((0 : Int) < (l.length : Int)) = true := dtO
   by_cases h1 : l.length ≤ 8
   · have e1 : decide ((l.length : Int) ≤ 8) = true := dtO
     have er : mayS l = !l.any over := by simp [mayS, h0, h1]
     have ff := And.intro e0 e1
     have c1 := And.intro (en Tryz.func92) (ocontains_pure l (by omega))
     refine mr ?_
     refine Tr.ret ?_
     simp only [er, Tryz.f50, go_sem, seval]
   · have e1 : decide ((l.length : Int) ≤ 8) = false := dfO
     have er : mayS l = false := by simp [mayS, h1]
     have ff := And.intro e0 e1
     refine mr ?_
     refine Tr.ret ?_
     simp only [er, Tryz.f50, go_sem, seval]
 · have e0 : decide ((0 : Int) < (l.length : Int)) = false := dfO
   have er : mayS l = false := by simp only [mayS, decide_eq_false h0, Bool.false_and]
   have ff := e0
   refine mr ?_
   refine Tr.ret ?_
   simp only [er, Tryz.f50, go_sem, seval]
def tabN : List Int := [0, 1, 56, 2, 57, 49, 28, 3, 61, 58, 42, 50, 38, 29, 17, 4, 62, 47, 59, 36, 45, 43, 51, 22, 53, 39, 33, 30, 24, 18, 12, 5, 63, 55, 48, 27, 60, 41, 37, 16, 46, 35, 44, 21, 52, 32, 23, 11, 54, 26, 40, 15, 34, 20, 31, 10, 25, 14, 19, 9, 13, 8, 7, 6]
def tabV : AV := .arr (tabN.map fun n => .int .u8 n)
def tz (m : Nat) : Nat := (List.range 8).find? (fun v => m.testBit v) |>.getD 0
@[go_sem] theorem tArr125 : tArr Tryz.prog 283 = some (64, 5) := by kernel_rfl
def tzI (m : Nat) : Int := (IntKind.u64.wrap (bitsI BinOp.and IntKind.u64 (m : Int) (IntKind.u64.wrap (0 - (m : Int))) * 285870213051353865)).fdiv (2 ^ min (Int.toNat 58) 64)
theorem tz_all : (List.range 256).all (fun m => decide (m = 0) || (decide (0 ≤ tzI m) && decide (tabN[(tzI m).toNat]? = some (tz m : Int)) && decide (tz m < 8))) = true := by decide +kernel
theorem tz_idx {m : Nat} (h0 : 0 < m) (h1 : m < 256) : nth (tabN.map fun n => AV.int .u8 n) (tzI m) = some (.int .u8 (tz m)) ∧ tz m < 8 := by
 have h := List.all_eq_true.1 tz_all m (List.mem_range.2 h1)
 have hm : decide (m = 0) = false := dfO
 simp only [hm, Bool.false_or, Bool.and_eq_true, decide_eq_true_eq] at h
 obtain ⟨⟨h2, h3⟩, h4⟩ := h
 refine ⟨?_, h4⟩
 rw [nth, if_pos h2, List.getElem?_map, h3]
 rfl
theorem tz_T (m : Nat) (h0 : 0 < m) (h1 : m < 256) : PureT Tryz.prog 0 tabV 262 [.int .u64 m] (.int .i64 (tz m)) := by
 have hn := (tz_idx h0 h1).1
 have h8 := (tz_idx h0 h1).2
 have ew : IntKind.i64.wrap (tz m : Int) = tz m := wrap_small (by omega)
 unfold tzI at hn
 obtain ⟨p, hp⟩ : ∃ p, IntKind.u64.wrap (bitsI BinOp.and IntKind.u64 (m : Int) (IntKind.u64.wrap (0 - (m : Int))) * 285870213051353865) = p := ⟨_, rfl⟩
 rw [hp] at hn
 obtain ⟨q, hq⟩ : ∃ q, p.fdiv (2 ^ min (Int.toNat 58) 64) = q := ⟨_, rfl⟩
 rw [hq] at hn
 have e0 : ((m : Int) == 0) = false := by rw [int_beq]; exact dfO
 refine eff_of_tr Tryz.func262 rfl nb (by first | rfl | (simp only [AV.idsB, AV.idsBL, Bool.and_true, Bool.true_and] <;> rfl)) fun E hE hP => ?_
 refine mr ?_
 have ff := e0
 refine mr ?_
 refine mNot ?_
 refine mT ?_
 first | apply tr_m xE | (refine Tr.seq ?_; apply tr_m xE)
 intro Q hQ
 refine mS ?_
 iterate 5 (refine vm_op ?_; intro r hr; simp only [hp, go_sem, ↓Nat.reduceBEq, ↓Nat.reduceAdd, ↓Nat.reduceSub, ↓Nat.reduceMul, ↓Nat.reduceEqDiff, ↓Nat.reducePow, ↓Nat.reduceLeDiff, ↓Nat.reduceLT, ↓Int.reduceLE, ↓Int.reduceLT, ↓reduceIte, ↓reduceCtorEq]; subst hr)
 refine vm_op ?_; intro r hr; simp only [hq, go_sem, ↓Nat.reduceBEq, ↓Nat.reduceAdd, ↓Nat.reduceSub, ↓Nat.reduceMul, ↓Nat.reduceEqDiff, ↓Nat.reducePow, ↓Nat.reduceLeDiff, ↓Nat.reduceLT, ↓Int.reduceLE, ↓Int.reduceLT, ↓reduceIte, ↓reduceCtorEq]; subst hr
 refine vm_op ?_; intro r hr; simp only [tabV, hn, ew, go_sem, ↓Nat.reduceBEq, ↓Nat.reduceAdd, ↓Nat.reduceSub, ↓Nat.reduceMul, ↓Nat.reduceEqDiff, ↓Nat.reducePow, ↓Nat.reduceLeDiff, ↓Nat.reduceLT, ↓Int.reduceLE, ↓Int.reduceLT, ↓reduceIte, ↓reduceCtorEq]
 refine ⟨rfl, ?_⟩
 subst hr
 iterate 3 (refine vm_op ?_; intro r hr; simp only [ew, go_sem, ↓Nat.reduceBEq, ↓Nat.reduceAdd, ↓Nat.reduceSub, ↓Nat.reduceMul, ↓Nat.reduceEqDiff, ↓Nat.reducePow, ↓Nat.reduceLeDiff, ↓Nat.reduceLT, ↓Int.reduceLE, ↓Int.reduceLT, ↓reduceIte, ↓reduceCtorEq]; subst hr)
 exact hQ
 refine Tr.ret ?_
 simp only [Tryz.f262, go_sem, ↓Nat.reduceBEq, ↓Nat.reduceAdd, ↓Nat.reduceSub, ↓Nat.reduceMul, ↓Nat.reduceEqDiff, ↓Nat.reducePow, ↓Nat.reduceLeDiff, ↓Nat.reduceLT, ↓Int.reduceLE, ↓Int.reduceLT, ↓reduceIte, ↓reduceCtorEq]
 exact ⟨fun n => n, ⟨⟨rfl, rfl, rfl⟩, trivial⟩, rfl, fun _ _ => rfl⟩
theorem wrapU_lt {n : Int} (h0 : 0 ≤ n) (h : n < 18446744073709551616) : IntKind.u64.wrap n = n := by
 obtain ⟨m, rfl⟩ : ∃ m : Nat, n = m := ⟨n.toNat, by omega⟩
 exact wrapU (by omega)
theorem low32 (x : Nat) (h : x < 18446744073709551616) : bitsI BinOp.and IntKind.u64 (x : Int) 4294967295 = ((x % 4294967296 : Nat) : Int) := by
 show andU x 4294967295 = _
 rw [andU_eq, BitVec.toNat_and]
 have e1 : (bv (x : Int)).toNat = x := by have := bv_back (n := x) ⟨by omega, by omega⟩; omega
 have e2 : (bv (4294967295 : Int)).toNat = 2 ^ 32 - 1 := by decide
 rw [e1, e2, Nat.and_two_pow_sub_one_eq_mod]
theorem high32 (x : Nat) : (x : Int).fdiv (2 ^ min (Int.toNat 32) 64) = ((x / 4294967296 : Nat) : Int) := by
 have e : ((2 : Int) ^ min (Int.toNat 32) 64) = ((4294967296 : Nat) : Int) := by decide
 rw [e, Int.fdiv_eq_ediv_of_nonneg _ (by omega)]
 rfl
theorem mul_pure (x y : Nat) (hx : x < 1152921504606846976) (hy : y < 4) : Pure Tryz.prog 260 [.int .u64 x, .int .u64 y] (.tup [.int .u64 0, .int .u64 (x * y : Nat)]) := by
 obtain ⟨x0, hx0⟩ : ∃ k, x % 4294967296 = k := ⟨_, rfl⟩
 obtain ⟨x1, hx1⟩ : ∃ k, x / 4294967296 = k := ⟨_, rfl⟩
 have f1 := low32 x (by omega)
 have f2 := high32 x
 have f3 := low32 y (by omega)
 have f4 := high32 y
 rw [hx0] at f1
 rw [hx1] at f2
 rw [Nat.mod_eq_of_lt (by omega)] at f3
 rw [Nat.div_eq_of_lt (by omega)] at f4
 have b0 : x0 < 4294967296 := by omega
 have b1 : x1 < 268435456 := by omega
 obtain ⟨w0, hw0⟩ : ∃ k, x0 * y = k := ⟨_, rfl⟩
 have c0 : w0 < 17179869184 := by rw [← hw0]; exact Nat.lt_of_le_of_lt (Nat.mul_le_mul (Nat.le_refl x0) (by omega : y ≤ 3)) (by omega)
 obtain ⟨p1, hp1⟩ : ∃ k, x1 * y = k := ⟨_, rfl⟩
 have c1 : p1 < 1073741824 := by rw [← hp1]; exact Nat.lt_of_le_of_lt (Nat.mul_le_mul (Nat.le_refl x1) (by omega : y ≤ 3)) (by omega)
 have f5 : IntKind.u64.wrap ((x0 : Int) * (y : Int)) = w0 := by rw [← Int.natCast_mul, hw0]; exact wrapU (by omega)
 have f6 : IntKind.u64.wrap ((x1 : Int) * (y : Int)) = p1 := by rw [← Int.natCast_mul, hp1]; exact wrapU (by omega)
 have f7 := high32 w0
 obtain ⟨g, hg⟩ : ∃ k, w0 / 4294967296 = k := ⟨_, rfl⟩
 rw [hg] at f7
 obtain ⟨t, ht⟩ : ∃ k, p1 + g = k := ⟨_, rfl⟩
 have f8 : IntKind.u64.wrap ((p1 : Int) + (g : Int)) = t := by rw [← Int.natCast_add, ht]; exact wrapU (by omega)
 have f9 := low32 t (by omega)
 have f10 := high32 t
 rw [Nat.mod_eq_of_lt (by omega)] at f9
 rw [Nat.div_eq_of_lt (by omega)] at f10
 have z1 : IntKind.u64.wrap ((x0 : Int) * ((0 : Nat) : Int)) = 0 := by simp; decide
 have z2 : IntKind.u64.wrap ((x1 : Int) * ((0 : Nat) : Int)) = 0 := by simp; decide
 have z3 : IntKind.u64.wrap ((t : Int) + 0) = t := by rw [Int.add_zero]; exact wrapU (by omega)
 have z4 : IntKind.u64.wrap ((0 : Int) + ((0 : Nat) : Int)) = 0 := by decide
 have c2 : x * y < 4611686018427387904 := Nat.lt_of_le_of_lt (Nat.mul_le_mul (Nat.le_refl x) (by omega : y ≤ 3)) (by omega)
 have f11 : IntKind.u64.wrap ((x : Int) * (y : Int)) = ((x * y : Nat) : Int) := by rw [← Int.natCast_mul]; exact wrapU (by omega)
 generalize ((x * y : Nat) : Int) = r at f11 ⊢
 generalize hz : ((0 : Nat) : Int) = z at *
 clear hx c2
 refine pure_of_tr Tryz.func260 rfl nb rfl fun E hE hP => ?_
 refine mr ?_
 first | apply tr_m xE | (refine Tr.seq ?_; apply tr_m xE)
 intro Q hQ
 refine mS ?_
 iterate 3 (refine vm_op ?_; intro r hr; simp only [f1, go_sem, ↓Nat.reduceBEq, ↓Nat.reduceAdd, ↓Nat.reduceSub, ↓Nat.reduceMul, ↓Nat.reduceEqDiff, ↓Nat.reducePow, ↓Nat.reduceLeDiff, ↓Nat.reduceLT, ↓Int.reduceLE, ↓Int.reduceLT, ↓reduceIte, ↓reduceCtorEq]; subst hr)
 exact hQ
 first | apply tr_m xE | (refine Tr.seq ?_; apply tr_m xE)
 intro Q hQ
 refine mS ?_
 iterate 3 (refine vm_op ?_; intro r hr; simp only [f2, go_sem, ↓Nat.reduceBEq, ↓Nat.reduceAdd, ↓Nat.reduceSub, ↓Nat.reduceMul, ↓Nat.reduceEqDiff, ↓Nat.reducePow, ↓Nat.reduceLeDiff, ↓Nat.reduceLT, ↓Int.reduceLE, ↓Int.reduceLT, ↓reduceIte, ↓reduceCtorEq]; subst hr)
 exact hQ
 first | apply tr_m xE | (refine Tr.seq ?_; apply tr_m xE)
 intro Q hQ
 refine mS ?_
 iterate 3 (refine vm_op ?_; intro r hr; simp only [f3, go_sem, ↓Nat.reduceBEq, ↓Nat.reduceAdd, ↓Nat.reduceSub, ↓Nat.reduceMul, ↓Nat.reduceEqDiff, ↓Nat.reducePow, ↓Nat.reduceLeDiff, ↓Nat.reduceLT, ↓Int.reduceLE, ↓Int.reduceLT, ↓reduceIte, ↓reduceCtorEq]; subst hr)
 exact hQ
 first | apply tr_m xE | (refine Tr.seq ?_; apply tr_m xE)
 intro Q hQ
 refine mS ?_
 iterate 3 (refine vm_op ?_; intro r hr; simp only [f4, go_sem, ↓Nat.reduceBEq, ↓Nat.reduceAdd, ↓Nat.reduceSub, ↓Nat.reduceMul, ↓Nat.reduceEqDiff, ↓Nat.reducePow, ↓Nat.reduceLeDiff, ↓Nat.reduceLT, ↓Int.reduceLE, ↓Int.reduceLT, ↓reduceIte, ↓reduceCtorEq]; subst hr)
 exact hQ
 first | apply tr_m xE | (refine Tr.seq ?_; apply tr_m xE)
 intro Q hQ
 refine mS ?_
 iterate 4 (refine vm_op ?_; intro r hr; simp only [f5, go_sem, ↓Nat.reduceBEq, ↓Nat.reduceAdd, ↓Nat.reduceSub, ↓Nat.reduceMul, ↓Nat.reduceEqDiff, ↓Nat.reducePow, ↓Nat.reduceLeDiff, ↓Nat.reduceLT, ↓Int.reduceLE, ↓Int.reduceLT, ↓reduceIte, ↓reduceCtorEq]; subst hr)
 exact hQ
 first | apply tr_m xE | (refine Tr.seq ?_; apply tr_m xE)
 intro Q hQ
 refine mS ?_
 iterate 7 (refine vm_op ?_; intro r hr; simp only [f6, f7, f8, go_sem, ↓Nat.reduceBEq, ↓Nat.reduceAdd, ↓Nat.reduceSub, ↓Nat.reduceMul, ↓Nat.reduceEqDiff, ↓Nat.reducePow, ↓Nat.reduceLeDiff, ↓Nat.reduceLT, ↓Int.reduceLE, ↓Int.reduceLT, ↓reduceIte, ↓reduceCtorEq]; subst hr)
 exact hQ
 first | apply tr_m xE | (refine Tr.seq ?_; apply tr_m xE)
 intro Q hQ
 refine mS ?_
 iterate 3 (refine vm_op ?_; intro r hr; simp only [f9, go_sem, ↓Nat.reduceBEq, ↓Nat.reduceAdd, ↓Nat.reduceSub, ↓Nat.reduceMul, ↓Nat.reduceEqDiff, ↓Nat.reducePow, ↓Nat.reduceLeDiff, ↓Nat.reduceLT, ↓Int.reduceLE, ↓Int.reduceLT, ↓reduceIte, ↓reduceCtorEq]; subst hr)
 exact hQ
 first | apply tr_m xE | (refine Tr.seq ?_; apply tr_m xE)
 intro Q hQ
 refine mS ?_
 iterate 3 (refine vm_op ?_; intro r hr; simp only [f10, go_sem, ↓Nat.reduceBEq, ↓Nat.reduceAdd, ↓Nat.reduceSub, ↓Nat.reduceMul, ↓Nat.reduceEqDiff, ↓Nat.reducePow, ↓Nat.reduceLeDiff, ↓Nat.reduceLT, ↓Int.reduceLE, ↓Int.reduceLT, ↓reduceIte, ↓reduceCtorEq]; subst hr)
 exact hQ
 first | apply tr_m xE | (refine Tr.seq ?_; apply tr_m xE)
 intro Q hQ
 refine mS ?_
 iterate 6 (refine vm_op ?_; intro r hr; simp only [z1, z3, go_sem, ↓Nat.reduceBEq, ↓Nat.reduceAdd, ↓Nat.reduceSub, ↓Nat.reduceMul, ↓Nat.reduceEqDiff, ↓Nat.reducePow, ↓Nat.reduceLeDiff, ↓Nat.reduceLT, ↓Int.reduceLE, ↓Int.reduceLT, ↓reduceIte, ↓reduceCtorEq]; subst hr)
 exact hQ
 first | apply tr_m xE | (refine Tr.seq ?_; apply tr_m xE)
 intro Q hQ
 refine mS ?_
 iterate 9 (refine vm_op ?_; intro r hr; simp only [z2, z4, f10, go_sem, ↓Nat.reduceBEq, ↓Nat.reduceAdd, ↓Nat.reduceSub, ↓Nat.reduceMul, ↓Nat.reduceEqDiff, ↓Nat.reducePow, ↓Nat.reduceLeDiff, ↓Nat.reduceLT, ↓Int.reduceLE, ↓Int.reduceLT, ↓reduceIte, ↓reduceCtorEq]; subst hr)
 exact hQ
 first | apply tr_m xE | (refine Tr.seq ?_; apply tr_m xE)
 intro Q hQ
 refine mS ?_
 iterate 4 (refine vm_op ?_; intro r hr; simp only [f11, go_sem, ↓Nat.reduceBEq, ↓Nat.reduceAdd, ↓Nat.reduceSub, ↓Nat.reduceMul, ↓Nat.reduceEqDiff, ↓Nat.reducePow, ↓Nat.reduceLeDiff, ↓Nat.reduceLT, ↓Int.reduceLE, ↓Int.reduceLT, ↓reduceIte, ↓reduceCtorEq]; subst hr)
 exact hQ
 refine Tr.ret ?_
 simp only [Tryz.f260, go_sem, ↓Nat.reduceBEq, ↓Nat.reduceAdd, ↓Nat.reduceSub, ↓Nat.reduceMul, ↓Nat.reduceEqDiff, ↓Nat.reducePow, ↓Nat.reduceLeDiff, ↓Nat.reduceLT, ↓Int.reduceLE, ↓Int.reduceLT, ↓reduceIte, ↓reduceCtorEq]
def wav (a b : Int) : AV := .arr [.int .u64 a, .int .u64 b]
@[go_sem] theorem wav_len (a b : Int) : (wav a b).len = 2 := rfl
@[go_sem] theorem wav_agg (a b : Int) : (wav a b).agg = true := rfl
@[go_sem] theorem wav_idf (a b : Int) : (wav a b).idf = true := rfl
@[go_sem] theorem wav_ok (a b : Int) : (wav a b).ok = true := rfl
@[go_sem] theorem wav_flat (a b : Int) : (wav a b).flat = true := rfl
@[go_sem] theorem wav_frz (hp : HP) (a b : Int) : (wav a b).frz hp = wav a b := rfl
@[go_sem] theorem wav_idL (a b : Int) : (wav a b).idL = [] := rfl
@[go_sem] theorem wav_ren (ρ : Nat → Nat) (a b : Int) : (wav a b).ren ρ = wav a b := rfl
@[go_sem] theorem und103 : Tryz.prog.underlying 275 = some (.array 2 27) := Tryz.underlying275
@[go_sem] theorem tArr103 : tArr Tryz.prog 275 = some (2, 27) ∧ tSize Tryz.prog 275 = some 2 ∧ tAgg Tryz.prog 275 = some true := by and_intros <;> kernel_rfl
@[go_sem] theorem tZero103 : tZero Tryz.prog 275 = some (wav 0 0) := by kernel_rfl
@[go_sem] theorem build103 (a b : Int) (K : AV → Prop) : buildK Tryz.prog 275 [(0, .int .u64 a), (1, .int .u64 b)] K = K (wav a b) := by
  simp only [buildK, und103, tZero103, wav]
  apply propext
  constructor
  · rintro ⟨sz, _, _, _, h⟩; exact h
  · intro h; exact ⟨1, by kernel_rfl, by simp [AV.len], rfl, h⟩
@[go_sem] theorem wav_sub0 (a b : Int) : (wav a b).sub [0] = some (.int .u64 a) := rfl
@[go_sem] theorem wav_sub1 (a b : Int) : (wav a b).sub [1] = some (.int .u64 b) := rfl
@[go_sem] theorem wav_offs0 (a b : Int) : (wav a b).offs [0] = some 0 := rfl
@[go_sem] theorem wav_offs1 (a b : Int) : (wav a b).offs [1] = some 1 := rfl
theorem arr103 (a b : Int) : arrInts Tryz.prog 275 [.int .u64 a, .int .u64 b] = some [a, b] := by
 have h1 : Tryz.prog.underlying 27 = some (.int .u64) := Tryz.underlying27
 have h2 : tSize Tryz.prog 27 = some 1 := by kernel_rfl
 simp only [arrInts, und103, h1, h2, List.length_cons, List.length_nil, and_self, if_true, intsOf, Option.map_some]
theorem guard103 : Tryz.prog.eqGuardType Tryz.prog.depth 275 = false := by kernel_rfl
@[go_sem] theorem eql103 (a b c d : Int) (K : AV → Prop) : binK Tryz.prog .eql 275 (wav a b) (wav c d) K = K (.bool ([a, b] == [c, d])) := by
  simp only [wav, binK, arr103, guard103, true_and]
theorem pz0 : ((0 : Int) < ((2 : Nat) : Int)) = True := by simp
theorem pz1 : ((1 : Int) < ((2 : Nat) : Int)) = True := by simp
theorem times_pure (x y : Nat) (hx : x < 1152921504606846976) (hy : y < 4) : Pure Tryz.prog 253 [.int .u64 x, .int .u64 y] (wav 0 (x * y : Nat)) := by
 have hm := mul_pure x y hx hy
 generalize ((x * y : Nat) : Int) = p at hm ⊢
 refine pure_of_tr Tryz.func253 rfl nb rfl fun E hE hP => ?_
 refine mr ?_
 have c1 := And.intro (en Tryz.func260) (hm)
 refine mr ?_
 refine mr ?_
 refine Tr.ret ?_
 simp only [Tryz.f253, go_sem, seval]
theorem least_pure (a b : Int) : Pure Tryz.prog 254 [wav 0 a, wav 0 b] (.bool (decide (b ≤ a))) := by
 refine pure_of_tr Tryz.func254 rfl nb rfl fun E hE hP => ?_
 refine mr ?_
 by_cases h1 : a = b
 · have er : decide (b ≤ a) = true := dtO
   have e1 : ([0, a] == [0, b]) = true := by simp [h1]
   have ff := e1
   refine mr ?_
   refine Tr.ret ?_
   simp only [er, Tryz.f254, go_sem, seval]
 · have er : decide (b ≤ a) = decide (b < a) := decide_eq_decide.2 (by omega)
   have e1 : ([0, a] == [0, b]) = false := by simp [h1]
   first | apply tr_m xE | (refine Tr.seq ?_; apply tr_m xE)
   intro Q hQ
   refine mS ?_
   iterate 4 (refine vm_op ?_; intro r hr; simp only [e1, go_sem, seval]; subst hr)
   iterate 5 (refine mI ?_; intro r hr; simp only [pz0, pz1, Int.toNat_zero, Int.toNat_one, Nat.zero_mul, Nat.one_mul, go_sem, seval]; subst hr)
   iterate 2 (refine vm_op ?_; intro r hr; simp only [pz0, pz1, Int.toNat_zero, Int.toNat_one, Nat.zero_mul, Nat.one_mul, go_sem, seval]; subst hr)
   iterate 12 (refine mI ?_; intro r hr; simp only [pz0, pz1, Int.toNat_zero, Int.toNat_one, Nat.zero_mul, Nat.one_mul, go_sem, seval]; subst hr)
   iterate 2 (refine vm_op ?_; intro r hr; simp only [pz0, pz1, Int.toNat_zero, Int.toNat_one, Nat.zero_mul, Nat.one_mul, go_sem, seval]; subst hr)
   exact hQ
   refine Tr.ret ?_
   simp only [er, Tryz.f254, go_sem, seval]
theorem nmost_pure (a b : Nat) (ha : a < 1152921504606846976) (hb : b < 1152921504606846976) : Pure Tryz.prog 243 [.int .u64 a, .int .u64 b] (.bool (decide (2 * b ≤ 3 * a))) := by
 have h1 := times_pure a 3 ha (by omega)
 have h2 := times_pure b 2 hb (by omega)
 have h3 := least_pure ((a * 3 : Nat) : Int) ((b * 2 : Nat) : Int)
 have er : decide (2 * b ≤ 3 * a) = decide (((b * 2 : Nat) : Int) ≤ ((a * 3 : Nat) : Int)) := decide_eq_decide.2 (by omega)
 rw [er]
 generalize ((a * 3 : Nat) : Int) = p at h1 h3 ⊢
 generalize ((b * 2 : Nat) : Int) = q at h2 h3 ⊢
 refine pure_of_tr Tryz.func243 rfl nb rfl fun E hE hP => ?_
 refine mr ?_
 have c1 := And.intro (en Tryz.func253) (h1)
 have c2 := And.intro (en Tryz.func253) (h2)
 have c3 := And.intro (en Tryz.func254) (h3)
 refine mr ?_
 refine Tr.ret ?_
 simp only [Tryz.f243, go_sem, seval]
theorem n3 : (¬ (3 : Int) = 0) = True := by simp
def sumTo (bal : List Int) (m : Nat) : Nat → Int
 | 0 => 0
 | n + 1 => sumTo bal m n + if m.testBit n then bal.getD n 0 else 0
def ofB (bal : List Int) (m : Nat) : Int := if mayS bal then sumTo bal m bal.length else 0
def maskAll : Nat := 18446744073709551615
def mostB (bal : List Int) (m : Nat) : Bool := mayS bal && decide (2 * (ofB bal maskAll).toNat ≤ 3 * (ofB bal m).toNat)
def okB (bal : List Int) : Prop := ∀ x ∈ bal, 0 ≤ x
theorem mayS_spec {bal : List Int} (h : mayS bal = true) : 0 < bal.length ∧ bal.length ≤ 8 ∧ ∀ x ∈ bal, x ≤ 1099511627776 := by
 simp only [mayS, Bool.and_eq_true, decide_eq_true_eq, Bool.not_eq_true', List.any_eq_false] at h
 refine ⟨h.1, h.2.1, fun x hx => ?_⟩
 have := h.2.2 x hx
 simp only [over, decide_eq_true_eq] at this
 omega
theorem bal_range {bal : List Int} (h : mayS bal = true) (hb : okB bal) {n : Nat} (hn : n < bal.length) : 0 ≤ bal.getD n 0 ∧ bal.getD n 0 ≤ 1099511627776 := by
 have e : bal.getD n 0 = bal[n] := by simp [hn]
 rw [e]
 exact ⟨hb _ (List.getElem_mem hn), (mayS_spec h).2.2 _ (List.getElem_mem hn)⟩
theorem sumTo_range {bal : List Int} (h : mayS bal = true) (hb : okB bal) (m : Nat) : ∀ n, n ≤ bal.length → 0 ≤ sumTo bal m n ∧ sumTo bal m n ≤ n * 1099511627776
 | 0, _ => by simp [sumTo]
 | n + 1, hn => by
  have ih := sumTo_range h hb m n (by omega)
  have hr := bal_range h hb (n := n) (by omega)
  rw [sumTo]
  split <;> omega
theorem ofB_range {bal : List Int} (hb : okB bal) (m : Nat) : 0 ≤ ofB bal m ∧ ofB bal m ≤ 8796093022208 := by
 unfold ofB
 split
 · rename_i h
   have := sumTo_range h hb m bal.length (Nat.le_refl _)
   have := (mayS_spec h).2.1
   omega
 · omega
theorem sumTo_congr {bal : List Int} {m k : Nat} : ∀ n, (∀ j, j < n → m.testBit j = k.testBit j) → sumTo bal m n = sumTo bal k n
 | 0, _ => rfl
 | n + 1, h => by rw [sumTo, sumTo, sumTo_congr n fun j hj => h j (by omega), h n (by omega)]
theorem sumTo_zero (bal : List Int) : ∀ n, sumTo bal 0 n = 0
 | 0 => rfl
 | n + 1 => by rw [sumTo, sumTo_zero]; simp
theorem sumTo_less {bal : List Int} {m k v : Nat} (hv : m.testBit v = true) : ∀ n, (∀ j, j < n → k.testBit j = (m.testBit j && decide (j ≠ v))) → sumTo bal m n = sumTo bal k n + if v < n then bal.getD v 0 else 0
 | 0, _ => by simp [sumTo]
 | n + 1, h => by
  have ih := sumTo_less (bal := bal) hv n fun j hj => h j (by omega)
  have hn := h n (by omega)
  rw [sumTo, sumTo, ih, hn]
  by_cases hnv : n = v
  · subst hnv
    rw [hv]
    simp
  · have e : decide (n ≠ v) = true := decide_eq_true hnv
    rw [e, Bool.and_true]
    have : (v < n + 1) ↔ v < n := by omega
    simp only [this]
    omega
@[go_sem] theorem tSize26 : tSize Tryz.prog 25 = some 1 ∧ tAgg Tryz.prog 25 = some false := by and_intros <;> kernel_rfl
@[go_sem] theorem u64s_agg (l : List Int) : (u64s l).agg = false := rfl
@[go_sem] theorem u64s_len (l : List Int) : (u64s l).len = 1 := rfl
@[go_sem] theorem u64s_ren (ρ : Nat → Nat) (l : List Int) : (u64s l).ren ρ = u64s l := rfl
theorem each_own (m : Int) : Own Tryz.prog 255 [.int .u64 m] (.fn (.func 261) [] [.ptr 0 [] 0]) [(0, .var (.int .u64 m))] := by
 refine own_of_tr Tryz.func255 rfl nb rfl fun E hE hP => ?_
 refine mr ?_
 refine mr ?_
 refine Tr.ret ?_
 simp only [Tryz.f255, go_sem, seval]
 exact ⟨fun n => n, rfl, ⟨⟨rfl, rfl, rfl⟩, trivial⟩, rfl⟩
theorem less_all : (List.range 256).all (fun m => decide (m = 0) || (decide (bitsI BinOp.and IntKind.u64 (m : Int) (IntKind.u64.wrap ((m : Int) - 1)) = ((m &&& (m - 1) : Nat) : Int)) && decide (m &&& (m - 1) < m) && m.testBit (tz m) && (List.range 8).all (fun j => decide ((m &&& (m - 1)).testBit j = (m.testBit j && decide (j ≠ tz m)))))) = true := by decide +kernel
theorem less_at {m : Nat} (h0 : 0 < m) (h1 : m < 256) : bitsI BinOp.and IntKind.u64 (m : Int) (IntKind.u64.wrap ((m : Int) - 1)) = ((m &&& (m - 1) : Nat) : Int) ∧ m &&& (m - 1) < m ∧ m.testBit (tz m) = true ∧ ∀ j, j < 8 → (m &&& (m - 1)).testBit j = (m.testBit j && decide (j ≠ tz m)) := by
 have h := List.all_eq_true.1 less_all m (List.mem_range.2 h1)
 have hm : decide (m = 0) = false := dfO
 simp only [hm, Bool.false_or, Bool.and_eq_true, decide_eq_true_eq] at h
 obtain ⟨⟨⟨h2, h3⟩, h4⟩, h5⟩ := h
 refine ⟨h2, h3, h4, fun j hj => ?_⟩
 have := List.all_eq_true.1 h5 j (List.mem_range.2 hj)
 exact of_decide_eq_true this
theorem low_bits (m n : Nat) (hm : m < 18446744073709551616) (hn : n ≤ 8) : bitsI BinOp.and IntKind.u64 (m : Int) (IntKind.u64.wrap (bit n - 1)) = ((m % 2 ^ n : Nat) : Int) := by
 have h256 : ∀ k : Nat, k ≤ 8 → bit k = ((2 ^ k : Nat) : Int) ∧ 2 ^ k ≤ 256 := by
  intro k hk
  rcases Nat.lt_or_ge k 8 with h | h
  · refine ⟨bit_pow k (by omega), ?_⟩
    exact Nat.pow_le_pow_right (n := 2) (by omega) hk
  · have : k = 8 := by omega
    subst this
    exact ⟨by decide +kernel, by decide⟩
 obtain ⟨e1, e2⟩ := h256 n hn
 have e3 : 0 < 2 ^ n := Nat.pow_pos (by omega)
 have e4 : IntKind.u64.wrap (bit n - 1) = ((2 ^ n - 1 : Nat) : Int) := by
  have : bit n - 1 = ((2 ^ n - 1 : Nat) : Int) := by omega
  rw [this]; exact wrapU (by omega)
 rw [e4]
 show andU m _ = _
 rw [andU_eq, BitVec.toNat_and]
 have f1 : (bv (m : Int)).toNat = m := by have := bv_back (n := m) ⟨by omega, by omega⟩; omega
 have f2 : (bv ((2 ^ n - 1 : Nat) : Int)).toNat = 2 ^ n - 1 := by have := bv_back (n := ((2 ^ n - 1 : Nat) : Int)) ⟨by omega, by omega⟩; omega
 rw [f1, f2, Nat.and_two_pow_sub_one_eq_mod]
def stO (l : List Int) (k : Nat) : S where
 fr := [(2, .ptr 1 [] 0), (5, .ptr 2 [] 0), (16, .fn (.func 261) [] [.ptr 3 [] 0])]
 hp := [(0, .tab 0 tabV), (1, .var (u64s l)), (2, .var (.int .u64 0)), (3, .var (.int .u64 k))]
 nx := 4
def stE (l : List Int) (L : Nat) (b : LB) (p : Nat × Int) : S where
 fr := [(0, .fn (.yield L) [] []), (1, .ptr 3 [] 0)]
 hp := [(5, .lp b .ready none), (4, .dfr), (0, .tab 0 tabV), (1, .var (u64s l)), (2, .var (.int .u64 p.2)), (3, .var (.int .u64 p.1))]
 nx := 6
theorem of_T (l : List Int) (m : Nat) (hb : okB l) (hm : m < 18446744073709551616) : PureT Tryz.prog 0 tabV 244 [u64s l, .int .u64 m] (.int .u64 (ofB l m)) := by
 have hmc := smay_pure l
 refine eff_of_trM Tryz.func244 rfl nb rfl fun E hE hP => ?_
 refine mr ?_
 by_cases h : mayS l = true
 · have er : ofB l m = sumTo l m l.length := by unfold ofB; rw [if_pos h]
   have h8 := (mayS_spec h).2.1
   have hk := low_bits m l.length hm h8
   have hk2 : m % 2 ^ l.length < 2 ^ l.length := Nat.mod_lt _ (Nat.pow_pos (by omega))
   have hk3 : 2 ^ l.length ≤ 256 := Nat.pow_le_pow_right (n := 2) (by omega) h8
   have hk4 : ∀ j, j < l.length → (m % 2 ^ l.length).testBit j = m.testBit j := fun j hj => by rw [Nat.testBit_mod_two_pow]; simp [hj]
   have hk5 := sumTo_congr (bal := l) (m := m % 2 ^ l.length) (k := m) l.length hk4
   rw [← hk5] at er
   generalize m % 2 ^ l.length = m0 at hk hk2 er
   rw [h] at hmc
   have c1 := And.intro (en Tryz.func50) (hmc)
   refine mr ?_
   refine mNot ?_
   refine mT ?_
   refine mr ?_
   first | apply tr_m xE | (refine Tr.seq ?_; apply tr_m xE)
   intro Q hQ
   refine mS ?_
   iterate 3 (refine vm_op ?_; intro r hr; simp only [u64s, List.length_map, go_sem, seval]; subst hr)
   refine vm_op ?_; intro r hr; simp only [u64s, List.length_map, go_sem, seval]
   refine call_fn rfl rfl rfl rfl (en Tryz.func221) (bit_pure (l.length : Int)) rfl rfl rfl ?_
   refine mS ?_
   subst hr
   iterate 2 (refine vm_op ?_; intro r hr; simp only [hk, go_sem, seval]; subst hr)
   refine vm_op ?_; intro r hr; simp only [hk, go_sem, seval]
   refine call_own rfl rfl rfl rfl (en Tryz.func255) (each_own (m0 : Int)) rfl rfl ?_
   refine mS ?_
   subst hr
   exact hQ
   refine Tr.wk (s' := stO l m0) ?_ ?_
   · refine wk_ren (fun | 2 => 81 | 3 => 193 | n => n) mB mB rfl rfl rfl
   · unfold stO
     refine mBk ?_
     refine Tr.range (fid := 261) (fn := Tryz.f261) rfl (en Tryz.func261) Tryz.func261 rfl rfl nb ?_
     have hE0 := hE
     intro E' L b hE hP' sd
     have hP : E'.pn = 6 := hP'
     rw [er]
     refine mBk ?_
     refine Tr.loop (stE l L b) (fun p => p.1 < 2 ^ l.length ∧ p.2 + sumTo l p.1 l.length = sumTo l m0 l.length ∧ 0 ≤ p.2 ∧ p.2 ≤ 8796093022208) (fun p => p.1) (m0, 0) ⟨hk2, by simp, by simp, by simp⟩ ?_ ?_
     · exact mK
     · rintro ⟨k, s⟩ ⟨hk1, hsum, hs0, hs1⟩
       simp only at hk1 hsum hs0 hs1
       unfold stE
       rcases Nat.eq_zero_or_pos k with h0 | h0
       · subst h0
         have er2 : s = sumTo l m0 l.length := by rw [sumTo_zero] at hsum; omega
         have ek : (((0 : Nat) : Int) != 0) = false := rfl
         first | refine tr_seq_y 6 sd xE rfl rfl rfl ?_ | (refine Tr.seq ?_; refine tr_seq_y 6 sd xE rfl rfl rfl ?_)
         refine mL ?_
         repeat (first | (refine vc_op rfl ?_; simp only [ek, go_sem, seval]) | (refine vc_go rfl rfl rfl ?_; simp only [ek, go_sem, seval]) | (refine vc_no rfl rfl rfl ?_; simp only [ek, go_sem, seval]) | (refine vc_skip rfl rfl rfl ?_; simp only [ek, go_sem, seval]))
         refine vc_nil ?_
         refine gy_no rfl rfl rfl ?_
         refine mS ?_
         refine mO ?_
         refine vc_nil ?_
         refine mNo ?_
         refine Tr.exit ?_
         refine mU ?_
         have hE := hE0
         refine ⟨rfl, _, _, rfl, by simp, rfl, ?_⟩
         simp only [goOn]
         simp only [HP.del, fB, go_sem, seval]
         rw [← er2]
         refine mr ?_
         refine Tr.ret ?_
         refine ⟨by simp, fun o ho => by rw [List.mem_singleton.1 ho]; rfl, ?_⟩
         simp only [HP.drop, List.contains_cons, List.contains_nil, Bool.or_false, Bool.false_or, Bool.or_true, fB,  Tryz.f244, go_sem, seval]
         exact ⟨fun n => n, ⟨⟨rfl, rfl, rfl⟩, trivial⟩, rfl, fun _ _ => rfl⟩
       · have h256 : k < 256 := by omega
         obtain ⟨l1, l2, l3, l4⟩ := less_at h0 h256
         have hz := tz_T k h0 h256
         have hv : tz k < l.length := by
          rcases Nat.lt_or_ge (tz k) l.length with h | h
          · exact h
          · rw [Nat.testBit_lt_two_pow (Nat.lt_of_lt_of_le hk1 (Nat.pow_le_pow_right (by omega) h))] at l3
            cases l3
         have hless := sumTo_less (bal := l) (m := k) (k := k &&& (k - 1)) l3 l.length fun j hj => l4 j (by omega)
         rw [if_pos hv] at hless
         have hd : l.getD (tz k) 0 = l[tz k] := by simp [hv]
         rw [hd] at hless
         have hr1 := bal_range h hb hv
         rw [hd] at hr1
         have hr2 := sumTo_range h hb (k &&& (k - 1)) l.length (Nat.le_refl _)
         have hr3 := sumTo_range h hb m0 l.length (Nat.le_refl _)
         have hw : IntKind.u64.wrap (s + l[tz k]) = s + l[tz k] := wrapU_lt (by omega) (by omega)
         have ha := nth_map_lt uav l (tz k) hv
         have ek : ((k : Int) != 0) = true := by rw [int_bne, dfO]; rfl
         generalize l[tz k] = x at hless hr1 hw ha
         generalize hk' : k &&& (k - 1) = k' at l1 l2 hless hr2
         clear hk4 hk5 hk3 l3 l4
         first | refine tr_seq_y 6 sd xE rfl rfl rfl ?_ | (refine Tr.seq ?_; refine tr_seq_y 6 sd xE rfl rfl rfl ?_)
         refine mL ?_
         repeat (first | (refine vc_op rfl ?_; simp only [ek, go_sem, seval]) | (refine vc_go rfl rfl rfl ?_; simp only [ek, go_sem, seval]) | (refine vc_no rfl rfl rfl ?_; simp only [ek, go_sem, seval]) | (refine vc_skip rfl rfl rfl ?_; simp only [ek, go_sem, seval]))
         refine call_eff (fun n => n) [] [] rfl rfl rfl rfl (en Tryz.func262) (hz) rfl rfl mB rfl rfl rfl ?_
         refine mR ?_
         refine mG ?_
         refine vc_nil ?_
         have hE1 := hE
         have hP1 := hP
         refine gy_if rfl rfl rfl ?_
         refine ⟨_, rfl, rfl, rfl, rfl, by rw [hE0]; rfl, rfl, ?_⟩
         intro Er hE hP
         rw [hE0] at hE
         refine mZ ?_
         refine mRd ?_
         refine ⟨rfl, ?_⟩
         refine mS ?_
         refine mBk ?_
         refine tr_drawn mixed [1, 2] rfl xE kR ?_
         refine vP ?_
         refine vd_q rfl rfl ?_; simp only [u64s, go_sem, seval]
         refine vP ?_
         refine vd_q rfl rfl ?_; simp only [uav, ha, go_sem, seval]
         refine vP ?_
         refine vd_q rfl rfl ?_; simp only [hw, go_sem, seval]
         refine vd_w rfl rfl kR ?_; simp only [go_sem, seval]
         refine vd_nil ?_
         refine mU ?_
         refine ⟨rfl, ?_⟩
         refine mS ?_
         refine mO ?_
         refine vc_nil ?_
         have hE := hE1
         have hP := hP1
         refine mYes ?_
         refine mT ?_
         refine mBk ?_
         apply tr_ml xE
         intro Q hQ
         refine mS ?_
         iterate 5 (refine vm_op ?_; intro r hr; simp only [l1, go_sem, seval]; subst hr)
         exact hQ
         refine mU ?_
         refine ⟨(k', s + x), ⟨by omega, by show s + x + sumTo l k' l.length = _; omega, by show 0 ≤ s + x; omega, by show s + x ≤ _; omega⟩, l2, ?_⟩
         exact mK
 · have h : mayS l = false := by simpa using h
   have er : ofB l m = 0 := by unfold ofB; rw [if_neg (by simp [h])]
   rw [h] at hmc
   have c1 := And.intro (en Tryz.func50) (hmc)
   refine mr ?_
   refine mYes ?_
   refine mr ?_
   refine Tr.ret ?_
   rw [er]
   refine ⟨List.nodup_nil, fun o ho => (by cases ho), ?_⟩
   simp only [drop_none,  Tryz.f244, go_sem, seval]
   exact ⟨fun n => n, ⟨⟨rfl, rfl, rfl⟩, trivial⟩, rfl, fun _ _ => rfl⟩
theorem total_T (l : List Int) (hb : okB l) : PureT Tryz.prog 0 tabV 245 [u64s l] (.int .u64 (ofB l maskAll)) := by
 have hc := of_T l maskAll hb (by decide)
 have ec : ((maskAll : Nat) : Int) = 18446744073709551615 := rfl
 rw [ec] at hc
 refine eff_of_tr Tryz.func245 rfl nb (by first | rfl | (simp only [AV.idsB, AV.idsBL, Bool.and_true, Bool.true_and] <;> rfl)) fun E hE hP => ?_
 refine mr ?_
 have x1 := And.intro (en Tryz.func244) (hc)
 refine mr ?_
 refine Tr.ret ?_
 simp only [Tryz.f245, go_sem, seval]
 exact ⟨fun n => n, ⟨⟨rfl, rfl, rfl⟩, trivial⟩, rfl, fun _ _ => rfl⟩
theorem most_T (l : List Int) (m : Nat) (hb : okB l) (hm : m < 18446744073709551616) : PureT Tryz.prog 0 tabV 227 [u64s l, .int .u64 m] (.bool (mostB l m)) := by
 have h1 := of_T l m hb hm
 have h2 := total_T l hb
 have r1 := ofB_range hb m
 have r2 := ofB_range hb maskAll
 have h0 := smay_pure l
 have h3 := nmost_pure (ofB l m).toNat (ofB l maskAll).toNat (by omega) (by omega)
 rw [Int.toNat_of_nonneg r1.1, Int.toNat_of_nonneg r2.1] at h3
 unfold mostB
 generalize decide (2 * (ofB l maskAll).toNat ≤ 3 * (ofB l m).toNat) = b at h3 ⊢
 generalize mayS l = c at h0 ⊢
 cases c
 · refine eff_of_tr Tryz.func227 rfl nb (by first | rfl | (simp only [AV.idsB, AV.idsBL, Bool.and_true, Bool.true_and] <;> rfl)) fun E hE hP => ?_
   refine mr ?_
   have c1 := And.intro (en Tryz.func50) (h0)
   refine mr ?_
   refine Tr.ret ?_
   simp only [Bool.false_and, Tryz.f227, go_sem, seval]
   exact ⟨fun n => n, ⟨⟨rfl, rfl, rfl⟩, trivial⟩, rfl, fun _ _ => rfl⟩
 · refine eff_of_tr Tryz.func227 rfl nb (by first | rfl | (simp only [AV.idsB, AV.idsBL, Bool.and_true, Bool.true_and] <;> rfl)) fun E hE hP => ?_
   refine mr ?_
   have c1 := And.intro (en Tryz.func50) (h0)
   have x1 := And.intro (en Tryz.func244) (h1)
   have x2 := And.intro (en Tryz.func245) (h2)
   have c2 := And.intro (en Tryz.func243) (h3)
   refine mr ?_
   refine Tr.ret ?_
   simp only [Bool.true_and, Tryz.f227, go_sem, seval]
   exact ⟨fun n => n, ⟨⟨rfl, rfl, rfl⟩, trivial⟩, rfl, fun _ _ => rfl⟩
def isR (r : Root) (n : Node) : Bool := decide (n.root = r)
def findI (t : List Node) (r : Root) : Int := match t.findIdx? (isR r) with | some i => (i : Int) | none => -1
def findR (t : List Node) (r : Root) : Int := if mayB t then findI t r else -1
theorem findI_at {t : List Node} {r : Root} {i : Nat} (h : i < t.length) (hb : ∀ j (hj : j < i), isR r (t[j]'(by omega)) = false) (hi : isR r t[i] = true) : findI t r = i := by
 have : t.findIdx? (isR r) = some i := by
  rw [List.findIdx?_eq_some_iff_getElem]
  exact ⟨h, hi, fun j hj => by rw [hb j hj]; simp⟩
 rw [findI, this]
theorem findI_range (t : List Node) (r : Root) : findI t r = -1 ∨ (0 ≤ findI t r ∧ findI t r < t.length) := by
 unfold findI
 cases h : t.findIdx? (isR r) with
 | none => exact .inl rfl
 | some i =>
  obtain ⟨h1, _, _⟩ := List.findIdx?_eq_some_iff_getElem.1 h
  right
  simp only
  omega
def rlook (es : List (Root × Nat)) (r : Root) : Option Nat := (es.find? fun e => decide (r = e.1)).map (·.2)
theorem foundR (es : List (Root × Nat)) (r : Root) : foundE (.root r) (es.map entE) = (rlook es r).map fun n => .int .i64 n := by
 unfold foundE rlook
 induction es with
 | nil => rfl
 | cons e es ih =>
  have hb : (AV.root r).eqb (entE e).1 = decide (r = e.1) := rfl
  simp only [List.map_cons, List.find?_cons, hb]
  cases decide (r = e.1)
  · exact ih
  · rfl
theorem lookR {hp : HP} {o : Nat} {es : List (Root × Nat)} {r : Root} {K : AV → Prop} (hg : HP.get hp o = some (.amap (es.map entE))) (h : K (.tup [.int .i64 ((rlook es r).getD 0), .bool (rlook es r).isSome])) :
 lookupK Tryz.prog 156 hp (.mp o) (.root r) true K := by
 simp only [lookupK, tMap88, hg, ltZero3, if_true]
 refine ⟨fits23 r, depth23 r, keys88 es, ?_⟩
 rw [foundR]
 cases hl : rlook es r with
 | none => rw [hl] at h; exact h
 | some n => rw [hl] at h; exact h
theorem idxTo_once {t : List Node} (hn : (t.map Node.root).Nodup) : ∀ n, n ≤ t.length → idxTo t n = (List.range n).map fun i => ((t.getD i zNode).root, i)
 | 0, _ => rfl
 | n + 1, h => by
  have ih := idxTo_once hn n (by omega)
  have hg : t[n]? = some t[n] := List.getElem?_eq_getElem (by omega)
  have hd : t.getD n zNode = t[n] := by simp [show n < t.length by omega]
  have e : idxTo t (n + 1) = setR (idxTo t n) t[n].root n := by rw [idxTo, hg]
  rw [e, ih, List.range_succ, List.map_append, List.map_cons, List.map_nil, hd]
  unfold setR
  have hno : ((List.range n).map fun i => ((t.getD i zNode).root, i)).findIdx? (fun e => decide (t[n].root = e.1)) = none := by
   rw [List.findIdx?_eq_none_iff]
   intro x hx
   obtain ⟨i, hi, rfl⟩ := List.mem_map.1 hx
   have hin := List.mem_range.1 hi
   have hdi : t.getD i zNode = t[i] := by simp [show i < t.length by omega]
   simp only [hdi]
   refine decide_eq_false fun he => ?_
   have := List.pairwise_iff_getElem.1 hn i n (by simp; omega) (by simp; omega) hin
   simp only [List.getElem_map] at this
   exact this he.symm
  rw [hno]
theorem rlook_once {t : List Node} (hn : (t.map Node.root).Nodup) (r : Root) : rlook (idxTo t t.length) r = t.findIdx? (isR r) := by
 rw [idxTo_once hn _ (Nat.le_refl _), rlook, List.find?_map, Option.map_map]
 have e : (Prod.snd ∘ fun i => ((t.getD i zNode).root, i)) = (id : Nat → Nat) := rfl
 rw [e, Option.map_id, id]
 cases h : t.findIdx? (isR r) with
 | none =>
  rw [List.find?_eq_none]
  intro i hi
  have hil := List.mem_range.1 hi
  have hd : t.getD i zNode = t[i] := by simp [hil]
  have := List.findIdx?_eq_none_iff.1 h t[i] (List.getElem_mem hil)
  simp only [isR, decide_eq_false_iff_not] at this
  simp only [Function.comp, hd, decide_eq_true_eq]
  exact fun he => this he.symm
 | some i =>
  obtain ⟨h1, h2, h3⟩ := List.findIdx?_eq_some_iff_getElem.1 h
  rw [List.find?_range_eq_some]
  have hd : t.getD i zNode = t[i] := by simp [h1]
  refine ⟨?_, List.mem_range.2 h1, fun j hj => ?_⟩
  · simp only [Function.comp, hd, decide_eq_true_eq]
    exact (of_decide_eq_true h2).symm
  · have hdj : t.getD j zNode = t[j]'(by omega) := by simp [show j < t.length by omega]
    have := h3 j hj
    simp only [isR, decide_eq_true_eq] at this
    simp only [Function.comp, hdj, Bool.not_eq_true', decide_eq_false_iff_not]
    exact fun he => this he.symm
theorem may_once {t : List Node} (h : mayB t = true) : (t.map Node.root).Nodup := by
 simp only [mayB, Bool.and_eq_true] at h
 exact of_decide_eq_true h.2
theorem find_pure (t : List Node) (r : Root) : Pure Tryz.prog 57 [tav t, .root r] (.int .i64 (findR t r)) := by
 have hc := may_pure t
 refine pure_of_tr Tryz.func57 rfl nb rfl fun E hE hP => ?_
 refine mr ?_
 by_cases h : mayB t = true
 · have er : findR t r = findI t r := by unfold findR; rw [if_pos h]
   have hl := (may_len h).2
   have hk := rlook_once (may_once h) r
   rw [h] at hc
   have c1 := And.intro (en Tryz.func90) (hc)
   refine mr ?_
   refine mNot ?_
   refine mT ?_
   have o1 := And.intro (en Tryz.func111) (index_own t (by omega))
   refine mr ?_
   refine mSr ?_
   iterate 2 (refine vc_op rfl ?_; simp only [go_sem, seval])
   refine vc_op rfl ?_; simp only [go_sem, seval]
   refine lookR rfl ?_
   simp only [hk, go_sem, seval]
   cases hf : t.findIdx? (isR r) with
   | some i =>
    have ef : findR t r = i := by rw [er, findI, hf]
    simp only [Option.getD_some, Option.isSome_some, go_sem, seval]
    iterate 5 (refine vc_op rfl ?_; simp only [go_sem, seval])
    refine vc_nil ?_
    refine mr ?_
    refine mYes ?_
    refine mr ?_
    refine Tr.ret ?_
    simp only [ef, Tryz.f57, go_sem, seval]
   | none =>
    have ef : findR t r = -1 := by rw [er, findI, hf]
    simp only [Option.getD_none, Option.isSome_none, go_sem, seval]
    iterate 5 (refine vc_op rfl ?_; simp only [go_sem, seval])
    refine vc_nil ?_
    refine mr ?_
    refine mNot ?_
    refine mT ?_
    refine mr ?_
    refine Tr.ret ?_
    simp only [ef, Tryz.f57, go_sem, seval]
 · have h : mayB t = false := by simpa using h
   have er : findR t r = -1 := by unfold findR; rw [if_neg (by simp [h])]
   rw [h] at hc
   have c1 := And.intro (en Tryz.func90) (hc)
   refine mr ?_
   refine mYes ?_
   refine mr ?_
   refine Tr.ret ?_
   simp only [er, Tryz.f57, go_sem, seval]
def behindB (t : List Node) (c f : Check) : Bool := aboveR t (findR t f.root) (findR t c.root)
theorem behind_pure (t : List Node) (c f : Check) : Pure Tryz.prog 109 [tav t, c.av, f.av] (.bool (behindB t c f)) := by
 have h1 := find_pure t f.root
 have h2 := find_pure t c.root
 have h3 := above_pure t (findR t f.root) (findR t c.root)
 have er : behindB t c f = aboveR t (findR t f.root) (findR t c.root) := rfl
 refine pure_of_tr Tryz.func109 rfl nb rfl fun E hE hP => ?_
 refine mr ?_
 have c1 := And.intro (en Tryz.func57) (h1)
 have c2 := And.intro (en Tryz.func57) (h2)
 have c3 := And.intro (en Tryz.func98) (h3)
 refine mr ?_
 refine Tr.ret ?_
 simp only [er, Tryz.f109, go_sem, seval]
theorem isB_two (t : List Node) (i k : Int) : isB t [i, k] = (isB t [i] && isB t [k]) := by
 simp only [isB, List.any_cons, List.any_nil, Bool.or_false]
 cases mayB t <;> cases badI t i <;> cases badI t k <;> rfl
theorem isB_spec {t : List Node} {i : Int} (h : isB t [i] = true) : mayB t = true ∧ 0 ≤ i ∧ i < t.length := by
 simp only [isB, badI, List.any_cons, List.any_nil, Bool.or_false, Bool.and_eq_true, Bool.not_eq_true', Bool.or_eq_false_iff, decide_eq_false_iff_not] at h
 exact ⟨h.1, by omega, by omega⟩
def toldR (t : List Node) (l : List Link) (b : List Int) : Bool := mayB t && (lmayB l && mayS b)
def okL (l : List Link) : Prop := ∀ a ∈ l, 0 ≤ a.mask ∧ a.mask < 18446744073709551616
def countB (t : List Node) (b : List Int) (a : Link) : Bool := behindB t a.t a.s && mostB b a.mask.toNat
def betterB (a b : Check) : Bool := decide (a.epoch < b.epoch) || (decide (b.epoch = a.epoch) && lessR a.root b.root)
def checks (l : List Check) : AV := .sl (l.map Check.av) false
@[go_sem] theorem checks_idL (l : List Check) : (checks l).idL = [] := rfl
@[go_sem] theorem checks_frz (hp : HP) (l : List Check) : (checks l).frz hp = checks l := rfl
@[go_sem] theorem checks_flat (l : List Check) : (checks l).flat = false := rfl
@[go_sem] theorem checks_ok (l : List Check) : (checks l).ok = true := rfl
@[go_sem] theorem checks_idf (l : List Check) : (checks l).idf = true := rfl
@[go_sem] theorem checks_agg (l : List Check) : (checks l).agg = false := rfl
@[go_sem] theorem checks_len (l : List Check) : (checks l).len = 1 := rfl
@[go_sem] theorem checks_ren (ρ : Nat → Nat) (l : List Check) : (checks l).ren ρ = checks l := rfl
@[go_sem] theorem links_agg (l : List Link) : (links l).agg = false := rfl
@[go_sem] theorem links_len (l : List Link) : (links l).len = 1 := rfl
@[go_sem] theorem links_ren (ρ : Nat → Nat) (l : List Link) : (links l).ren ρ = links l := rfl
@[go_sem] theorem tElem27 : tElem Tryz.prog 32 = some 36 := by kernel_rfl
@[go_sem] theorem tSize27 : tSize Tryz.prog 32 = some 1 ∧ tAgg Tryz.prog 32 = some false ∧ tSize Tryz.prog 31 = some 1 ∧ tAgg Tryz.prog 31 = some false ∧ tBytes Tryz.prog 36 = some 40 := by and_intros <;> kernel_rfl
@[go_sem] theorem cund27 : Tryz.prog.underlying 32 = some (.slice 36) := Tryz.underlying32
theorem told_pure (t : List Node) (l : List Link) (b : List Int) : Pure Tryz.prog 226 [tav t, links l, u64s b] (.bool (toldR t l b)) := by
 have h1 := may_pure t
 have h2 := LMay_pure l
 have h3 := smay_pure b
 unfold toldR
 generalize mayB t = x at h1 ⊢
 generalize lmayB l = y at h2 ⊢
 generalize mayS b = z at h3 ⊢
 cases x
 · refine pure_of_tr Tryz.func226 rfl nb rfl fun E hE hP => ?_
   refine mr ?_
   have c1 := And.intro (en Tryz.func90) (h1)
   refine mr ?_
   refine Tr.ret ?_
   simp only [Bool.false_and, Tryz.f226, go_sem, seval]
 · cases y
   · refine pure_of_tr Tryz.func226 rfl nb rfl fun E hE hP => ?_
     refine mr ?_
     have c1 := And.intro (en Tryz.func90) (h1)
     have c2 := And.intro (en Tryz.func101) (h2)
     refine mr ?_
     refine Tr.ret ?_
     simp only [Bool.false_and, Bool.true_and, Tryz.f226, go_sem, seval]
   · refine pure_of_tr Tryz.func226 rfl nb rfl fun E hE hP => ?_
     refine mr ?_
     have c1 := And.intro (en Tryz.func90) (h1)
     have c2 := And.intro (en Tryz.func101) (h2)
     have c3 := And.intro (en Tryz.func50) (h3)
     refine mr ?_
     refine Tr.ret ?_
     simp only [Bool.true_and, Tryz.f226, go_sem, seval]
theorem better_pure (a b : Check) : Pure Tryz.prog 110 [a.av, b.av] (if betterB a b then b else a).av := by
 have h1 := less_pure a.root b.root
 unfold betterB
 generalize lessR a.root b.root = z at h1 ⊢
 cases e1 : decide (a.epoch < b.epoch) with
 | true =>
  refine pure_of_tr Tryz.func110 rfl nb rfl fun E hE hP => ?_
  refine mr ?_
  have ff := e1
  refine mr ?_
  refine mYes ?_
  refine mr ?_
  refine Tr.ret ?_
  simp only [Bool.true_or, Tryz.f110, go_sem, seval]
 | false =>
  cases e2 : decide (b.epoch = a.epoch) with
  | true =>
   cases z with
   | true =>
    refine pure_of_tr Tryz.func110 rfl nb rfl fun E hE hP => ?_
    refine mr ?_
    first | apply tr_m xE | (refine Tr.seq ?_; apply tr_m xE)
    intro Q hQ
    refine mS ?_
    iterate 6 (refine vm_op ?_; intro r hr; simp only [e1, e2, int_beq, go_sem, seval]; subst hr)
    iterate 10 (refine mI ?_; intro r hr; simp only [e1, e2, int_beq, go_sem, seval]; subst hr)
    refine mI ?_; intro r hr; simp only [e1, e2, int_beq, go_sem, seval]
    refine call_fn rfl rfl rfl rfl (en Tryz.func176) (h1) rfl rfl rfl ?_
    refine mS ?_
    subst hr
    refine mI ?_; intro r hr; simp only [go_sem, seval]; subst hr
    refine mV ?_
    exact hQ
    refine mYes ?_
    refine mr ?_
    refine Tr.ret ?_
    simp only [Bool.false_or, Bool.true_and, Tryz.f110, go_sem, seval]
   | false =>
    refine pure_of_tr Tryz.func110 rfl nb rfl fun E hE hP => ?_
    refine mr ?_
    first | apply tr_m xE | (refine Tr.seq ?_; apply tr_m xE)
    intro Q hQ
    refine mS ?_
    iterate 6 (refine vm_op ?_; intro r hr; simp only [e1, e2, int_beq, go_sem, seval]; subst hr)
    iterate 10 (refine mI ?_; intro r hr; simp only [e1, e2, int_beq, go_sem, seval]; subst hr)
    refine mI ?_; intro r hr; simp only [e1, e2, int_beq, go_sem, seval]
    refine call_fn rfl rfl rfl rfl (en Tryz.func176) (h1) rfl rfl rfl ?_
    refine mS ?_
    subst hr
    refine mI ?_; intro r hr; simp only [go_sem, seval]; subst hr
    refine mV ?_
    exact hQ
    refine mNot ?_
    refine mT ?_
    refine mr ?_
    refine Tr.ret ?_
    simp only [Bool.false_or, Bool.true_and, Bool.false_eq_true, Tryz.f110, go_sem, seval]
  | false =>
   refine pure_of_tr Tryz.func110 rfl nb rfl fun E hE hP => ?_
   refine mr ?_
   first | apply tr_m xE | (refine Tr.seq ?_; apply tr_m xE)
   intro Q hQ
   refine mS ?_
   iterate 6 (refine vm_op ?_; intro r hr; simp only [e1, e2, int_beq, go_sem, seval]; subst hr)
   iterate 12 (refine mI ?_; intro r hr; simp only [e1, e2, int_beq, go_sem, seval]; subst hr)
   refine vm_op ?_; intro r hr; simp only [e1, e2, int_beq, go_sem, seval]; subst hr
   exact hQ
   refine mNot ?_
   refine mT ?_
   refine mr ?_
   refine Tr.ret ?_
   simp only [Bool.false_or, Bool.false_and, Bool.false_eq_true, Tryz.f110, go_sem, seval]
theorem mem_at {l : List Check} {c : Check} {i : Nat} (h : i < l.length) (he : l[i] = c) : decide (c ∈ l) = true := decide_eq_true (he ▸ List.getElem_mem h)
def cidx (l : List Check) (c : Check) : Int := match l.findIdx? (fun x => decide (c = x)) with | some i => (i : Int) | none => -1
theorem cidx_at {l : List Check} {c : Check} {i : Nat} (h : i < l.length) (hb : ∀ j (hj : j < l.length), j < i → c ≠ l[j]) (hi : c = l[i]) : cidx l c = i := by
 have : l.findIdx? (fun x => decide (c = x)) = some i := by
  rw [List.findIdx?_eq_some_iff_getElem]
  exact ⟨h, decide_eq_true hi, fun j hj => by simpa using hb j (by omega) hj⟩
 rw [cidx, this]
theorem cidx_none {l : List Check} {c : Check} (hb : ∀ j (hj : j < l.length), c ≠ l[j]) : cidx l c = -1 := by
 have : l.findIdx? (fun x => decide (c = x)) = none := by
  rw [List.findIdx?_eq_none_iff]
  intro x hx
  obtain ⟨j, hj, rfl⟩ := List.mem_iff_getElem.1 hx
  exact decide_eq_false (hb j hj)
 rw [cidx, this]
theorem cidx_mem (l : List Check) (c : Check) : decide (0 ≤ cidx l c) = decide (c ∈ l) := by
 unfold cidx
 cases h : l.findIdx? (fun x => decide (c = x)) with
 | none =>
  have := List.findIdx?_eq_none_iff.1 h
  rw [decide_eq_false (p := c ∈ l) (fun hm => by simpa using this c hm)]
  rfl
 | some i =>
  obtain ⟨h1, h2, _⟩ := List.findIdx?_eq_some_iff_getElem.1 h
  rw [mem_at h1 (of_decide_eq_true h2).symm]
  simp
theorem cindex_pure (l : List Check) (c : Check) (hl : l.length ≤ 10000) : Pure Tryz.prog 168 [checks l, c.av] (.int .i64 (cidx l c)) := by
 unfold checks
 refine pure_of_tr Tryz.func168 rfl nb rfl fun E hE hP => ?_
 refine mr ?_
 refine mr ?_
 refine mBk ?_
 refine Tr.loop (fun i : Nat => (⟨[(0, .sl (l.map Check.av) false), (3, .ptr 0 [] 0), (7, .int .i64 l.length), (8, .int .i64 i)], [(0, .var c.av)], 1, []⟩ : S)) (fun i => i ≤ l.length ∧ ∀ j (hj : j < l.length), j < i → c ≠ l[j]) (fun i => l.length - i) 0 ⟨Nat.zero_le _, fun _ _ h => by omega⟩ ?_ ?_
 · exact mK
 · intro i ⟨hi, hall⟩
   by_cases hlt : i < l.length
   · have e1 : decide ((i : Int) < (l.length : Int)) = true := dtO
     have ha := nth_map_lt Check.av l i hlt
     have hw := wN i
     have ff := e1
     refine mr ?_
     refine mYes ?_
     refine mT ?_
     refine mBk ?_
     refine mr ?_
     cases hb : decide (c = l[i]) with
     | true =>
      have er := cidx_at hlt hall (of_decide_eq_true hb)
      have ff := And.intro ha hb
      refine mr ?_
      refine mYes ?_
      refine mr ?_
      refine Tr.ret ?_
      simp only [er, Tryz.f168, go_sem, seval]
     | false =>
      have ff := And.intro ha hb
      refine mr ?_
      refine mNo ?_
      refine mT ?_
      refine mRd ?_
      rw [hw]
      refine mU ?_
      refine ⟨i + 1, ⟨hlt, fun j hj hjl => ?_⟩, by omega, ?_⟩
      · rcases Nat.lt_or_ge j i with h | h
        · exact hall j hj h
        · have : j = i := by omega
          subst this; exact of_decide_eq_false hb
      exact mK
   · have e1 : decide ((i : Int) < (l.length : Int)) = false := dfO
     have er := cidx_none (l := l) (c := c) fun j hj => hall j hj (by omega)
     have ff := e1
     refine mr ?_
     refine mNo ?_
     refine Tr.exit ?_
     refine mU ?_
     refine mr ?_
     refine Tr.ret ?_
     simp only [er, Tryz.f168, go_sem, seval]
theorem ccontains_pure (l : List Check) (c : Check) (hl : l.length ≤ 10000) : Pure Tryz.prog 102 [checks l, c.av] (.bool (decide (c ∈ l))) := by
 have er := cidx_mem l c
 refine pure_of_tr Tryz.func102 rfl nb rfl fun E hE hP => ?_
 refine mr ?_
 have c1 := And.intro (en Tryz.func168) (cindex_pure l c hl)
 refine mr ?_
 refine Tr.ret ?_
 simp only [er, Tryz.f102, go_sem, seval]
theorem cclone_own (l : List Check) (hl : l.length ≤ 10000) : Own Tryz.prog 135 [checks l] (.ms 0 33 l.length) [(0, .row 33 (l.map Check.av))] := by
 unfold checks
 refine own_of_tr Tryz.func135 rfl nb rfl fun E hE hP => ?_
 refine mr ?_
 refine mSr ?_
 refine mO ?_
 refine ⟨fun hz c => ?_, fun hz => ?_⟩
 · have hz' : l = [] := List.eq_nil_of_length_eq_zero hz
   subst hz'
   refine vc_nil ?_
   refine Tr.cond rfl (fun hc => ?_) (fun hc => ?_)
   · refine mr ?_
     refine Tr.wk (Wk.nil 2 33 rfl) ?_
     refine Tr.ret ?_
     simp only [Tryz.f135, go_sem, seval]
     exact ⟨fun n => 64 + n, rfl, ⟨⟨rfl, rfl, rfl⟩, trivial⟩, rfl⟩
   · refine Tr.skip ?_
     simp only [thenK]
     refine mr ?_
     refine Tr.ret ?_
     simp only [Tryz.f135, go_sem, seval]
     exact ⟨fun n => 80 + n, rfl, ⟨⟨rfl, rfl, rfl⟩, trivial⟩, rfl⟩
 · refine vc_nil ?_
   refine Tr.cond rfl (fun hc => by cases hc) (fun hc => ?_)
   refine Tr.skip ?_
   simp only [thenK]
   refine mSr ?_
   refine mO ?_
   refine ⟨by omega, by omega, .inl trivial, ?_⟩
   refine mO ?_
   refine vc_nil ?_
   refine Tr.ret ?_
   simp only [Tryz.f135, go_sem, seval]
   exact ⟨fun n => 80 + n, rfl, ⟨⟨rfl, rfl, rfl⟩, trivial⟩, rfl⟩
def goB (out : List Check) (a : Link) : Bool := decide (a.s ∈ out) && !decide (a.t ∈ out)
def leftN (ls : List Link) (out : List Check) : Nat := ls.countP fun a => !decide (a.t ∈ out)
def moreN (ls : List Link) : Nat → List Check → List Check
 | 0, out => out
 | n + 1, out => match ls.find? (goB out) with
  | none => out
  | some a => moreN ls n (out ++ [a.t])
def moreF (ls : List Link) (out : List Check) : List Check := moreN ls (leftN ls out) out
def countL (t : List Node) (l : List Link) (b : List Int) : List Link := if toldR t l b then l.filter (countB t b) else []
def moreR (t : List Node) (l : List Link) (b : List Int) (js : List Check) : List Check := moreF (countL t l b) js
theorem leftN_le {ls : List Link} {out : List Check} {c : Check} : leftN ls (out ++ [c]) ≤ leftN ls out :=
 List.countP_mono_left fun a _ h => by
  simp only [List.mem_append, List.mem_singleton, Bool.not_eq_true', decide_eq_false_iff_not, not_or] at h ⊢
  exact h.1
theorem leftN_lt {ls : List Link} {out : List Check} {a : Link} (ha : a ∈ ls) (hn : a.t ∉ out) : leftN ls (out ++ [a.t]) < leftN ls out := by
 unfold leftN
 induction ls with
 | nil => cases ha
 | cons b ls ih =>
  simp only [List.countP_cons]
  have hmono : ls.countP (fun x => !decide (x.t ∈ out ++ [a.t])) ≤ ls.countP fun x => !decide (x.t ∈ out) := leftN_le
  rcases List.mem_cons.1 ha with rfl | ha
  · have e1 : (!decide (a.t ∈ out ++ [a.t])) = false := by simp
    have e2 : (!decide (a.t ∈ out)) = true := by simp [hn]
    rw [e1, e2]
    simp only [Bool.false_eq_true, if_false, if_true]
    omega
  · have := ih ha
    have h2 : (!decide (b.t ∈ out ++ [a.t])) = true → (!decide (b.t ∈ out)) = true := by
     simp only [List.mem_append, List.mem_singleton, Bool.not_eq_true', decide_eq_false_iff_not, not_or]
     exact fun h => h.1
    split
    · rename_i h
      rw [if_pos (h2 h)]
      omega
    · split <;> omega
theorem goB_spec {out : List Check} {a : Link} (h : goB out a = true) : a.s ∈ out ∧ a.t ∉ out := by
 simp only [goB, Bool.and_eq_true, decide_eq_true_eq, Bool.not_eq_true', decide_eq_false_iff_not] at h
 exact h
theorem moreN_fuel (ls : List Link) : ∀ (n m : Nat) (out : List Check), leftN ls out ≤ n → leftN ls out ≤ m → moreN ls n out = moreN ls m out
 | 0, 0, _, _, _ => rfl
 | 0, m + 1, out, h, _ => by
  rw [moreN, moreN]
  cases hf : ls.find? (goB out) with
  | none => rfl
  | some a =>
   have ha := List.mem_of_find?_eq_some hf
   have hg := goB_spec (List.find?_some hf)
   have := leftN_lt ha hg.2
   omega
 | n + 1, 0, out, _, h => by
  rw [moreN, moreN]
  cases hf : ls.find? (goB out) with
  | none => rfl
  | some a =>
   have ha := List.mem_of_find?_eq_some hf
   have hg := goB_spec (List.find?_some hf)
   have := leftN_lt ha hg.2
   omega
 | n + 1, m + 1, out, h1, h2 => by
  rw [moreN, moreN]
  cases hf : ls.find? (goB out) with
  | none => rfl
  | some a =>
   have ha := List.mem_of_find?_eq_some hf
   have hg := goB_spec (List.find?_some hf)
   have := leftN_lt ha hg.2
   exact moreN_fuel ls n m _ (by omega) (by omega)
theorem moreF_none {ls : List Link} {out : List Check} (h : ls.find? (goB out) = none) : moreF ls out = out := by
 unfold moreF
 cases hn : leftN ls out with
 | zero => rfl
 | succ n => rw [moreN, h]
theorem moreF_some {ls : List Link} {out : List Check} {a : Link} (h : ls.find? (goB out) = some a) : moreF ls out = moreF ls (out ++ [a.t]) ∧ leftN ls (out ++ [a.t]) < leftN ls out := by
 have ha := List.mem_of_find?_eq_some h
 have hg := goB_spec (List.find?_some h)
 have hlt := leftN_lt ha hg.2
 refine ⟨?_, hlt⟩
 unfold moreF
 obtain ⟨n, hn⟩ : ∃ n, leftN ls out = n + 1 := ⟨leftN ls out - 1, by omega⟩
 rw [hn, moreN, h]
 exact moreN_fuel ls _ _ _ (by omega) (Nat.le_refl _)
theorem leftN_len (ls : List Link) (out : List Check) : leftN ls out ≤ ls.length := List.countP_le_length
end Go.Proofs.YtekjdikofhdcpaaGreatDoor
