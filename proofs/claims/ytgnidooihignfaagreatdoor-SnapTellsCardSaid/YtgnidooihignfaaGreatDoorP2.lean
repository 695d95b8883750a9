/- The reference of layer 15: may links be, and one more attests. -/
import Derived.Test.YtgnidooihignfaaGreatDoorP1
set_option linter.unusedSimpArgs false
set_option maxRecDepth 10000
namespace Go.Proofs.YtgnidooihignfaaGreatDoor
open Go Go.Ab
def st18o (l : List Link) (i : Nat) : S where
 fr := [(3, .int .i64 i), (0, .sl (l.map Link.av) false)]
 hp := []
 nx := 0
def st18i (l : List Link) (i j : Nat) : S where
 fr := [(4, .int .i64 j), (3, .int .i64 i), (0, .sl (l.map Link.av) false)]
 hp := []
 nx := 0
theorem may_odd {l : List Link} {i : Nat} (h : i < l.length) (ho : odd l[i] = true) : lmayB l = false := by
 rw [Bool.eq_false_iff]
 intro hm
 rw [(may_spec hm).2.1 _ (List.getElem_mem h)] at ho
 cases ho
theorem may_twice {l : List Link} {i j : Nat} (hi : i < l.length) (hj : j < i) (hk : keyOf l[i] = keyOf (l[j]'(by omega))) : lmayB l = false := by
 rw [Bool.eq_false_iff]
 intro hm
 exact keys_apart l.length (Nat.le_refl _) (may_spec hm).2.2 j i (l[j]'(by omega)) l[i] hj hi (by simp) (by simp) hk.symm
theorem RLMay_pure (l : List Link) (hl : l.length ≤ 100) (hmask : ∀ a ∈ l, 0 ≤ a.mask) : Pure Tryz.prog 178 [links l] (.bool (lmayB l)) := by
 unfold links
 refine pure_of_tr Tryz.func178 rfl nb rfl fun E hE hP => ?_
 refine mr ?_
 refine Tr.seq ?_
 refine mr ?_
 refine Tr.block ?_
 refine Tr.loop (st18o l) (fun i => i ≤ l.length ∧ (∀ (j : Nat) (hj : j < l.length), j < i → odd l[j] = false) ∧ ∀ (j m : Nat) (hj : j < l.length) (hm : m < j), j < i → keyOf l[j] ≠ keyOf (l[m]'(by omega))) (fun i => l.length - i) 0 ⟨Nat.zero_le _, fun _ _ h => by omega, fun _ _ _ _ h => by omega⟩ ?_ ?_
 · exact mK
 · intro i ⟨hi, hbo, hbk⟩
   unfold st18o
   refine Tr.seq ?_
   refine mr ?_
   refine Tr.cond rfl (fun h1 => ?_) (fun h1 => ?_)
   · refine mT ?_
     have hlt : i < l.length := by have := of_decide_eq_true h1; omega
     have ha := nth_map_lt Link.av l i hlt
     have hbad' := may_odd hlt
     have htw := fun j => may_twice (j := j) hlt
     have hm0 := hmask l[i] (List.getElem_mem hlt)
     generalize hla : l[i] = a at ha hbad' hm0 htw
     have hw := wN i
     refine Tr.seq ?_
     refine Tr.block ?_
     refine Tr.seq ?_
     by_cases c1 : a.t.epoch ≤ a.s.epoch
     · have e1 : decide (a.t.epoch ≤ a.s.epoch) = true := decide_eq_true c1
       have e2 : True := trivial
       have e3 : True := trivial
       have hbad := hbad' (by simp [odd, c1])
       have ff := And.intro ha e1
       refine mr ?_
       refine Tr.cond rfl (fun h => ?_) (fun h => by cases h)
       refine mr ?_
       refine Tr.ret ?_
       simp only [hbad, Tryz.f178, go_sem, seval]
     · have e1 : decide (a.t.epoch ≤ a.s.epoch) = false := decide_eq_false c1
       by_cases c2 : a.mask < 1
       · have e2 : decide (a.mask < 1) = true := decide_eq_true c2
         have hbad := hbad' (by simp [odd]; omega)
         have ff := And.intro ha (And.intro e1 e2)
         refine mr ?_
         refine Tr.cond rfl (fun h => ?_) (fun h => by cases h)
         refine mr ?_
         refine Tr.ret ?_
         simp only [hbad, Tryz.f178, go_sem, seval]
       · have e2 : decide (a.mask < 1) = false := decide_eq_false c2
         by_cases c3 : 255 < a.mask
         · have e3 : decide (255 < a.mask) = true := decide_eq_true c3
           have hbad := hbad' (by simp [odd]; omega)
           have ff := And.intro ha (And.intro e1 (And.intro e2 e3))
           refine mr ?_
           refine Tr.cond rfl (fun h => ?_) (fun h => by cases h)
           refine mr ?_
           refine Tr.ret ?_
           simp only [hbad, Tryz.f178, go_sem, seval]
         · have e3 : decide (255 < a.mask) = false := decide_eq_false c3
           have hgood : odd a = false := by rw [odd_false]; omega
           have ff := And.intro ha (And.intro e1 (And.intro e2 e3))
           refine mr ?_
           refine Tr.cond rfl (fun h => by cases h) (fun h => ?_)
           refine mT ?_
           refine mr ?_
           refine Tr.block ?_
           refine Tr.loop (st18i l i) (fun j => j ≤ i ∧ ∀ (m : Nat) (hm : m < l.length), m < j → keyOf a ≠ keyOf l[m]) (fun j => i - j) 0 ⟨Nat.zero_le _, fun _ _ h => by omega⟩ ?_ ?_
           · exact mK
           · intro j ⟨hj, hbj⟩
             unfold st18i
             refine Tr.seq ?_
             refine mr ?_
             refine Tr.cond rfl (fun h2 => ?_) (fun h2 => ?_)
             · refine mT ?_
               have hji : j < i := by have := of_decide_eq_true h2; omega
               have hjt : j < l.length := by omega
               have hb := nth_map_lt Link.av l j hjt
               have htwj := htw j hji
               generalize hlb : l[j] = b at hb htwj
               have hw2 := wN j
               refine Tr.seq ?_
               refine Tr.block ?_
               first | refine tr_seq_drawn mixed [] rfl xE kR ?_ | (refine Tr.seq ?_; refine tr_seq_drawn mixed [] rfl xE kR ?_)
               repeat (first | (refine vd_q rfl rfl ?_; simp only [ha, hb, go_sem, seval]) | (refine vd_x rfl rfl ?_; simp only [ha, hb, go_sem, seval]) | (refine vd_goq rfl rfl rfl rfl ?_; simp only [ha, hb, go_sem, seval]) | (refine vd_gox rfl rfl rfl rfl ?_; simp only [ha, hb, go_sem, seval]) | (refine vd_no rfl rfl rfl ?_; simp only [ha, hb, go_sem, seval]) | (refine vd_skip rfl rfl rfl ?_; simp only [ha, hb, go_sem, seval]))
               refine call_fn rfl rfl rfl rfl (en Tryz.func220) (ROne_pure a b) rfl rfl rfl ?_
               refine mS ?_
               repeat (first | (refine vd_q rfl rfl ?_; simp only [go_sem, seval]) | (refine vd_x rfl rfl ?_; simp only [go_sem, seval]) | (refine vd_goq rfl rfl rfl rfl ?_; simp only [go_sem, seval]) | (refine vd_gox rfl rfl rfl rfl ?_; simp only [go_sem, seval]) | (refine vd_no rfl rfl rfl ?_; simp only [go_sem, seval]) | (refine vd_skip rfl rfl rfl ?_; simp only [go_sem, seval]))
               refine vd_nil ?_
               refine mr ?_
               refine Tr.cond rfl (fun h3 => ?_) (fun h3 => ?_)
               · have hbad := htwj (of_decide_eq_true h3)
                 refine mr ?_
                 refine Tr.ret ?_
                 simp only [hbad, Tryz.f178, go_sem, seval]
               · have hne := of_decide_eq_false h3
                 refine mT ?_
                 refine tr_region xE ?_
                 repeat (refine vc_op rfl ?_; simp only [hw2, go_sem, seval])
                 refine vc_nil ?_
                 refine mU ?_
                 refine ⟨j + 1, ⟨hji, fun m hm hmj => ?_⟩, by omega, ?_⟩
                 · by_cases h : m = j
                   · subst h; rw [hlb]; exact hne
                   · exact hbj m hm (by omega)
                 · exact mK
             · refine Tr.exit ?_
               refine mU ?_
               have hjl : j = i := by
                have := of_decide_eq_false h2
                omega
               subst hjl
               refine tr_region xE ?_
               repeat (refine vc_op rfl ?_; simp only [hw, go_sem, seval])
               refine vc_nil ?_
               refine mU ?_
               refine ⟨j + 1, ⟨hlt, fun m hm hmj => ?_, fun m m' hm hm' hmj => ?_⟩, by omega, ?_⟩
               · by_cases h : m = j
                 · subst h; rw [hla]; exact hgood
                 · exact hbo m hm (by omega)
               · by_cases h : m = j
                 · subst h; rw [hla]; exact hbj m' (by omega) hm'
                 · exact hbk m m' hm hm' (by omega)
               · exact mK
   · refine Tr.exit ?_
     refine mU ?_
     have hil : i = l.length := by
      have := of_decide_eq_false h1
      omega
     subst hil
     have hpl : (places l).length = l.length := places_len fun x y a b hxy hx hy => by
      have hyl := (List.getElem?_eq_some_iff.1 hy).1
      have e1 : l[x]'(by omega) = a := (List.getElem?_eq_some_iff.1 hx).2
      have e2 : l[y] = b := (List.getElem?_eq_some_iff.1 hy).2
      have := hbk y x hyl hxy hyl
      rw [e1, e2] at this
      exact fun h => this h.symm
     have hodd : l.any odd = false := by
      rw [List.any_eq_false]
      intro a ha
      obtain ⟨j, hj, rfl⟩ := List.mem_iff_getElem.1 ha
      simp [hbo j hj hj]
     have hfin : lmayB l = decide ((l.length : Int) ≤ 16) := by
      simp only [lmayB, hodd, hpl]
      simp
      omega
     refine mr ?_
     refine Tr.ret ?_
     simp only [hfin, Tryz.f178, go_sem, seval]
def u64s (l : List Int) : AV := .sl (l.map uav) false
@[go_sem] theorem uav_ok (b : Int) : (uav b).ok = true := rfl
@[go_sem] theorem uav_idf (b : Int) : (uav b).idf = true := rfl
@[go_sem] theorem u64s_idL (l : List Int) : (u64s l).idL = [] := rfl
@[go_sem] theorem u64s_frz (hp : HP) (l : List Int) : (u64s l).frz hp = u64s l := rfl
@[go_sem] theorem u64s_flat (l : List Int) : (u64s l).flat = false := rfl
@[go_sem] theorem u64s_ok (l : List Int) : (u64s l).ok = true := rfl
@[go_sem] theorem u64s_idf (l : List Int) : (u64s l).idf = true := rfl
def over (n : Int) : Bool := decide (1099511627776 < n)
theorem over_pure (n : Int) : Pure Tryz.prog 150 [.int .u64 n] (.bool (over n)) := by
 unfold over
 refine pure_of_tr Tryz.func150 rfl nb rfl fun E hE hP => ?_
 refine mr ?_
 refine mr ?_
 refine Tr.ret ?_
 simp only [Tryz.f150, go_sem, seval]
def oidx (l : List Int) : Int := match l.findIdx? over with | some i => (i : Int) | none => -1
theorem oidx_at {l : List Int} {i : Nat} (h : i < l.length) (hb : ∀ j (hj : j < i), over (l[j]'(by omega)) = false) (hi : over l[i] = true) : oidx l = i := by
 have : l.findIdx? over = some i := by
  rw [List.findIdx?_eq_some_iff_getElem]
  exact ⟨h, hi, fun j hj => by rw [hb j hj]; simp⟩
 rw [oidx, this]
theorem oidx_none {l : List Int} (hb : ∀ j (hj : j < l.length), over l[j] = false) : oidx l = -1 := by
 have : l.findIdx? over = none := by
  rw [List.findIdx?_eq_none_iff]
  intro x hx
  obtain ⟨j, hj, rfl⟩ := List.mem_iff_getElem.1 hx
  exact hb j hj
 rw [oidx, this]
theorem oidx_any (l : List Int) : decide (0 ≤ oidx l) = l.any over := by
 unfold oidx
 cases h : l.findIdx? over with
 | none =>
   rw [List.findIdx?_eq_none_iff] at h
   have : l.any over = false := by rw [List.any_eq_false]; intro x hx; rw [h x hx]; simp
   rw [this]; rfl
 | some i =>
   rw [List.findIdx?_eq_some_iff_getElem] at h
   obtain ⟨h1, h2, _⟩ := h
   have : l.any over = true := List.any_eq_true.2 ⟨l[i], List.getElem_mem h1, h2⟩
   rw [this]; simp
def oidxSt (l : List Int) (i : Nat) : S where
 fr := [(8, .int .i64 i), (7, .int .i64 l.length), (0, .sl (l.map uav) false), (1, .fn (.func 150) [] [])]
 hp := []
 nx := 0
theorem oindex_pure (l : List Int) (hl : l.length ≤ 100) : Pure Tryz.prog 202 [u64s l, .fn (.func 150) [] []] (.int .i64 (oidx l)) := by
 unfold u64s
 refine pure_of_tr Tryz.func202 rfl nb rfl fun E hE hP => ?_
 refine mr ?_
 refine mr ?_
 refine mBk ?_
 refine Tr.loop (oidxSt l) (fun i => i ≤ l.length ∧ ∀ j (hj : j < l.length), j < i → over l[j] = false) (fun i => l.length - i) 0 ⟨Nat.zero_le _, fun _ _ h => by omega⟩ ?_ ?_
 · exact mK
 · intro i ⟨hi, hall⟩
   unfold oidxSt
   refine mr ?_
   first | refine Tr.cond rfl (fun h1 => ?_) (fun h1 => ?_) | refine Tr.seq (Tr.cond rfl (fun h1 => ?_) (fun h1 => ?_))
   · refine mT ?_
     have hlt : i < l.length := by have := of_decide_eq_true h1; omega
     have ha := nth_map_lt uav l i hlt
     have hw := wN i
     refine mBk ?_
     refine mr ?_
     cases hb : over l[i] with
     | true =>
       have er : oidx l = i := oidx_at hlt (fun j hj => hall j (by omega) hj) hb
       have hc := over_pure l[i]
       rw [hb] at hc
       first | apply tr_m xE | (refine Tr.seq ?_; apply tr_m xE)
       intro Q hQ
       refine mS ?_
       iterate 5 (refine vm_op ?_; intro r hr; simp only [uav, ha, go_sem, seval]; subst hr)
       refine vm_op ?_; intro r hr; simp only [uav, ha, go_sem, seval]
       refine call_fn rfl rfl rfl rfl (en Tryz.func150) (hc) rfl rfl rfl ?_
       refine mS ?_
       subst hr
       exact hQ
       refine mYes ?_
       refine mr ?_
       refine Tr.ret ?_
       simp only [er, Tryz.f202, go_sem, seval]
     | false =>
       have hc := over_pure l[i]
       rw [hb] at hc
       first | apply tr_m xE | (refine Tr.seq ?_; apply tr_m xE)
       intro Q hQ
       refine mS ?_
       iterate 5 (refine vm_op ?_; intro r hr; simp only [uav, ha, go_sem, seval]; subst hr)
       refine vm_op ?_; intro r hr; simp only [uav, ha, go_sem, seval]
       refine call_fn rfl rfl rfl rfl (en Tryz.func150) (hc) rfl rfl rfl ?_
       refine mS ?_
       subst hr
       exact hQ
       refine mNot ?_
       refine mT ?_
       refine mRd ?_
       rw [hw]
       refine mU ?_
       refine ⟨i + 1, ⟨hlt, fun j hj hjl => ?_⟩, by omega, ?_⟩
       · rcases Nat.lt_or_ge j i with h | h
         · exact hall j hj h
         · have : j = i := by omega
           subst this; exact hb
       exact mK
   · refine Tr.exit ?_
     refine mU ?_
     have hil : i = l.length := by have := of_decide_eq_false h1; omega
     have er : oidx l = -1 := oidx_none fun j hj => hall j hj (by omega)
     refine mr ?_
     refine Tr.ret ?_
     simp only [er, Tryz.f202, go_sem, seval]
theorem ocontains_pure (l : List Int) (hl : l.length ≤ 100) : Pure Tryz.prog 151 [u64s l, .fn (.func 150) [] []] (.bool (l.any over)) := by
 have er := oidx_any l
 refine pure_of_tr Tryz.func151 rfl nb rfl fun E hE hP => ?_
 refine mr ?_
 have c1 := And.intro (en Tryz.func202) (oindex_pure l hl)
 refine mr ?_
 refine Tr.ret ?_
 simp only [er, Tryz.f151, go_sem, seval]
def mayS (l : List Int) : Bool := decide (0 < l.length) && (decide (l.length ≤ 8) && !l.any over)
theorem smay_pure (l : List Int) : Pure Tryz.prog 76 [u64s l] (.bool (mayS l)) := by
 unfold u64s
 refine pure_of_tr Tryz.func76 rfl nb rfl fun E hE hP => ?_
 refine mr ?_
 refine mr ?_
 by_cases h0 : 0 < l.length
 · have e0 : decide ((0 : Int) < (l.length : Int)) = true := dtO
   by_cases h1 : l.length ≤ 8
   · have e1 : decide ((l.length : Int) ≤ 8) = true := dtO
     have er : mayS l = !l.any over := by simp [mayS, h0, h1]
     have ff := And.intro e0 e1
     have c1 := And.intro (en Tryz.func151) (ocontains_pure l (by omega))
     refine mr ?_
     refine Tr.ret ?_
     simp only [er, Tryz.f76, go_sem, seval]
   · have e1 : decide ((l.length : Int) ≤ 8) = false := dfO
     have er : mayS l = false := by simp [mayS, h1]
     have ff := And.intro e0 e1
     refine mr ?_
     refine Tr.ret ?_
     simp only [er, Tryz.f76, go_sem, seval]
 · have e0 : decide ((0 : Int) < (l.length : Int)) = false := dfO
   have er : mayS l = false := by simp only [mayS, decide_eq_false h0, Bool.false_and]
   have ff := e0
   refine mr ?_
   refine Tr.ret ?_
   simp only [er, Tryz.f76, go_sem, seval]
def tabN : List Int := [0, 1, 56, 2, 57, 49, 28, 3, 61, 58, 42, 50, 38, 29, 17, 4, 62, 47, 59, 36, 45, 43, 51, 22, 53, 39, 33, 30, 24, 18, 12, 5, 63, 55, 48, 27, 60, 41, 37, 16, 46, 35, 44, 21, 52, 32, 23, 11, 54, 26, 40, 15, 34, 20, 31, 10, 25, 14, 19, 9, 13, 8, 7, 6]
def tabV : AV := .arr (tabN.map fun n => .int .u8 n)
def tz (m : Nat) : Nat := (List.range 8).find? (fun v => m.testBit v) |>.getD 0
@[go_sem] theorem tArr125 : tArr Tryz.prog 276 = some (64, 5) := by kernel_rfl
def tzI (m : Nat) : Int := (IntKind.u64.wrap (bitsI BinOp.and IntKind.u64 (m : Int) (IntKind.u64.wrap (0 - (m : Int))) * 285870213051353865)).fdiv (2 ^ min (Int.toNat 58) 64)
theorem tz_all : (List.range 256).all (fun m => decide (m = 0) || (decide (0 ≤ tzI m) && decide (tabN[(tzI m).toNat]? = some (tz m : Int)) && decide (tz m < 8))) = true := by decide +kernel
theorem tz_idx {m : Nat} (h0 : 0 < m) (h1 : m < 256) : nth (tabN.map fun n => AV.int .u8 n) (tzI m) = some (.int .u8 (tz m)) ∧ tz m < 8 := by
 have h := List.all_eq_true.1 tz_all m (List.mem_range.2 h1)
 have hm : decide (m = 0) = false := dfO
 simp only [hm, Bool.false_or, Bool.and_eq_true, decide_eq_true_eq] at h
 obtain ⟨⟨h2, h3⟩, h4⟩ := h
 refine ⟨?_, h4⟩
 rw [nth, if_pos h2, List.getElem?_map, h3]
 rfl
theorem tz_T (m : Nat) (h0 : 0 < m) (h1 : m < 256) : PureT Tryz.prog 0 tabV 246 [.int .u64 m] (.int .i64 (tz m)) := by
 have hn := (tz_idx h0 h1).1
 have h8 := (tz_idx h0 h1).2
 have ew : IntKind.i64.wrap (tz m : Int) = tz m := wrap_small (by omega)
 unfold tzI at hn
 obtain ⟨p, hp⟩ : ∃ p, IntKind.u64.wrap (bitsI BinOp.and IntKind.u64 (m : Int) (IntKind.u64.wrap (0 - (m : Int))) * 285870213051353865) = p := ⟨_, rfl⟩
 rw [hp] at hn
 obtain ⟨q, hq⟩ : ∃ q, p.fdiv (2 ^ min (Int.toNat 58) 64) = q := ⟨_, rfl⟩
 rw [hq] at hn
 have e0 : ((m : Int) == 0) = false := by rw [int_beq]; exact dfO
 refine eff_of_tr Tryz.func246 rfl nb (by first | rfl | (simp only [AV.idsB, AV.idsBL, Bool.and_true, Bool.true_and] <;> rfl)) fun E hE hP => ?_
 refine mr ?_
 have ff := e0
 refine mr ?_
 refine mNot ?_
 refine mT ?_
 first | apply tr_m xE | (refine Tr.seq ?_; apply tr_m xE)
 intro Q hQ
 refine mS ?_
 iterate 5 (refine vm_op ?_; intro r hr; simp only [hp, go_sem, ↓Nat.reduceBEq, ↓Nat.reduceAdd, ↓Nat.reduceSub, ↓Nat.reduceMul, ↓Nat.reduceEqDiff, ↓Nat.reducePow, ↓Nat.reduceLeDiff, ↓Nat.reduceLT, ↓Int.reduceLE, ↓Int.reduceLT, ↓reduceIte, ↓reduceCtorEq]; subst hr)
 refine vm_op ?_; intro r hr; simp only [hq, go_sem, ↓Nat.reduceBEq, ↓Nat.reduceAdd, ↓Nat.reduceSub, ↓Nat.reduceMul, ↓Nat.reduceEqDiff, ↓Nat.reducePow, ↓Nat.reduceLeDiff, ↓Nat.reduceLT, ↓Int.reduceLE, ↓Int.reduceLT, ↓reduceIte, ↓reduceCtorEq]; subst hr
 refine vm_op ?_; intro r hr; simp only [tabV, hn, ew, go_sem, ↓Nat.reduceBEq, ↓Nat.reduceAdd, ↓Nat.reduceSub, ↓Nat.reduceMul, ↓Nat.reduceEqDiff, ↓Nat.reducePow, ↓Nat.reduceLeDiff, ↓Nat.reduceLT, ↓Int.reduceLE, ↓Int.reduceLT, ↓reduceIte, ↓reduceCtorEq]
 refine ⟨rfl, ?_⟩
 subst hr
 iterate 3 (refine vm_op ?_; intro r hr; simp only [ew, go_sem, ↓Nat.reduceBEq, ↓Nat.reduceAdd, ↓Nat.reduceSub, ↓Nat.reduceMul, ↓Nat.reduceEqDiff, ↓Nat.reducePow, ↓Nat.reduceLeDiff, ↓Nat.reduceLT, ↓Int.reduceLE, ↓Int.reduceLT, ↓reduceIte, ↓reduceCtorEq]; subst hr)
 exact hQ
 refine Tr.ret ?_
 simp only [Tryz.f246, go_sem, ↓Nat.reduceBEq, ↓Nat.reduceAdd, ↓Nat.reduceSub, ↓Nat.reduceMul, ↓Nat.reduceEqDiff, ↓Nat.reducePow, ↓Nat.reduceLeDiff, ↓Nat.reduceLT, ↓Int.reduceLE, ↓Int.reduceLT, ↓reduceIte, ↓reduceCtorEq]
 exact ⟨fun n => n, ⟨⟨rfl, rfl, rfl⟩, trivial⟩, rfl, fun _ _ => rfl⟩
theorem wrapU_lt {n : Int} (h0 : 0 ≤ n) (h : n < 18446744073709551616) : IntKind.u64.wrap n = n := by
 obtain ⟨m, rfl⟩ : ∃ m : Nat, n = m := ⟨n.toNat, by omega⟩
 exact wrapU (by omega)
theorem low32 (x : Nat) (h : x < 18446744073709551616) : bitsI BinOp.and IntKind.u64 (x : Int) 4294967295 = ((x % 4294967296 : Nat) : Int) := by
 show andU x 4294967295 = _
 rw [andU_eq, BitVec.toNat_and]
 have e1 : (bv (x : Int)).toNat = x := by have := bv_back (n := x) ⟨by omega, by omega⟩; omega
 have e2 : (bv (4294967295 : Int)).toNat = 2 ^ 32 - 1 := by decide
 rw [e1, e2, Nat.and_two_pow_sub_one_eq_mod]
theorem high32 (x : Nat) : (x : Int).fdiv (2 ^ min (Int.toNat 32) 64) = ((x / 4294967296 : Nat) : Int) := by
 have e : ((2 : Int) ^ min (Int.toNat 32) 64) = ((4294967296 : Nat) : Int) := by decide
 rw [e, Int.fdiv_eq_ediv_of_nonneg _ (by omega)]
 rfl
theorem mul_pure (x y : Nat) (hx : x < 1152921504606846976) (hy : y < 4) : Pure Tryz.prog 244 [.int .u64 x, .int .u64 y] (.tup [.int .u64 0, .int .u64 (x * y : Nat)]) := by
 obtain ⟨x0, hx0⟩ : ∃ k, x % 4294967296 = k := ⟨_, rfl⟩
 obtain ⟨x1, hx1⟩ : ∃ k, x / 4294967296 = k := ⟨_, rfl⟩
 have f1 := low32 x (by omega)
 have f2 := high32 x
 have f3 := low32 y (by omega)
 have f4 := high32 y
 rw [hx0] at f1
 rw [hx1] at f2
 rw [Nat.mod_eq_of_lt (by omega)] at f3
 rw [Nat.div_eq_of_lt (by omega)] at f4
 have b0 : x0 < 4294967296 := by omega
 have b1 : x1 < 268435456 := by omega
 obtain ⟨w0, hw0⟩ : ∃ k, x0 * y = k := ⟨_, rfl⟩
 have c0 : w0 < 17179869184 := by rw [← hw0]; exact Nat.lt_of_le_of_lt (Nat.mul_le_mul (Nat.le_refl x0) (by omega : y ≤ 3)) (by omega)
 obtain ⟨p1, hp1⟩ : ∃ k, x1 * y = k := ⟨_, rfl⟩
 have c1 : p1 < 1073741824 := by rw [← hp1]; exact Nat.lt_of_le_of_lt (Nat.mul_le_mul (Nat.le_refl x1) (by omega : y ≤ 3)) (by omega)
 have f5 : IntKind.u64.wrap ((x0 : Int) * (y : Int)) = w0 := by rw [← Int.natCast_mul, hw0]; exact wrapU (by omega)
 have f6 : IntKind.u64.wrap ((x1 : Int) * (y : Int)) = p1 := by rw [← Int.natCast_mul, hp1]; exact wrapU (by omega)
 have f7 := high32 w0
 obtain ⟨g, hg⟩ : ∃ k, w0 / 4294967296 = k := ⟨_, rfl⟩
 rw [hg] at f7
 obtain ⟨t, ht⟩ : ∃ k, p1 + g = k := ⟨_, rfl⟩
 have f8 : IntKind.u64.wrap ((p1 : Int) + (g : Int)) = t := by rw [← Int.natCast_add, ht]; exact wrapU (by omega)
 have f9 := low32 t (by omega)
 have f10 := high32 t
 rw [Nat.mod_eq_of_lt (by omega)] at f9
 rw [Nat.div_eq_of_lt (by omega)] at f10
 have z1 : IntKind.u64.wrap ((x0 : Int) * ((0 : Nat) : Int)) = 0 := by simp; decide
 have z2 : IntKind.u64.wrap ((x1 : Int) * ((0 : Nat) : Int)) = 0 := by simp; decide
 have z3 : IntKind.u64.wrap ((t : Int) + 0) = t := by rw [Int.add_zero]; exact wrapU (by omega)
 have z4 : IntKind.u64.wrap ((0 : Int) + ((0 : Nat) : Int)) = 0 := by decide
 have c2 : x * y < 4611686018427387904 := Nat.lt_of_le_of_lt (Nat.mul_le_mul (Nat.le_refl x) (by omega : y ≤ 3)) (by omega)
 have f11 : IntKind.u64.wrap ((x : Int) * (y : Int)) = ((x * y : Nat) : Int) := by rw [← Int.natCast_mul]; exact wrapU (by omega)
 generalize ((x * y : Nat) : Int) = r at f11 ⊢
 generalize hz : ((0 : Nat) : Int) = z at *
 clear hx c2
 refine pure_of_tr Tryz.func244 rfl nb rfl fun E hE hP => ?_
 refine mr ?_
 first | apply tr_m xE | (refine Tr.seq ?_; apply tr_m xE)
 intro Q hQ
 refine mS ?_
 iterate 3 (refine vm_op ?_; intro r hr; simp only [f1, go_sem, ↓Nat.reduceBEq, ↓Nat.reduceAdd, ↓Nat.reduceSub, ↓Nat.reduceMul, ↓Nat.reduceEqDiff, ↓Nat.reducePow, ↓Nat.reduceLeDiff, ↓Nat.reduceLT, ↓Int.reduceLE, ↓Int.reduceLT, ↓reduceIte, ↓reduceCtorEq]; subst hr)
 exact hQ
 first | apply tr_m xE | (refine Tr.seq ?_; apply tr_m xE)
 intro Q hQ
 refine mS ?_
 iterate 3 (refine vm_op ?_; intro r hr; simp only [f2, go_sem, ↓Nat.reduceBEq, ↓Nat.reduceAdd, ↓Nat.reduceSub, ↓Nat.reduceMul, ↓Nat.reduceEqDiff, ↓Nat.reducePow, ↓Nat.reduceLeDiff, ↓Nat.reduceLT, ↓Int.reduceLE, ↓Int.reduceLT, ↓reduceIte, ↓reduceCtorEq]; subst hr)
 exact hQ
 first | apply tr_m xE | (refine Tr.seq ?_; apply tr_m xE)
 intro Q hQ
 refine mS ?_
 iterate 3 (refine vm_op ?_; intro r hr; simp only [f3, go_sem, ↓Nat.reduceBEq, ↓Nat.reduceAdd, ↓Nat.reduceSub, ↓Nat.reduceMul, ↓Nat.reduceEqDiff, ↓Nat.reducePow, ↓Nat.reduceLeDiff, ↓Nat.reduceLT, ↓Int.reduceLE, ↓Int.reduceLT, ↓reduceIte, ↓reduceCtorEq]; subst hr)
 exact hQ
 first | apply tr_m xE | (refine Tr.seq ?_; apply tr_m xE)
 intro Q hQ
 refine mS ?_
 iterate 3 (refine vm_op ?_; intro r hr; simp only [f4, go_sem, ↓Nat.reduceBEq, ↓Nat.reduceAdd, ↓Nat.reduceSub, ↓Nat.reduceMul, ↓Nat.reduceEqDiff, ↓Nat.reducePow, ↓Nat.reduceLeDiff, ↓Nat.reduceLT, ↓Int.reduceLE, ↓Int.reduceLT, ↓reduceIte, ↓reduceCtorEq]; subst hr)
 exact hQ
 first | apply tr_m xE | (refine Tr.seq ?_; apply tr_m xE)
 intro Q hQ
 refine mS ?_
 iterate 4 (refine vm_op ?_; intro r hr; simp only [f5, go_sem, ↓Nat.reduceBEq, ↓Nat.reduceAdd, ↓Nat.reduceSub, ↓Nat.reduceMul, ↓Nat.reduceEqDiff, ↓Nat.reducePow, ↓Nat.reduceLeDiff, ↓Nat.reduceLT, ↓Int.reduceLE, ↓Int.reduceLT, ↓reduceIte, ↓reduceCtorEq]; subst hr)
 exact hQ
 first | apply tr_m xE | (refine Tr.seq ?_; apply tr_m xE)
 intro Q hQ
 refine mS ?_
 iterate 7 (refine vm_op ?_; intro r hr; simp only [f6, f7, f8, go_sem, ↓Nat.reduceBEq, ↓Nat.reduceAdd, ↓Nat.reduceSub, ↓Nat.reduceMul, ↓Nat.reduceEqDiff, ↓Nat.reducePow, ↓Nat.reduceLeDiff, ↓Nat.reduceLT, ↓Int.reduceLE, ↓Int.reduceLT, ↓reduceIte, ↓reduceCtorEq]; subst hr)
 exact hQ
 first | apply tr_m xE | (refine Tr.seq ?_; apply tr_m xE)
 intro Q hQ
 refine mS ?_
 iterate 3 (refine vm_op ?_; intro r hr; simp only [f9, go_sem, ↓Nat.reduceBEq, ↓Nat.reduceAdd, ↓Nat.reduceSub, ↓Nat.reduceMul, ↓Nat.reduceEqDiff, ↓Nat.reducePow, ↓Nat.reduceLeDiff, ↓Nat.reduceLT, ↓Int.reduceLE, ↓Int.reduceLT, ↓reduceIte, ↓reduceCtorEq]; subst hr)
 exact hQ
 first | apply tr_m xE | (refine Tr.seq ?_; apply tr_m xE)
 intro Q hQ
 refine mS ?_
 iterate 3 (refine vm_op ?_; intro r hr; simp only [f10, go_sem, ↓Nat.reduceBEq, ↓Nat.reduceAdd, ↓Nat.reduceSub, ↓Nat.reduceMul, ↓Nat.reduceEqDiff, ↓Nat.reducePow, ↓Nat.reduceLeDiff, ↓Nat.reduceLT, ↓Int.reduceLE, ↓Int.reduceLT, ↓reduceIte, ↓reduceCtorEq]; subst hr)
 exact hQ
 first | apply tr_m xE | (refine Tr.seq ?_; apply tr_m xE)
 intro Q hQ
 refine mS ?_
 iterate 6 (refine vm_op ?_; intro r hr; simp only [z1, z3, go_sem, ↓Nat.reduceBEq, ↓Nat.reduceAdd, ↓Nat.reduceSub, ↓Nat.reduceMul, ↓Nat.reduceEqDiff, ↓Nat.reducePow, ↓Nat.reduceLeDiff, ↓Nat.reduceLT, ↓Int.reduceLE, ↓Int.reduceLT, ↓reduceIte, ↓reduceCtorEq]; subst hr)
 exact hQ
 first | apply tr_m xE | (refine Tr.seq ?_; apply tr_m xE)
 intro Q hQ
 refine mS ?_
 iterate 9 (refine vm_op ?_; intro r hr; simp only [z2, z4, f10, go_sem, ↓Nat.reduceBEq, ↓Nat.reduceAdd, ↓Nat.reduceSub, ↓Nat.reduceMul, ↓Nat.reduceEqDiff, ↓Nat.reducePow, ↓Nat.reduceLeDiff, ↓Nat.reduceLT, ↓Int.reduceLE, ↓Int.reduceLT, ↓reduceIte, ↓reduceCtorEq]; subst hr)
 exact hQ
 first | apply tr_m xE | (refine Tr.seq ?_; apply tr_m xE)
 intro Q hQ
 refine mS ?_
 iterate 4 (refine vm_op ?_; intro r hr; simp only [f11, go_sem, ↓Nat.reduceBEq, ↓Nat.reduceAdd, ↓Nat.reduceSub, ↓Nat.reduceMul, ↓Nat.reduceEqDiff, ↓Nat.reducePow, ↓Nat.reduceLeDiff, ↓Nat.reduceLT, ↓Int.reduceLE, ↓Int.reduceLT, ↓reduceIte, ↓reduceCtorEq]; subst hr)
 exact hQ
 refine Tr.ret ?_
 simp only [Tryz.f244, go_sem, ↓Nat.reduceBEq, ↓Nat.reduceAdd, ↓Nat.reduceSub, ↓Nat.reduceMul, ↓Nat.reduceEqDiff, ↓Nat.reducePow, ↓Nat.reduceLeDiff, ↓Nat.reduceLT, ↓Int.reduceLE, ↓Int.reduceLT, ↓reduceIte, ↓reduceCtorEq]
def wav (a b : Int) : AV := .arr [.int .u64 a, .int .u64 b]
@[go_sem] theorem wav_len (a b : Int) : (wav a b).len = 2 := rfl
@[go_sem] theorem wav_agg (a b : Int) : (wav a b).agg = true := rfl
@[go_sem] theorem wav_idf (a b : Int) : (wav a b).idf = true := rfl
@[go_sem] theorem wav_ok (a b : Int) : (wav a b).ok = true := rfl
@[go_sem] theorem wav_flat (a b : Int) : (wav a b).flat = true := rfl
@[go_sem] theorem wav_frz (hp : HP) (a b : Int) : (wav a b).frz hp = wav a b := rfl
@[go_sem] theorem wav_idL (a b : Int) : (wav a b).idL = [] := rfl
@[go_sem] theorem wav_ren (ρ : Nat → Nat) (a b : Int) : (wav a b).ren ρ = wav a b := rfl
@[go_sem] theorem und103 : Tryz.prog.underlying 266 = some (.array 2 27) := Tryz.underlying266
@[go_sem] theorem tArr103 : tArr Tryz.prog 266 = some (2, 27) ∧ tSize Tryz.prog 266 = some 2 ∧ tAgg Tryz.prog 266 = some true := by and_intros <;> kernel_rfl
@[go_sem] theorem tZero103 : tZero Tryz.prog 266 = some (wav 0 0) := by kernel_rfl
@[go_sem] theorem build103 (a b : Int) (K : AV → Prop) : buildK Tryz.prog 266 [(0, .int .u64 a), (1, .int .u64 b)] K = K (wav a b) := by
  simp only [buildK, und103, tZero103, wav]
  apply propext
  constructor
  · rintro ⟨sz, _, _, _, h⟩; exact h
  · intro h; exact ⟨1, by kernel_rfl, by simp [AV.len], rfl, h⟩
@[go_sem] theorem wav_sub0 (a b : Int) : (wav a b).sub [0] = some (.int .u64 a) := rfl
@[go_sem] theorem wav_sub1 (a b : Int) : (wav a b).sub [1] = some (.int .u64 b) := rfl
@[go_sem] theorem wav_offs0 (a b : Int) : (wav a b).offs [0] = some 0 := rfl
@[go_sem] theorem wav_offs1 (a b : Int) : (wav a b).offs [1] = some 1 := rfl
theorem arr103 (a b : Int) : arrInts Tryz.prog 266 [.int .u64 a, .int .u64 b] = some [a, b] := by
 have h1 : Tryz.prog.underlying 27 = some (.int .u64) := Tryz.underlying27
 have h2 : tSize Tryz.prog 27 = some 1 := by kernel_rfl
 simp only [arrInts, und103, h1, h2, List.length_cons, List.length_nil, and_self, if_true, intsOf, Option.map_some]
theorem guard103 : Tryz.prog.eqGuardType Tryz.prog.depth 266 = false := by kernel_rfl
@[go_sem] theorem eql103 (a b c d : Int) (K : AV → Prop) : binK Tryz.prog .eql 266 (wav a b) (wav c d) K = K (.bool ([a, b] == [c, d])) := by
  simp only [wav, binK, arr103, guard103, true_and]
theorem pz0 : ((0 : Int) < ((2 : Nat) : Int)) = True := by simp
theorem pz1 : ((1 : Int) < ((2 : Nat) : Int)) = True := by simp
theorem times_pure (x y : Nat) (hx : x < 1152921504606846976) (hy : y < 4) : Pure Tryz.prog 235 [.int .u64 x, .int .u64 y] (wav 0 (x * y : Nat)) := by
 have hm := mul_pure x y hx hy
 generalize ((x * y : Nat) : Int) = p at hm ⊢
 refine pure_of_tr Tryz.func235 rfl nb rfl fun E hE hP => ?_
 refine mr ?_
 have c1 := And.intro (en Tryz.func244) (hm)
 refine mr ?_
 refine mr ?_
 refine Tr.ret ?_
 simp only [Tryz.f235, go_sem, seval]
theorem least_pure (a b : Int) : Pure Tryz.prog 236 [wav 0 a, wav 0 b] (.bool (decide (b ≤ a))) := by
 refine pure_of_tr Tryz.func236 rfl nb rfl fun E hE hP => ?_
 refine mr ?_
 by_cases h1 : a = b
 · have er : decide (b ≤ a) = true := dtO
   have e1 : ([0, a] == [0, b]) = true := by simp [h1]
   have ff := e1
   refine mr ?_
   refine Tr.ret ?_
   simp only [er, Tryz.f236, go_sem, seval]
 · have er : decide (b ≤ a) = decide (b < a) := decide_eq_decide.2 (by omega)
   have e1 : ([0, a] == [0, b]) = false := by simp [h1]
   first | apply tr_m xE | (refine Tr.seq ?_; apply tr_m xE)
   intro Q hQ
   refine mS ?_
   iterate 4 (refine vm_op ?_; intro r hr; simp only [e1, go_sem, seval]; subst hr)
   iterate 5 (refine mI ?_; intro r hr; simp only [pz0, pz1, Int.toNat_zero, Int.toNat_one, Nat.zero_mul, Nat.one_mul, go_sem, seval]; subst hr)
   iterate 2 (refine vm_op ?_; intro r hr; simp only [pz0, pz1, Int.toNat_zero, Int.toNat_one, Nat.zero_mul, Nat.one_mul, go_sem, seval]; subst hr)
   iterate 12 (refine mI ?_; intro r hr; simp only [pz0, pz1, Int.toNat_zero, Int.toNat_one, Nat.zero_mul, Nat.one_mul, go_sem, seval]; subst hr)
   iterate 2 (refine vm_op ?_; intro r hr; simp only [pz0, pz1, Int.toNat_zero, Int.toNat_one, Nat.zero_mul, Nat.one_mul, go_sem, seval]; subst hr)
   exact hQ
   refine Tr.ret ?_
   simp only [er, Tryz.f236, go_sem, seval]
theorem nmost_pure (a b : Nat) (ha : a < 1152921504606846976) (hb : b < 1152921504606846976) : Pure Tryz.prog 224 [.int .u64 a, .int .u64 b] (.bool (decide (2 * b ≤ 3 * a))) := by
 have h1 := times_pure a 3 ha (by omega)
 have h2 := times_pure b 2 hb (by omega)
 have h3 := least_pure ((a * 3 : Nat) : Int) ((b * 2 : Nat) : Int)
 have er : decide (2 * b ≤ 3 * a) = decide (((b * 2 : Nat) : Int) ≤ ((a * 3 : Nat) : Int)) := decide_eq_decide.2 (by omega)
 rw [er]
 generalize ((a * 3 : Nat) : Int) = p at h1 h3 ⊢
 generalize ((b * 2 : Nat) : Int) = q at h2 h3 ⊢
 refine pure_of_tr Tryz.func224 rfl nb rfl fun E hE hP => ?_
 refine mr ?_
 have c1 := And.intro (en Tryz.func235) (h1)
 have c2 := And.intro (en Tryz.func235) (h2)
 have c3 := And.intro (en Tryz.func236) (h3)
 refine mr ?_
 refine Tr.ret ?_
 simp only [Tryz.f224, go_sem, seval]
theorem n3 : (¬ (3 : Int) = 0) = True := by simp
theorem need_pure (w : Nat) (hw : w < 1152921504606846976) : Pure Tryz.prog 247 [.int .u64 w] (.int .u64 ((2 * w + 2) / 3 : Nat)) := by
 have q1 : IntKind.u64.wrap ((w : Int).tdiv 3) = ((w / 3 : Nat) : Int) := by
  have e : (w : Int).tdiv 3 = ((w / 3 : Nat) : Int) := rfl
  rw [e]; exact wrapU (by omega)
 have q2 : IntKind.u64.wrap (2 * ((w / 3 : Nat) : Int)) = ((2 * (w / 3) : Nat) : Int) := by
  have e : 2 * ((w / 3 : Nat) : Int) = ((2 * (w / 3) : Nat) : Int) := by omega
  rw [e]; exact wrapU (by omega)
 have q3 : (w : Int).tmod 3 = ((w % 3 : Nat) : Int) := rfl
 obtain ⟨p, hp⟩ : ∃ p : Nat, 2 * (w / 3) = p := ⟨_, rfl⟩
 obtain ⟨d, hd⟩ : ∃ d : Nat, w / 3 = d := ⟨_, rfl⟩
 obtain ⟨m, hm⟩ : ∃ m : Nat, w % 3 = m := ⟨_, rfl⟩
 have hm3 : m < 3 := by omega
 by_cases h1 : m = 1
 · have er : (2 * w + 2) / 3 = p + 1 := by omega
   have e1 : ((m : Int) == 1) = true := by rw [int_beq]; exact dtO
   have q4 : IntKind.u64.wrap ((p : Int) + 1) = ((p + 1 : Nat) : Int) := wrapU (n := p + 1) (by omega)
   rw [hp, hd] at q2
   rw [hd] at q1
   rw [hm] at q3
   rw [er]
   clear hw hp hd hm er
   refine pure_of_tr Tryz.func247 rfl nb rfl fun E hE hP => ?_
   refine mr ?_
   refine mSr ?_
   repeat (refine vc_op rfl ?_; simp only [n3, q1, q2, go_sem, seval])
   refine vc_nil ?_
   refine mSr ?_
   repeat (refine vc_op rfl ?_; simp only [n3, q3, e1, go_sem, seval])
   refine vc_nil ?_
   refine mYes ?_
   refine mSr ?_
   repeat (refine vc_op rfl ?_; simp only [q4, go_sem, seval])
   refine vc_nil ?_
   refine Tr.ret ?_
   simp only [Tryz.f247, go_sem, seval]
 · have e1 : ((m : Int) == 1) = false := by rw [int_beq]; exact dfO
   by_cases h2 : m = 2
   · have er : (2 * w + 2) / 3 = p + 2 := by omega
     have e2 : ((m : Int) == 2) = true := by rw [int_beq]; exact dtO
     have q4 : IntKind.u64.wrap ((p : Int) + 2) = ((p + 2 : Nat) : Int) := wrapU (n := p + 2) (by omega)
     rw [hp, hd] at q2
     rw [hd] at q1
     rw [hm] at q3
     rw [er]
     clear hw hp hd hm er
     refine pure_of_tr Tryz.func247 rfl nb rfl fun E hE hP => ?_
     refine mr ?_
     refine mSr ?_
     repeat (refine vc_op rfl ?_; simp only [n3, q1, q2, go_sem, seval])
     refine vc_nil ?_
     refine mSr ?_
     repeat (refine vc_op rfl ?_; simp only [n3, q3, e1, go_sem, seval])
     refine vc_nil ?_
     refine mNot ?_
     refine mT ?_
     refine mSr ?_
     repeat (refine vc_op rfl ?_; simp only [n3, q3, e2, go_sem, seval])
     refine vc_nil ?_
     refine mYes ?_
     refine mSr ?_
     repeat (refine vc_op rfl ?_; simp only [q4, go_sem, seval])
     refine vc_nil ?_
     refine Tr.ret ?_
     simp only [Tryz.f247, go_sem, seval]
   · have er : (2 * w + 2) / 3 = p := by omega
     have e2 : ((m : Int) == 2) = false := by rw [int_beq]; exact dfO
     rw [hp, hd] at q2
     rw [hd] at q1
     rw [hm] at q3
     rw [er]
     clear hw hp hd hm er
     refine pure_of_tr Tryz.func247 rfl nb rfl fun E hE hP => ?_
     refine mr ?_
     refine mSr ?_
     repeat (refine vc_op rfl ?_; simp only [n3, q1, q2, go_sem, seval])
     refine vc_nil ?_
     refine mSr ?_
     repeat (refine vc_op rfl ?_; simp only [n3, q3, e1, go_sem, seval])
     refine vc_nil ?_
     refine mNot ?_
     refine mT ?_
     refine mSr ?_
     repeat (refine vc_op rfl ?_; simp only [n3, q3, e2, go_sem, seval])
     refine vc_nil ?_
     refine mNot ?_
     refine mT ?_
     refine mr ?_
     refine Tr.ret ?_
     simp only [Tryz.f247, go_sem, seval]
theorem refnmost_pure (a b : Nat) (hb : b < 1152921504606846976) : Pure Tryz.prog 241 [.int .u64 a, .int .u64 b] (.bool (decide (2 * b ≤ 3 * a))) := by
 have h1 := need_pure b hb
 have er : decide (2 * b ≤ 3 * a) = decide ((((2 * b + 2) / 3 : Nat) : Int) ≤ (a : Int)) := decide_eq_decide.2 (by omega)
 rw [er]
 generalize (((2 * b + 2) / 3 : Nat) : Int) = p at h1 ⊢
 refine pure_of_tr Tryz.func241 rfl nb rfl fun E hE hP => ?_
 refine mr ?_
 have c1 := And.intro (en Tryz.func247) (h1)
 refine mr ?_
 refine Tr.ret ?_
 simp only [Tryz.f241, go_sem, seval]
def sumTo (bal : List Int) (m : Nat) : Nat → Int
 | 0 => 0
 | n + 1 => sumTo bal m n + if m.testBit n then bal.getD n 0 else 0
def ofB (bal : List Int) (m : Nat) : Int := if mayS bal then sumTo bal m bal.length else 0
def maskAll : Nat := 18446744073709551615
def mostB (bal : List Int) (m : Nat) : Bool := mayS bal && decide (2 * (ofB bal maskAll).toNat ≤ 3 * (ofB bal m).toNat)
def okB (bal : List Int) : Prop := ∀ x ∈ bal, 0 ≤ x
theorem mayS_spec {bal : List Int} (h : mayS bal = true) : 0 < bal.length ∧ bal.length ≤ 8 ∧ ∀ x ∈ bal, x ≤ 1099511627776 := by
 simp only [mayS, Bool.and_eq_true, decide_eq_true_eq, Bool.not_eq_true', List.any_eq_false] at h
 refine ⟨h.1, h.2.1, fun x hx => ?_⟩
 have := h.2.2 x hx
 simp only [over, decide_eq_true_eq] at this
 omega
theorem bal_range {bal : List Int} (h : mayS bal = true) (hb : okB bal) {n : Nat} (hn : n < bal.length) : 0 ≤ bal.getD n 0 ∧ bal.getD n 0 ≤ 1099511627776 := by
 have e : bal.getD n 0 = bal[n] := by simp [hn]
 rw [e]
 exact ⟨hb _ (List.getElem_mem hn), (mayS_spec h).2.2 _ (List.getElem_mem hn)⟩
theorem sumTo_range {bal : List Int} (h : mayS bal = true) (hb : okB bal) (m : Nat) : ∀ n, n ≤ bal.length → 0 ≤ sumTo bal m n ∧ sumTo bal m n ≤ n * 1099511627776
 | 0, _ => by simp [sumTo]
 | n + 1, hn => by
   have ih := sumTo_range h hb m n (by omega)
   have hr := bal_range h hb (n := n) (by omega)
   rw [sumTo]
   split <;> omega
theorem ofB_range {bal : List Int} (hb : okB bal) (m : Nat) : 0 ≤ ofB bal m ∧ ofB bal m ≤ 8796093022208 := by
 unfold ofB
 split
 · rename_i h
   have := sumTo_range h hb m bal.length (Nat.le_refl _)
   have := (mayS_spec h).2.1
   omega
 · omega
theorem sumTo_congr {bal : List Int} {m k : Nat} : ∀ n, (∀ j, j < n → m.testBit j = k.testBit j) → sumTo bal m n = sumTo bal k n
 | 0, _ => rfl
 | n + 1, h => by rw [sumTo, sumTo, sumTo_congr n fun j hj => h j (by omega), h n (by omega)]
theorem sumTo_zero (bal : List Int) : ∀ n, sumTo bal 0 n = 0
 | 0 => rfl
 | n + 1 => by rw [sumTo, sumTo_zero]; simp
theorem sumTo_less {bal : List Int} {m k v : Nat} (hv : m.testBit v = true) : ∀ n, (∀ j, j < n → k.testBit j = (m.testBit j && decide (j ≠ v))) → sumTo bal m n = sumTo bal k n + if v < n then bal.getD v 0 else 0
 | 0, _ => by simp [sumTo]
 | n + 1, h => by
   have ih := sumTo_less (bal := bal) hv n fun j hj => h j (by omega)
   have hn := h n (by omega)
   rw [sumTo, sumTo, ih, hn]
   by_cases hnv : n = v
   · subst hnv
     rw [hv]
     simp
   · have e : decide (n ≠ v) = true := decide_eq_true hnv
     rw [e, Bool.and_true]
     have : (v < n + 1) ↔ v < n := by omega
     simp only [this]
     omega
theorem refsmay_pure (l : List Int) (hl : l.length ≤ 9223372036854775807) : Pure Tryz.prog 78 [u64s l] (.bool (mayS l)) := by
 unfold u64s
 refine pure_of_tr Tryz.func78 rfl nb rfl fun E hE hP => ?_
 refine mr ?_
 refine mr ?_
 refine mBk ?_
 refine Tr.loop (fun i : Nat => (⟨[(0, .sl (l.map uav) false), (3, .int .i64 i)], [], 0, []⟩ : S)) (fun i => i ≤ l.length ∧ ∀ j (hj : j < l.length), j < i → over l[j] = false) (fun i => l.length - i) 0 ⟨Nat.zero_le _, fun _ _ h => by omega⟩ ?_ ?_
 · exact mK
 · intro i ⟨hi, hall⟩
   refine mr ?_
   first | refine Tr.cond rfl (fun h1 => ?_) (fun h1 => ?_) | refine Tr.seq (Tr.cond rfl (fun h1 => ?_) (fun h1 => ?_))
   · refine mT ?_
     have hlt : i < l.length := by have := of_decide_eq_true h1; omega
     have ha := nth_map_lt uav l i hlt
     have hw := wrap_next' (n := i) (by omega)
     refine mBk ?_
     cases hb : over l[i] with
     | true =>
       have er : mayS l = false := by
        have : l.any over = true := List.any_eq_true.2 ⟨_, List.getElem_mem hlt, hb⟩
        simp [mayS, this]
       have hb' : decide (1099511627776 < l[i]) = true := hb
       first | apply tr_m xE | (refine Tr.seq ?_; apply tr_m xE)
       intro Q hQ
       refine mS ?_
       iterate 5 (refine vm_op ?_; intro r hr; simp only [uav, ha, hb', go_sem, seval]; subst hr)
       exact hQ
       refine mYes ?_
       refine mr ?_
       refine Tr.ret ?_
       simp only [er, Tryz.f78, go_sem, seval]
     | false =>
       have hb' : decide (1099511627776 < l[i]) = false := hb
       first | apply tr_m xE | (refine Tr.seq ?_; apply tr_m xE)
       intro Q hQ
       refine mS ?_
       iterate 5 (refine vm_op ?_; intro r hr; simp only [uav, ha, hb', go_sem, seval]; subst hr)
       exact hQ
       refine mNo ?_
       refine mT ?_
       refine mRd ?_
       rw [hw]
       refine mU ?_
       refine ⟨i + 1, ⟨hlt, fun j hj hjl => ?_⟩, by omega, ?_⟩
       · rcases Nat.lt_or_ge j i with h | h
         · exact hall j hj h
         · have : j = i := by omega
           subst this; exact hb
       exact mK
   · refine Tr.exit ?_
     refine mU ?_
     have hil : i = l.length := by have := of_decide_eq_false h1; omega
     have hno : l.any over = false := by
      rw [List.any_eq_false]
      intro x hx
      obtain ⟨j, hj, rfl⟩ := List.mem_iff_getElem.1 hx
      rw [hall j hj (by omega)]; simp
     by_cases h0 : 0 < l.length
     · have e0 : decide ((1 : Int) ≤ (l.length : Int)) = true := dtO
       have er : mayS l = decide ((l.length : Int) ≤ 8) := by
        simp only [mayS, hno, decide_eq_true h0, Bool.not_false, Bool.and_true, Bool.true_and]
        exact decide_eq_decide.2 (by omega)
       have ff := e0
       refine mr ?_
       refine Tr.ret ?_
       simp only [er, Tryz.f78, go_sem, seval]
     · have e0 : decide ((1 : Int) ≤ (l.length : Int)) = false := dfO
       have er : mayS l = false := by simp only [mayS, decide_eq_false h0, Bool.false_and]
       have ff := e0
       refine mr ?_
       refine Tr.ret ?_
       simp only [er, Tryz.f78, go_sem, seval]
theorem refhas_pure (m v : Nat) (hm : m < 18446744073709551616) (hv : v < 8) : Pure Tryz.prog 219 [.int .u64 m, .int .i64 v] (.bool (m.testBit v)) := by
 have hb := bit_pow v (by omega)
 have h1 := RBit_pure v (by omega)
 rw [hb] at h1
 have er : m.testBit v = decide (((m / 2 ^ v % 2 : Nat) : Int) = 1) := by
  rw [Nat.testBit_eq_decide_div_mod_eq]
  exact decide_eq_decide.2 (by omega)
 have hp : 0 < 2 ^ v := Nat.pow_pos (by omega)
 generalize 2 ^ v = p at h1 er hp
 have e0 : decide ((0 : Int) < (p : Int)) = true := dtO
 have n0 : (¬ (p : Int) = 0) = True := by simp; omega
 have n2 : (¬ (2 : Int) = 0) = True := by simp
 have q1 : IntKind.u64.wrap ((m : Int).tdiv p) = ((m / p : Nat) : Int) := by
  have e : (m : Int).tdiv p = ((m / p : Nat) : Int) := rfl
  rw [e]; exact wrapU (Nat.lt_of_le_of_lt (Nat.div_le_self _ _) hm)
 have q2 : ((m / p : Nat) : Int).tmod 2 = ((m / p % 2 : Nat) : Int) := rfl
 rw [er]
 generalize ((m / p % 2 : Nat) : Int) = y at q2 ⊢
 generalize ((m / p : Nat) : Int) = x at q1 q2
 clear hm er hb
 refine pure_of_tr Tryz.func219 rfl nb rfl fun E hE hP => ?_
 refine mr ?_
 have c1 := And.intro (en Tryz.func233) (h1)
 refine mr ?_
 first | apply tr_m xE | (refine Tr.seq ?_; apply tr_m xE)
 intro Q hQ
 refine mS ?_
 iterate 3 (refine vm_op ?_; intro r hr; simp only [e0, n0, n2, q1, q2, int_beq, go_sem, seval]; subst hr)
 iterate 5 (refine mI ?_; intro r hr; simp only [e0, n0, n2, q1, q2, int_beq, go_sem, seval]; subst hr)
 iterate 2 (refine vm_op ?_; intro r hr; simp only [e0, n0, n2, q1, q2, int_beq, go_sem, seval]; subst hr)
 exact hQ
 refine Tr.ret ?_
 simp only [Tryz.f219, go_sem, seval]
theorem refof_pure (l : List Int) (m : Nat) (hl : l.length ≤ 9223372036854775807) (hb : okB l) (hm : m < 18446744073709551616) : Pure Tryz.prog 242 [u64s l, .int .u64 m] (.int .u64 (ofB l m)) := by
 have hmc := refsmay_pure l hl
 unfold u64s at hmc ⊢
 by_cases h : mayS l = true
 · have er : ofB l m = sumTo l m l.length := by unfold ofB; rw [if_pos h]
   have h8 := (mayS_spec h).2.1
   rw [h] at hmc
   refine pure_of_tr Tryz.func242 rfl nb rfl fun E hE hP => ?_
   refine mr ?_
   refine mr ?_
   have c1 := And.intro (en Tryz.func78) (hmc)
   refine mr ?_
   refine mr ?_
   refine mBk ?_
   refine Tr.loop (fun i : Nat => (⟨[(0, .sl (l.map uav) false), (1, .int .u64 m), (5, .int .u64 (sumTo l m i)), (6, .bool true), (7, .int .i64 i)], [], 0, []⟩ : S)) (fun i => i ≤ l.length) (fun i => l.length - i) 0 (Nat.zero_le _) ?_ ?_
   · exact mK
   · intro i hi
     have hrange := sumTo_range h hb m i hi
     by_cases hlt : i < l.length
     · have e1 : decide ((i : Int) < (l.length : Int)) = true := dtO
       have ha := nth_map_lt uav l i hlt
       have hw := wrap_next' (n := i) (by omega)
       have hd : l.getD i 0 = l[i] := by simp [hlt]
       have hr1 := bal_range h hb (n := i) hlt
       have hc := refhas_pure m i hm (by omega)
       have hs : sumTo l m (i + 1) = sumTo l m i + if m.testBit i then l.getD i 0 else 0 := rfl
       cases hbit : m.testBit i with
       | true =>
         rw [hbit] at hc hs
         rw [if_pos rfl, hd] at hs
         rw [hd] at hr1
         have hw2 : IntKind.u64.wrap (sumTo l m i + l[i]) = sumTo l m (i + 1) := by rw [hs]; exact wrapU_lt (by omega) (by omega)
         have ff := e1
         refine mr ?_
         refine mYes ?_
         refine mT ?_
         refine mBk ?_
         have c1 := And.intro (en Tryz.func219) (hc)
         refine mr ?_
         refine mr ?_
         refine mYes ?_
         apply tr_ml xE
         intro Q hQ
         refine mS ?_
         iterate 7 (refine vm_op ?_; intro r hr; simp only [uav, ha, hw2, go_sem, seval]; subst hr)
         exact hQ
         refine mU ?_
         refine mRd ?_
         rw [hw]
         refine mU ?_
         refine ⟨i + 1, hlt, by omega, ?_⟩
         exact mK
       | false =>
         rw [hbit] at hc hs
         rw [if_neg (by simp), Int.add_zero] at hs
         have ff := e1
         refine mr ?_
         refine mYes ?_
         refine mT ?_
         refine mBk ?_
         have c1 := And.intro (en Tryz.func219) (hc)
         refine mr ?_
         refine mr ?_
         refine mNo ?_
         refine mT ?_
         refine mRd ?_
         rw [hw]
         refine mU ?_
         refine ⟨i + 1, hlt, by omega, ?_⟩
         rw [hs]
         exact mK
     · have e1 : decide ((i : Int) < (l.length : Int)) = false := dfO
       have hil : i = l.length := by omega
       have ff := e1
       refine mr ?_
       refine mNo ?_
       refine Tr.exit ?_
       refine mU ?_
       rw [hil]
       refine mr ?_
       refine Tr.ret ?_
       simp only [er, Tryz.f242, go_sem, seval]
 · have h : mayS l = false := by simpa using h
   have er : ofB l m = 0 := by unfold ofB; rw [if_neg (by simp [h])]
   rw [h] at hmc
   refine pure_of_tr Tryz.func242 rfl nb rfl fun E hE hP => ?_
   refine mr ?_
   refine mr ?_
   have c1 := And.intro (en Tryz.func78) (hmc)
   refine mr ?_
   refine mr ?_
   refine mBk ?_
   refine Tr.loop (fun _ : Unit => (⟨[(0, .sl (l.map uav) false), (1, .int .u64 m), (5, .int .u64 0), (6, .bool false), (7, .int .i64 0)], [], 0, []⟩ : S)) (fun _ => True) (fun _ => 0) () trivial ?_ ?_
   · exact mK
   · intro _ _
     cases hb0 : decide ((0 : Int) < (l.length : Int))
     · have ff := hb0
       refine mr ?_
       refine mNo ?_
       refine Tr.exit ?_
       refine mU ?_
       refine mr ?_
       refine Tr.ret ?_
       simp only [er, Tryz.f242, go_sem, seval]
     · have ff := hb0
       refine mr ?_
       refine mNo ?_
       refine Tr.exit ?_
       refine mU ?_
       refine mr ?_
       refine Tr.ret ?_
       simp only [er, Tryz.f242, go_sem, seval]
theorem reftotal_pure (l : List Int) (hl : l.length ≤ 9223372036854775807) (hb : okB l) : Pure Tryz.prog 243 [u64s l] (.int .u64 (ofB l maskAll)) := by
 have hc := refof_pure l maskAll hl hb (by decide)
 have ec : ((maskAll : Nat) : Int) = 18446744073709551615 := rfl
 rw [ec] at hc
 refine pure_of_tr Tryz.func243 rfl nb rfl fun E hE hP => ?_
 refine mr ?_
 have c1 := And.intro (en Tryz.func242) (hc)
 refine mr ?_
 refine Tr.ret ?_
 simp only [Tryz.f243, go_sem, seval]
theorem refmost_pure (l : List Int) (m : Nat) (hl : l.length ≤ 9223372036854775807) (hb : okB l) (hm : m < 18446744073709551616) : Pure Tryz.prog 234 [u64s l, .int .u64 m] (.bool (mostB l m)) := by
 have h1 := refof_pure l m hl hb hm
 have h2 := reftotal_pure l hl hb
 have r1 := ofB_range hb m
 have r2 := ofB_range hb maskAll
 have h0 := refsmay_pure l hl
 have h3 := refnmost_pure (ofB l m).toNat (ofB l maskAll).toNat (by omega)
 rw [Int.toNat_of_nonneg r1.1, Int.toNat_of_nonneg r2.1] at h3
 unfold mostB
 generalize decide (2 * (ofB l maskAll).toNat ≤ 3 * (ofB l m).toNat) = b at h3 ⊢
 generalize mayS l = c at h0 ⊢
 refine pure_of_tr Tryz.func234 rfl nb rfl fun E hE hP => ?_
 refine mr ?_
 have c1 := And.intro (en Tryz.func78) (h0)
 refine mr ?_
 have c1 := And.intro (en Tryz.func242) (h1)
 have c2 := And.intro (en Tryz.func243) (h2)
 have c3 := And.intro (en Tryz.func241) (h3)
 refine mr ?_
 cases c
 · refine mr ?_
   refine Tr.ret ?_
   simp only [Bool.false_and, Tryz.f234, go_sem, seval]
 · refine mr ?_
   refine Tr.ret ?_
   simp only [Bool.true_and, Tryz.f234, go_sem, seval]
@[go_sem] theorem tSize26 : tSize Tryz.prog 25 = some 1 ∧ tAgg Tryz.prog 25 = some false := by and_intros <;> kernel_rfl
@[go_sem] theorem u64s_agg (l : List Int) : (u64s l).agg = false := rfl
@[go_sem] theorem u64s_len (l : List Int) : (u64s l).len = 1 := rfl
@[go_sem] theorem u64s_ren (ρ : Nat → Nat) (l : List Int) : (u64s l).ren ρ = u64s l := rfl
theorem each_own (m : Int) : Own Tryz.prog 237 [.int .u64 m] (.fn (.func 245) [] [.ptr 0 [] 0]) [(0, .var (.int .u64 m))] := by
 refine own_of_tr Tryz.func237 rfl nb rfl fun E hE hP => ?_
 refine mr ?_
 refine mr ?_
 refine Tr.ret ?_
 simp only [Tryz.f237, go_sem, seval]
 exact ⟨fun n => n, rfl, ⟨⟨rfl, rfl, rfl⟩, trivial⟩, rfl⟩
theorem less_all : (List.range 256).all (fun m => decide (m = 0) || (decide (bitsI BinOp.and IntKind.u64 (m : Int) (IntKind.u64.wrap ((m : Int) - 1)) = ((m &&& (m - 1) : Nat) : Int)) && decide (m &&& (m - 1) < m) && m.testBit (tz m) && (List.range 8).all (fun j => decide ((m &&& (m - 1)).testBit j = (m.testBit j && decide (j ≠ tz m)))))) = true := by decide +kernel
theorem less_at {m : Nat} (h0 : 0 < m) (h1 : m < 256) : bitsI BinOp.and IntKind.u64 (m : Int) (IntKind.u64.wrap ((m : Int) - 1)) = ((m &&& (m - 1) : Nat) : Int) ∧ m &&& (m - 1) < m ∧ m.testBit (tz m) = true ∧ ∀ j, j < 8 → (m &&& (m - 1)).testBit j = (m.testBit j && decide (j ≠ tz m)) := by
 have h := List.all_eq_true.1 less_all m (List.mem_range.2 h1)
 have hm : decide (m = 0) = false := dfO
 simp only [hm, Bool.false_or, Bool.and_eq_true, decide_eq_true_eq] at h
 obtain ⟨⟨⟨h2, h3⟩, h4⟩, h5⟩ := h
 refine ⟨h2, h3, h4, fun j hj => ?_⟩
 have := List.all_eq_true.1 h5 j (List.mem_range.2 hj)
 exact of_decide_eq_true this
theorem low_bits (m n : Nat) (hm : m < 18446744073709551616) (hn : n ≤ 8) : bitsI BinOp.and IntKind.u64 (m : Int) (IntKind.u64.wrap (bit n - 1)) = ((m % 2 ^ n : Nat) : Int) := by
 have h256 : ∀ k : Nat, k ≤ 8 → bit k = ((2 ^ k : Nat) : Int) ∧ 2 ^ k ≤ 256 := by
  intro k hk
  rcases Nat.lt_or_ge k 8 with h | h
  · refine ⟨bit_pow k (by omega), ?_⟩
    exact Nat.pow_le_pow_right (n := 2) (by omega) hk
  · have : k = 8 := by omega
    subst this
    exact ⟨by decide +kernel, by decide⟩
 obtain ⟨e1, e2⟩ := h256 n hn
 have e3 : 0 < 2 ^ n := Nat.pow_pos (by omega)
 have e4 : IntKind.u64.wrap (bit n - 1) = ((2 ^ n - 1 : Nat) : Int) := by
  have : bit n - 1 = ((2 ^ n - 1 : Nat) : Int) := by omega
  rw [this]; exact wrapU (by omega)
 rw [e4]
 show andU m _ = _
 rw [andU_eq, BitVec.toNat_and]
 have f1 : (bv (m : Int)).toNat = m := by have := bv_back (n := m) ⟨by omega, by omega⟩; omega
 have f2 : (bv ((2 ^ n - 1 : Nat) : Int)).toNat = 2 ^ n - 1 := by have := bv_back (n := ((2 ^ n - 1 : Nat) : Int)) ⟨by omega, by omega⟩; omega
 rw [f1, f2, Nat.and_two_pow_sub_one_eq_mod]
def stO (l : List Int) (k : Nat) : S where
 fr := [(2, .ptr 1 [] 0), (5, .ptr 2 [] 0), (16, .fn (.func 245) [] [.ptr 3 [] 0])]
 hp := [(0, .tab 0 tabV), (1, .var (u64s l)), (2, .var (.int .u64 0)), (3, .var (.int .u64 k))]
 nx := 4
def stE (l : List Int) (L : Nat) (b : LB) (p : Nat × Int) : S where
 fr := [(0, .fn (.yield L) [] []), (1, .ptr 3 [] 0)]
 hp := [(5, .lp b .ready none), (4, .dfr), (0, .tab 0 tabV), (1, .var (u64s l)), (2, .var (.int .u64 p.2)), (3, .var (.int .u64 p.1))]
 nx := 6
theorem of_T (l : List Int) (m : Nat) (hb : okB l) (hm : m < 18446744073709551616) : PureT Tryz.prog 0 tabV 225 [u64s l, .int .u64 m] (.int .u64 (ofB l m)) := by
 have hmc := smay_pure l
 refine eff_of_trM Tryz.func225 rfl nb rfl fun E hE hP => ?_
 refine mr ?_
 by_cases h : mayS l = true
 · have er : ofB l m = sumTo l m l.length := by unfold ofB; rw [if_pos h]
   have h8 := (mayS_spec h).2.1
   have hk := low_bits m l.length hm h8
   have hk2 : m % 2 ^ l.length < 2 ^ l.length := Nat.mod_lt _ (Nat.pow_pos (by omega))
   have hk3 : 2 ^ l.length ≤ 256 := Nat.pow_le_pow_right (n := 2) (by omega) h8
   have hk4 : ∀ j, j < l.length → (m % 2 ^ l.length).testBit j = m.testBit j := fun j hj => by rw [Nat.testBit_mod_two_pow]; simp [hj]
   have hk5 := sumTo_congr (bal := l) (m := m % 2 ^ l.length) (k := m) l.length hk4
   rw [← hk5] at er
   generalize m % 2 ^ l.length = m0 at hk hk2 er
   rw [h] at hmc
   have c1 := And.intro (en Tryz.func76) (hmc)
   refine mr ?_
   refine mNot ?_
   refine mT ?_
   refine mr ?_
   first | apply tr_m xE | (refine Tr.seq ?_; apply tr_m xE)
   intro Q hQ
   refine mS ?_
   iterate 3 (refine vm_op ?_; intro r hr; simp only [u64s, List.length_map, go_sem, seval]; subst hr)
   refine vm_op ?_; intro r hr; simp only [u64s, List.length_map, go_sem, seval]
   refine call_fn rfl rfl rfl rfl (en Tryz.func190) (bit_pure (l.length : Int)) rfl rfl rfl ?_
   refine mS ?_
   subst hr
   iterate 2 (refine vm_op ?_; intro r hr; simp only [hk, go_sem, seval]; subst hr)
   refine vm_op ?_; intro r hr; simp only [hk, go_sem, seval]
   refine call_own rfl rfl rfl rfl (en Tryz.func237) (each_own (m0 : Int)) rfl rfl ?_
   refine mS ?_
   subst hr
   exact hQ
   refine Tr.wk (s' := stO l m0) ?_ ?_
   · refine wk_ren (fun | 2 => 81 | 3 => 193 | n => n) mB mB rfl rfl rfl
   · unfold stO
     refine mBk ?_
     refine Tr.range (fid := 245) (fn := Tryz.f245) rfl (en Tryz.func245) Tryz.func245 rfl rfl nb ?_
     have hE0 := hE
     intro E' L b hE hP' sd
     have hP : E'.pn = 6 := hP'
     rw [er]
     refine mBk ?_
     refine Tr.loop (stE l L b) (fun p => p.1 < 2 ^ l.length ∧ p.2 + sumTo l p.1 l.length = sumTo l m0 l.length ∧ 0 ≤ p.2 ∧ p.2 ≤ 8796093022208) (fun p => p.1) (m0, 0) ⟨hk2, by simp, by simp, by simp⟩ ?_ ?_
     · exact mK
     · rintro ⟨k, s⟩ ⟨hk1, hsum, hs0, hs1⟩
       simp only at hk1 hsum hs0 hs1
       unfold stE
       rcases Nat.eq_zero_or_pos k with h0 | h0
       · subst h0
         have er2 : s = sumTo l m0 l.length := by rw [sumTo_zero] at hsum; omega
         have ek : (((0 : Nat) : Int) != 0) = false := rfl
         first | refine tr_seq_y 6 sd xE rfl rfl rfl ?_ | (refine Tr.seq ?_; refine tr_seq_y 6 sd xE rfl rfl rfl ?_)
         refine mL ?_
         repeat (first | (refine vc_op rfl ?_; simp only [ek, go_sem, seval]) | (refine vc_go rfl rfl rfl ?_; simp only [ek, go_sem, seval]) | (refine vc_no rfl rfl rfl ?_; simp only [ek, go_sem, seval]) | (refine vc_skip rfl rfl rfl ?_; simp only [ek, go_sem, seval]))
         refine vc_nil ?_
         refine gy_no rfl rfl rfl ?_
         refine mS ?_
         refine mO ?_
         refine vc_nil ?_
         refine mNo ?_
         refine Tr.exit ?_
         refine mU ?_
         have hE := hE0
         refine ⟨rfl, _, _, rfl, by simp, rfl, ?_⟩
         simp only [goOn]
         simp only [HP.del, fB, go_sem, seval]
         rw [← er2]
         refine mr ?_
         refine Tr.ret ?_
         refine ⟨by simp, fun o ho => by rw [List.mem_singleton.1 ho]; rfl, ?_⟩
         simp only [HP.drop, List.contains_cons, List.contains_nil, Bool.or_false, Bool.false_or, Bool.or_true, fB,  Tryz.f225, go_sem, seval]
         exact ⟨fun n => n, ⟨⟨rfl, rfl, rfl⟩, trivial⟩, rfl, fun _ _ => rfl⟩
       · have h256 : k < 256 := by omega
         obtain ⟨l1, l2, l3, l4⟩ := less_at h0 h256
         have hz := tz_T k h0 h256
         have hv : tz k < l.length := by
          rcases Nat.lt_or_ge (tz k) l.length with h | h
          · exact h
          · rw [Nat.testBit_lt_two_pow (Nat.lt_of_lt_of_le hk1 (Nat.pow_le_pow_right (by omega) h))] at l3
            cases l3
         have hless := sumTo_less (bal := l) (m := k) (k := k &&& (k - 1)) l3 l.length fun j hj => l4 j (by omega)
         rw [if_pos hv] at hless
         have hd : l.getD (tz k) 0 = l[tz k] := by simp [hv]
         rw [hd] at hless
         have hr1 := bal_range h hb hv
         rw [hd] at hr1
         have hr2 := sumTo_range h hb (k &&& (k - 1)) l.length (Nat.le_refl _)
         have hr3 := sumTo_range h hb m0 l.length (Nat.le_refl _)
         have hw : IntKind.u64.wrap (s + l[tz k]) = s + l[tz k] := wrapU_lt (by omega) (by omega)
         have ha := nth_map_lt uav l (tz k) hv
         have ek : ((k : Int) != 0) = true := by rw [int_bne, dfO]; rfl
         generalize l[tz k] = x at hless hr1 hw ha
         generalize hk' : k &&& (k - 1) = k' at l1 l2 hless hr2
         clear hk4 hk5 hk3 l3 l4
         first | refine tr_seq_y 6 sd xE rfl rfl rfl ?_ | (refine Tr.seq ?_; refine tr_seq_y 6 sd xE rfl rfl rfl ?_)
         refine mL ?_
         repeat (first | (refine vc_op rfl ?_; simp only [ek, go_sem, seval]) | (refine vc_go rfl rfl rfl ?_; simp only [ek, go_sem, seval]) | (refine vc_no rfl rfl rfl ?_; simp only [ek, go_sem, seval]) | (refine vc_skip rfl rfl rfl ?_; simp only [ek, go_sem, seval]))
         refine call_eff (fun n => n) [] [] rfl rfl rfl rfl (en Tryz.func246) (hz) rfl rfl mB rfl rfl rfl ?_
         refine mR ?_
         refine mG ?_
         refine vc_nil ?_
         have hE1 := hE
         have hP1 := hP
         refine gy_if rfl rfl rfl ?_
         refine ⟨_, rfl, rfl, rfl, rfl, by rw [hE0]; rfl, rfl, ?_⟩
         intro Er hE hP
         rw [hE0] at hE
         refine mZ ?_
         refine mRd ?_
         refine ⟨rfl, ?_⟩
         refine mS ?_
         refine mBk ?_
         refine tr_drawn mixed [1, 2] rfl xE kR ?_
         refine vP ?_
         refine vd_q rfl rfl ?_; simp only [u64s, go_sem, seval]
         refine vP ?_
         refine vd_q rfl rfl ?_; simp only [uav, ha, go_sem, seval]
         refine vP ?_
         refine vd_q rfl rfl ?_; simp only [hw, go_sem, seval]
         refine vd_w rfl rfl kR ?_; simp only [go_sem, seval]
         refine vd_nil ?_
         refine mU ?_
         refine ⟨rfl, ?_⟩
         refine mS ?_
         refine mO ?_
         refine vc_nil ?_
         have hE := hE1
         have hP := hP1
         refine mYes ?_
         refine mT ?_
         refine mBk ?_
         apply tr_ml xE
         intro Q hQ
         refine mS ?_
         iterate 5 (refine vm_op ?_; intro r hr; simp only [l1, go_sem, seval]; subst hr)
         exact hQ
         refine mU ?_
         refine ⟨(k', s + x), ⟨by omega, by show s + x + sumTo l k' l.length = _; omega, by show 0 ≤ s + x; omega, by show s + x ≤ _; omega⟩, l2, ?_⟩
         exact mK
 · have h : mayS l = false := by simpa using h
   have er : ofB l m = 0 := by unfold ofB; rw [if_neg (by simp [h])]
   rw [h] at hmc
   have c1 := And.intro (en Tryz.func76) (hmc)
   refine mr ?_
   refine mYes ?_
   refine mr ?_
   refine Tr.ret ?_
   rw [er]
   refine ⟨List.nodup_nil, fun o ho => (by cases ho), ?_⟩
   simp only [drop_none,  Tryz.f225, go_sem, seval]
   exact ⟨fun n => n, ⟨⟨rfl, rfl, rfl⟩, trivial⟩, rfl, fun _ _ => rfl⟩
theorem total_T (l : List Int) (hb : okB l) : PureT Tryz.prog 0 tabV 226 [u64s l] (.int .u64 (ofB l maskAll)) := by
 have hc := of_T l maskAll hb (by decide)
 have ec : ((maskAll : Nat) : Int) = 18446744073709551615 := rfl
 rw [ec] at hc
 refine eff_of_tr Tryz.func226 rfl nb (by first | rfl | (simp only [AV.idsB, AV.idsBL, Bool.and_true, Bool.true_and] <;> rfl)) fun E hE hP => ?_
 refine mr ?_
 have x1 := And.intro (en Tryz.func225) (hc)
 refine mr ?_
 refine Tr.ret ?_
 simp only [Tryz.f226, go_sem, seval]
 exact ⟨fun n => n, ⟨⟨rfl, rfl, rfl⟩, trivial⟩, rfl, fun _ _ => rfl⟩
theorem most_T (l : List Int) (m : Nat) (hb : okB l) (hm : m < 18446744073709551616) : PureT Tryz.prog 0 tabV 196 [u64s l, .int .u64 m] (.bool (mostB l m)) := by
 have h1 := of_T l m hb hm
 have h2 := total_T l hb
 have r1 := ofB_range hb m
 have r2 := ofB_range hb maskAll
 have h0 := smay_pure l
 have h3 := nmost_pure (ofB l m).toNat (ofB l maskAll).toNat (by omega) (by omega)
 rw [Int.toNat_of_nonneg r1.1, Int.toNat_of_nonneg r2.1] at h3
 unfold mostB
 generalize decide (2 * (ofB l maskAll).toNat ≤ 3 * (ofB l m).toNat) = b at h3 ⊢
 generalize mayS l = c at h0 ⊢
 cases c
 · refine eff_of_tr Tryz.func196 rfl nb (by first | rfl | (simp only [AV.idsB, AV.idsBL, Bool.and_true, Bool.true_and] <;> rfl)) fun E hE hP => ?_
   refine mr ?_
   have c1 := And.intro (en Tryz.func76) (h0)
   refine mr ?_
   refine Tr.ret ?_
   simp only [Bool.false_and, Tryz.f196, go_sem, seval]
   exact ⟨fun n => n, ⟨⟨rfl, rfl, rfl⟩, trivial⟩, rfl, fun _ _ => rfl⟩
 · refine eff_of_tr Tryz.func196 rfl nb (by first | rfl | (simp only [AV.idsB, AV.idsBL, Bool.and_true, Bool.true_and] <;> rfl)) fun E hE hP => ?_
   refine mr ?_
   have c1 := And.intro (en Tryz.func76) (h0)
   have x1 := And.intro (en Tryz.func225) (h1)
   have x2 := And.intro (en Tryz.func226) (h2)
   have c2 := And.intro (en Tryz.func224) (h3)
   refine mr ?_
   refine Tr.ret ?_
   simp only [Bool.true_and, Tryz.f196, go_sem, seval]
   exact ⟨fun n => n, ⟨⟨rfl, rfl, rfl⟩, trivial⟩, rfl, fun _ _ => rfl⟩
def isR (r : Root) (n : Node) : Bool := decide (n.root = r)
def findI (t : List Node) (r : Root) : Int := match t.findIdx? (isR r) with | some i => (i : Int) | none => -1
def findR (t : List Node) (r : Root) : Int := if mayB t then findI t r else -1
theorem findI_at {t : List Node} {r : Root} {i : Nat} (h : i < t.length) (hb : ∀ j (hj : j < i), isR r (t[j]'(by omega)) = false) (hi : isR r t[i] = true) : findI t r = i := by
 have : t.findIdx? (isR r) = some i := by
  rw [List.findIdx?_eq_some_iff_getElem]
  exact ⟨h, hi, fun j hj => by rw [hb j hj]; simp⟩
 rw [findI, this]
theorem findI_none {t : List Node} {r : Root} (hb : ∀ j (hj : j < t.length), isR r t[j] = false) : findI t r = -1 := by
 have : t.findIdx? (isR r) = none := by
  rw [List.findIdx?_eq_none_iff]
  intro x hx
  obtain ⟨j, hj, rfl⟩ := List.mem_iff_getElem.1 hx
  exact hb j hj
 rw [findI, this]
theorem findI_range (t : List Node) (r : Root) : findI t r = -1 ∨ (0 ≤ findI t r ∧ findI t r < t.length) := by
 unfold findI
 cases h : t.findIdx? (isR r) with
 | none => exact .inl rfl
 | some i =>
   obtain ⟨h1, _, _⟩ := List.findIdx?_eq_some_iff_getElem.1 h
   right
   simp only
   omega
def rlook (es : List (Root × Nat)) (r : Root) : Option Nat := (es.find? fun e => decide (r = e.1)).map (·.2)
theorem foundR (es : List (Root × Nat)) (r : Root) : foundE (.root r) (es.map entE) = (rlook es r).map fun n => .int .i64 n := by
 unfold foundE rlook
 induction es with
 | nil => rfl
 | cons e es ih =>
   have hb : (AV.root r).eqb (entE e).1 = decide (r = e.1) := rfl
   simp only [List.map_cons, List.find?_cons, hb]
   cases decide (r = e.1)
   · exact ih
   · rfl
theorem lookR {hp : HP} {o : Nat} {es : List (Root × Nat)} {r : Root} {K : AV → Prop} (hg : HP.get hp o = some (.amap (es.map entE))) (h : K (.tup [.int .i64 ((rlook es r).getD 0), .bool (rlook es r).isSome])) :
 lookupK Tryz.prog 117 hp (.mp o) (.root r) true K := by
 simp only [lookupK, tMap88, hg, ltZero3, if_true]
 refine ⟨fits23 r, depth23 r, keys88 es, ?_⟩
 rw [foundR]
 cases hl : rlook es r with
 | none => rw [hl] at h; exact h
 | some n => rw [hl] at h; exact h
theorem idxTo_once {t : List Node} (hn : (t.map Node.root).Nodup) : ∀ n, n ≤ t.length → idxTo t n = (List.range n).map fun i => ((t.getD i zNode).root, i)
 | 0, _ => rfl
 | n + 1, h => by
   have ih := idxTo_once hn n (by omega)
   have hg : t[n]? = some t[n] := List.getElem?_eq_getElem (by omega)
   have hd : t.getD n zNode = t[n] := by simp [show n < t.length by omega]
   have e : idxTo t (n + 1) = setR (idxTo t n) t[n].root n := by rw [idxTo, hg]
   rw [e, ih, List.range_succ, List.map_append, List.map_cons, List.map_nil, hd]
   unfold setR
   have hno : ((List.range n).map fun i => ((t.getD i zNode).root, i)).findIdx? (fun e => decide (t[n].root = e.1)) = none := by
    rw [List.findIdx?_eq_none_iff]
    intro x hx
    obtain ⟨i, hi, rfl⟩ := List.mem_map.1 hx
    have hin := List.mem_range.1 hi
    have hdi : t.getD i zNode = t[i] := by simp [show i < t.length by omega]
    simp only [hdi]
    refine decide_eq_false fun he => ?_
    have := List.pairwise_iff_getElem.1 hn i n (by simp; omega) (by simp; omega) hin
    simp only [List.getElem_map] at this
    exact this he.symm
   rw [hno]
theorem rlook_once {t : List Node} (hn : (t.map Node.root).Nodup) (r : Root) : rlook (idxTo t t.length) r = t.findIdx? (isR r) := by
 rw [idxTo_once hn _ (Nat.le_refl _), rlook, List.find?_map, Option.map_map]
 have e : (Prod.snd ∘ fun i => ((t.getD i zNode).root, i)) = (id : Nat → Nat) := rfl
 rw [e, Option.map_id, id]
 cases h : t.findIdx? (isR r) with
 | none =>
   rw [List.find?_eq_none]
   intro i hi
   have hil := List.mem_range.1 hi
   have hd : t.getD i zNode = t[i] := by simp [hil]
   have := List.findIdx?_eq_none_iff.1 h t[i] (List.getElem_mem hil)
   simp only [isR, decide_eq_false_iff_not] at this
   simp only [Function.comp, hd, decide_eq_true_eq]
   exact fun he => this he.symm
 | some i =>
   obtain ⟨h1, h2, h3⟩ := List.findIdx?_eq_some_iff_getElem.1 h
   rw [List.find?_range_eq_some]
   have hd : t.getD i zNode = t[i] := by simp [h1]
   refine ⟨?_, List.mem_range.2 h1, fun j hj => ?_⟩
   · simp only [Function.comp, hd, decide_eq_true_eq]
     exact (of_decide_eq_true h2).symm
   · have hdj : t.getD j zNode = t[j]'(by omega) := by simp [show j < t.length by omega]
     have := h3 j hj
     simp only [isR, decide_eq_true_eq] at this
     simp only [Function.comp, hdj, Bool.not_eq_true', decide_eq_false_iff_not]
     exact fun he => this he.symm
theorem may_once {t : List Node} (h : mayB t = true) : (t.map Node.root).Nodup := by
 simp only [mayB, Bool.and_eq_true] at h
 exact of_decide_eq_true h.2
theorem find_pure (t : List Node) (r : Root) : Pure Tryz.prog 27 [tav t, .root r] (.int .i64 (findR t r)) := by
 have hc := may_pure t
 refine pure_of_tr Tryz.func27 rfl nb rfl fun E hE hP => ?_
 refine mr ?_
 by_cases h : mayB t = true
 · have er : findR t r = findI t r := by unfold findR; rw [if_pos h]
   have hl := (may_len h).2
   have hk := rlook_once (may_once h) r
   rw [h] at hc
   have c1 := And.intro (en Tryz.func71) (hc)
   refine mr ?_
   refine mNot ?_
   refine mT ?_
   have o1 := And.intro (en Tryz.func72) (index_own t (by omega))
   refine mr ?_
   refine mSr ?_
   iterate 2 (refine vc_op rfl ?_; simp only [go_sem, seval])
   refine vc_op rfl ?_; simp only [go_sem, seval]
   refine lookR rfl ?_
   simp only [hk, go_sem, seval]
   cases hf : t.findIdx? (isR r) with
   | some i =>
     have ef : findR t r = i := by rw [er, findI, hf]
     simp only [Option.getD_some, Option.isSome_some, go_sem, seval]
     iterate 5 (refine vc_op rfl ?_; simp only [go_sem, seval])
     refine vc_nil ?_
     refine mr ?_
     refine mYes ?_
     refine mr ?_
     refine Tr.ret ?_
     simp only [ef, Tryz.f27, go_sem, seval]
   | none =>
     have ef : findR t r = -1 := by rw [er, findI, hf]
     simp only [Option.getD_none, Option.isSome_none, go_sem, seval]
     iterate 5 (refine vc_op rfl ?_; simp only [go_sem, seval])
     refine vc_nil ?_
     refine mr ?_
     refine mNot ?_
     refine mT ?_
     refine mr ?_
     refine Tr.ret ?_
     simp only [ef, Tryz.f27, go_sem, seval]
 · have h : mayB t = false := by simpa using h
   have er : findR t r = -1 := by unfold findR; rw [if_neg (by simp [h])]
   rw [h] at hc
   have c1 := And.intro (en Tryz.func71) (hc)
   refine mr ?_
   refine mYes ?_
   refine mr ?_
   refine Tr.ret ?_
   simp only [er, Tryz.f27, go_sem, seval]
theorem reffind_pure (t : List Node) (r : Root) (hl : t.length ≤ 100) : Pure Tryz.prog 50 [tav t, .root r] (.int .i64 (findR t r)) := by
 have hc := refmay_pure t hl
 rw [refmay_eq] at hc
 refine pure_of_tr Tryz.func50 rfl nb rfl fun E hE hP => ?_
 refine mr ?_
 by_cases h : mayB t = true
 · have er : findR t r = findI t r := by unfold findR; rw [if_pos h]
   rw [h] at hc
   have c1 := And.intro (en Tryz.func114) (hc)
   refine mr ?_
   refine mr ?_
   refine mBk ?_
   refine Tr.loop (fun i : Nat => (⟨[(2, .ptr 0 [] 0), (3, .ptr 16 [] 0), (5, .bool true), (6, .int .i64 i)], [(0, .var (tav t)), (16, .var (.root r))], 17, []⟩ : S)) (fun i => i ≤ t.length ∧ ∀ j (hj : j < t.length), j < i → isR r t[j] = false) (fun i => t.length - i) 0 ⟨Nat.zero_le _, fun _ _ h => by omega⟩ ?_ ?_
   · exact mK
   · intro i ⟨hi, hall⟩
     by_cases hlt : i < t.length
     · have e1 : decide ((i : Int) < (t.length : Int)) = true := dtO
       have hn := nth_node (t := t) hlt
       have hd : t.getD i zNode = t[i] := by simp [hlt]
       have hw := wN i
       rw [hd] at hn
       have ff := e1
       refine mr ?_
       refine mYes ?_
       refine mT ?_
       refine mBk ?_
       cases hb : isR r t[i] with
       | true =>
         have hb' : decide (t[i].root = r) = true := hb
         have ef : findI t r = i := findI_at hlt (fun j hj => hall j (by omega) hj) hb
         have ff := And.intro hn hb'
         refine mr ?_
         refine mYes ?_
         refine mr ?_
         refine Tr.ret ?_
         simp only [er, ef, Tryz.f50, go_sem, seval]
       | false =>
         have hb' : decide (t[i].root = r) = false := hb
         have ff := And.intro hn hb'
         refine mr ?_
         refine mNo ?_
         refine mT ?_
         refine mRd ?_
         rw [hw]
         refine mU ?_
         refine ⟨i + 1, ⟨hlt, fun j hj hjl => ?_⟩, by omega, ?_⟩
         · rcases Nat.lt_or_ge j i with h | h
           · exact hall j hj h
           · have : j = i := by omega
             subst this; exact hb
         exact mK
     · have e1 : decide ((i : Int) < (t.length : Int)) = false := dfO
       have ef : findI t r = -1 := findI_none fun j hj => hall j hj (by omega)
       have ff := e1
       refine mr ?_
       refine mNo ?_
       refine Tr.exit ?_
       refine mU ?_
       refine mr ?_
       refine Tr.ret ?_
       simp only [er, ef, Tryz.f50, go_sem, seval]
 · have h : mayB t = false := by simpa using h
   have er : findR t r = -1 := by unfold findR; rw [if_neg (by simp [h])]
   rw [h] at hc
   have c1 := And.intro (en Tryz.func114) (hc)
   refine mr ?_
   refine mr ?_
   refine mBk ?_
   refine Tr.loop (fun _ : Unit => (⟨[(2, .ptr 0 [] 0), (5, .bool false), (6, .int .i64 0)], [(0, .var (tav t))], 17, []⟩ : S)) (fun _ => True) (fun _ => 0) () trivial ?_ ?_
   · exact mK
   · intro _ _
     cases hb0 : decide ((0 : Int) < (t.length : Int))
     · have ff := hb0
       refine mr ?_
       refine mNo ?_
       refine Tr.exit ?_
       refine mU ?_
       refine mr ?_
       refine Tr.ret ?_
       simp only [er, Tryz.f50, go_sem, seval]
     · have ff := hb0
       refine mr ?_
       refine mNo ?_
       refine Tr.exit ?_
       refine mU ?_
       refine mr ?_
       refine Tr.ret ?_
       simp only [er, Tryz.f50, go_sem, seval]
def behindB (t : List Node) (c f : Check) : Bool := aboveR t (findR t f.root) (findR t c.root)
theorem behind_pure (t : List Node) (c f : Check) : Pure Tryz.prog 98 [tav t, c.av, f.av] (.bool (behindB t c f)) := by
 have h1 := find_pure t f.root
 have h2 := find_pure t c.root
 have h3 := above_pure t (findR t f.root) (findR t c.root)
 have er : behindB t c f = aboveR t (findR t f.root) (findR t c.root) := rfl
 refine pure_of_tr Tryz.func98 rfl nb rfl fun E hE hP => ?_
 refine mr ?_
 have c1 := And.intro (en Tryz.func27) (h1)
 have c2 := And.intro (en Tryz.func27) (h2)
 have c3 := And.intro (en Tryz.func39) (h3)
 refine mr ?_
 refine Tr.ret ?_
 simp only [er, Tryz.f98, go_sem, seval]
theorem refis_pure (t : List Node) (i : Int) (hl : t.length ≤ 100) : Pure Tryz.prog 117 [tav t, .int .i64 i] (.bool (isB t [i])) := by
 have hc := refmay_pure t hl
 rw [refmay_eq] at hc
 cases hm : mayB t with
 | false =>
   have er : isB t [i] = false := by simp [isB, hm]
   rw [hm] at hc
   refine pure_of_tr Tryz.func117 rfl nb rfl fun E hE hP => ?_
   refine mr ?_
   have c1 := And.intro (en Tryz.func114) (hc)
   refine mr ?_
   refine mr ?_
   refine Tr.ret ?_
   simp only [er, Tryz.f117, go_sem, seval]
 | true =>
   rw [hm] at hc
   by_cases h0 : 0 ≤ i
   · have e0 : decide (0 ≤ i) = true := decide_eq_true h0
     have er : isB t [i] = decide (i < (t.length : Int)) := by
      have : decide (i < 0) = false := dfO
      simp only [isB, badI, hm, List.any_cons, List.any_nil, this, Bool.false_or, Bool.or_false, Bool.true_and]
      rw [← decide_not]
      exact decide_eq_decide.2 (by omega)
     refine pure_of_tr Tryz.func117 rfl nb rfl fun E hE hP => ?_
     refine mr ?_
     have c1 := And.intro (en Tryz.func114) (hc)
     refine mr ?_
     have ff := e0
     refine mr ?_
     refine Tr.ret ?_
     simp only [er, Tryz.f117, go_sem, seval]
   · have e0 : decide (0 ≤ i) = false := decide_eq_false h0
     have er : isB t [i] = false := by
      have : decide (i < 0) = true := dtO
      simp [isB, badI, this]
     refine pure_of_tr Tryz.func117 rfl nb rfl fun E hE hP => ?_
     refine mr ?_
     have c1 := And.intro (en Tryz.func114) (hc)
     refine mr ?_
     have ff := e0
     refine mr ?_
     refine Tr.ret ?_
     simp only [er, Tryz.f117, go_sem, seval]
theorem isB_two (t : List Node) (i k : Int) : isB t [i, k] = (isB t [i] && isB t [k]) := by
 simp only [isB, List.any_cons, List.any_nil, Bool.or_false]
 cases mayB t <;> cases badI t i <;> cases badI t k <;> rfl
theorem isB_spec {t : List Node} {i : Int} (h : isB t [i] = true) : mayB t = true ∧ 0 ≤ i ∧ i < t.length := by
 simp only [isB, badI, List.any_cons, List.any_nil, Bool.or_false, Bool.and_eq_true, Bool.not_eq_true', Bool.or_eq_false_iff, decide_eq_false_iff_not] at h
 exact ⟨h.1, by omega, by omega⟩
theorem refabove_pure (t : List Node) (i k : Int) (hl : t.length ≤ 100) : Pure Tryz.prog 54 [tav t, .int .i64 i, .int .i64 k] (.bool (aboveR t i k)) := by
 have h1 := refis_pure t i hl
 have h2 := refis_pure t k hl
 cases hi : isB t [i] with
 | false =>
   have er : aboveR t i k = false := by unfold aboveR; rw [isB_two, hi]; rfl
   rw [hi] at h1
   generalize isB t [k] = c at h2
   refine pure_of_tr Tryz.func54 rfl nb rfl fun E hE hP => ?_
   refine mr ?_
   have c1 := And.intro (en Tryz.func117) (h1)
   refine mr ?_
   have c1 := And.intro (en Tryz.func117) (h2)
   refine mr ?_
   refine mr ?_
   refine mYes ?_
   refine mr ?_
   refine Tr.ret ?_
   simp only [er, Tryz.f54, go_sem, seval]
 | true =>
   rw [hi] at h1
   cases hk : isB t [k] with
   | false =>
     have er : aboveR t i k = false := by unfold aboveR; rw [isB_two, hi, hk]; rfl
     rw [hk] at h2
     refine pure_of_tr Tryz.func54 rfl nb rfl fun E hE hP => ?_
     refine mr ?_
     have c1 := And.intro (en Tryz.func117) (h1)
     refine mr ?_
     have c1 := And.intro (en Tryz.func117) (h2)
     refine mr ?_
     refine mr ?_
     refine mYes ?_
     refine mr ?_
     refine Tr.ret ?_
     simp only [er, Tryz.f54, go_sem, seval]
   | true =>
     have er : aboveR t i k = aboveF t i k := by unfold aboveR; rw [isB_two, hi, hk]; rfl
     obtain ⟨hm, hi0, _⟩ := isB_spec hi
     obtain ⟨_, hk0, hk1⟩ := isB_spec hk
     rw [hk] at h2
     refine pure_of_tr Tryz.func54 rfl nb rfl fun E hE hP => ?_
     refine mr ?_
     have c1 := And.intro (en Tryz.func117) (h1)
     refine mr ?_
     have c1 := And.intro (en Tryz.func117) (h2)
     refine mr ?_
     refine mr ?_
     refine mNot ?_
     refine mT ?_
     refine mBk ?_
     refine Tr.loop (fun a : Int => (⟨[(1, .int .i64 i), (2, .int .i64 a), (3, .ptr 0 [] 0)], [(0, .var (tav t))], 1, []⟩ : S)) (fun a => (a = -1 ∨ (0 ≤ a ∧ a < t.length)) ∧ aboveF t i a = aboveF t i k) (fun a => (a + 1).toNat) k ⟨.inr ⟨hk0, hk1⟩, rfl⟩ ?_ ?_
     · exact mK
     · rintro a ⟨ha, habove⟩
       by_cases hai : i < a
       · have e1 : decide (i < a) = true := decide_eq_true hai
         have ha' : 0 ≤ a ∧ a < t.length := by omega
         have hstep := aboveF_step hm (i := i) ha'.1 ha'.2
         rw [if_neg (by omega), if_neg (by omega)] at hstep
         have hpr := par_range hm ha'.1 ha'.2
         obtain ⟨j, rfl⟩ : ∃ j : Nat, a = j := ⟨a.toNat, by omega⟩
         have hn := nth_node (t := t) (k := j) (by omega)
         have hpar : (t.getD j zNode).parent = parI t j := by unfold parI; rw [Int.toNat_natCast]
         have ff := e1
         refine mr ?_
         refine mYes ?_
         refine mT ?_
         refine mBk ?_
         have ff := And.intro hn hpar
         refine mr ?_
         refine mU ?_
         refine ⟨parI t j, ⟨by omega, by rw [← hstep]; exact habove⟩, by omega, ?_⟩
         exact mK
       · have e1 : decide (i < a) = false := decide_eq_false hai
         have er2 : aboveF t i k = decide (a = i) := by
          rw [← habove]
          rcases ha with ha | ha
          · subst ha
            rw [dfO]; rfl
          · rw [aboveF_step hm (i := i) ha.1 ha.2]
            by_cases h : a = i
            · rw [if_pos h, decide_eq_true h]
            · rw [if_neg h, if_pos (by omega), decide_eq_false h]
         have ff := e1
         refine mr ?_
         refine mNo ?_
         refine Tr.exit ?_
         refine mU ?_
         refine mSr ?_
         repeat (refine vc_op rfl ?_; simp only [int_beq, go_sem, seval])
         refine vc_nil ?_
         refine Tr.ret ?_
         simp only [er, er2, Tryz.f54, go_sem, seval]
theorem refbehind_pure (t : List Node) (c f : Check) (hl : t.length ≤ 100) : Pure Tryz.prog 112 [tav t, c.av, f.av] (.bool (behindB t c f)) := by
 have h1 := reffind_pure t f.root hl
 have h2 := reffind_pure t c.root hl
 have h3 := refabove_pure t (findR t f.root) (findR t c.root) hl
 have er : behindB t c f = aboveR t (findR t f.root) (findR t c.root) := rfl
 refine pure_of_tr Tryz.func112 rfl nb rfl fun E hE hP => ?_
 refine mr ?_
 have c1 := And.intro (en Tryz.func50) (h1)
 have c2 := And.intro (en Tryz.func50) (h2)
 have c3 := And.intro (en Tryz.func54) (h3)
 refine mr ?_
 refine Tr.ret ?_
 simp only [er, Tryz.f112, go_sem, seval]
def toldR (t : List Node) (l : List Link) (b : List Int) : Bool := mayB t && (lmayB l && mayS b)
def okL (l : List Link) : Prop := ∀ a ∈ l, 0 ≤ a.mask ∧ a.mask < 18446744073709551616
def countB (t : List Node) (b : List Int) (a : Link) : Bool := behindB t a.t a.s && mostB b a.mask.toNat
def betterB (a b : Check) : Bool := decide (a.epoch < b.epoch) || (decide (b.epoch = a.epoch) && lessR a.root b.root)
def checks (l : List Check) : AV := .sl (l.map Check.av) false
@[go_sem] theorem checks_idL (l : List Check) : (checks l).idL = [] := rfl
@[go_sem] theorem checks_frz (hp : HP) (l : List Check) : (checks l).frz hp = checks l := rfl
@[go_sem] theorem checks_flat (l : List Check) : (checks l).flat = false := rfl
@[go_sem] theorem checks_ok (l : List Check) : (checks l).ok = true := rfl
@[go_sem] theorem checks_idf (l : List Check) : (checks l).idf = true := rfl
@[go_sem] theorem checks_agg (l : List Check) : (checks l).agg = false := rfl
@[go_sem] theorem checks_len (l : List Check) : (checks l).len = 1 := rfl
@[go_sem] theorem checks_ren (ρ : Nat → Nat) (l : List Check) : (checks l).ren ρ = checks l := rfl
@[go_sem] theorem links_agg (l : List Link) : (links l).agg = false := rfl
@[go_sem] theorem links_len (l : List Link) : (links l).len = 1 := rfl
@[go_sem] theorem links_ren (ρ : Nat → Nat) (l : List Link) : (links l).ren ρ = links l := rfl
@[go_sem] theorem tElem27 : tElem Tryz.prog 32 = some 36 := by kernel_rfl
@[go_sem] theorem tSize27 : tSize Tryz.prog 32 = some 1 ∧ tAgg Tryz.prog 32 = some false ∧ tSize Tryz.prog 31 = some 1 ∧ tAgg Tryz.prog 31 = some false ∧ tBytes Tryz.prog 36 = some 40 := by and_intros <;> kernel_rfl
@[go_sem] theorem cund27 : Tryz.prog.underlying 32 = some (.slice 36) := Tryz.underlying32
theorem told_pure (t : List Node) (l : List Link) (b : List Int) : Pure Tryz.prog 195 [tav t, links l, u64s b] (.bool (toldR t l b)) := by
 have h1 := may_pure t
 have h2 := LMay_pure l
 have h3 := smay_pure b
 unfold toldR
 generalize mayB t = x at h1 ⊢
 generalize lmayB l = y at h2 ⊢
 generalize mayS b = z at h3 ⊢
 cases x
 · refine pure_of_tr Tryz.func195 rfl nb rfl fun E hE hP => ?_
   refine mr ?_
   have c1 := And.intro (en Tryz.func71) (h1)
   refine mr ?_
   refine Tr.ret ?_
   simp only [Bool.false_and, Tryz.f195, go_sem, seval]
 · cases y
   · refine pure_of_tr Tryz.func195 rfl nb rfl fun E hE hP => ?_
     refine mr ?_
     have c1 := And.intro (en Tryz.func71) (h1)
     have c2 := And.intro (en Tryz.func60) (h2)
     refine mr ?_
     refine Tr.ret ?_
     simp only [Bool.false_and, Bool.true_and, Tryz.f195, go_sem, seval]
   · refine pure_of_tr Tryz.func195 rfl nb rfl fun E hE hP => ?_
     refine mr ?_
     have c1 := And.intro (en Tryz.func71) (h1)
     have c2 := And.intro (en Tryz.func60) (h2)
     have c3 := And.intro (en Tryz.func76) (h3)
     refine mr ?_
     refine Tr.ret ?_
     simp only [Bool.true_and, Tryz.f195, go_sem, seval]
theorem reftold_pure (t : List Node) (l : List Link) (b : List Int) (ht : t.length ≤ 100) (hl : l.length ≤ 100) (hb : b.length ≤ 9223372036854775807) (hmask : okL l) : Pure Tryz.prog 181 [tav t, links l, u64s b] (.bool (toldR t l b)) := by
 have h1 := refmay_pure t ht
 rw [refmay_eq] at h1
 have h2 := RLMay_pure l hl fun a ha => (hmask a ha).1
 have h3 := refsmay_pure b hb
 unfold toldR
 generalize mayB t = x at h1 ⊢
 generalize lmayB l = y at h2 ⊢
 generalize mayS b = z at h3 ⊢
 refine pure_of_tr Tryz.func181 rfl nb rfl fun E hE hP => ?_
 refine mr ?_
 have c1 := And.intro (en Tryz.func114) (h1)
 refine mr ?_
 have c1 := And.intro (en Tryz.func178) (h2)
 refine mr ?_
 have c1 := And.intro (en Tryz.func78) (h3)
 refine mr ?_
 cases x
 · refine mr ?_
   refine Tr.ret ?_
   simp only [Bool.false_and, Tryz.f181, go_sem, seval]
 · cases y
   · refine mr ?_
     refine Tr.ret ?_
     simp only [Bool.false_and, Bool.true_and, Tryz.f181, go_sem, seval]
   · refine mr ?_
     refine Tr.ret ?_
     simp only [Bool.true_and, Tryz.f181, go_sem, seval]
theorem refcounts_pure (t : List Node) (a : Link) (b : List Int) (ht : t.length ≤ 100) (hl : b.length ≤ 9223372036854775807) (hb : okB b) (hm : 0 ≤ a.mask ∧ a.mask < 18446744073709551616) : Pure Tryz.prog 223 [tav t, a.av, u64s b] (.bool (countB t b a)) := by
 have h1 := refbehind_pure t a.t a.s ht
 have h2 := refmost_pure b a.mask.toNat hl hb (by omega)
 rw [Int.toNat_of_nonneg hm.1] at h2
 unfold countB
 generalize behindB t a.t a.s = x at h1 ⊢
 generalize mostB b a.mask.toNat = y at h2 ⊢
 refine pure_of_tr Tryz.func223 rfl nb rfl fun E hE hP => ?_
 refine mr ?_
 have c1 := And.intro (en Tryz.func112) (h1)
 refine mr ?_
 have c1 := And.intro (en Tryz.func234) (h2)
 refine mr ?_
 cases x
 · refine mr ?_
   refine Tr.ret ?_
   simp only [Bool.false_and, Tryz.f223, go_sem, seval]
 · refine mr ?_
   refine Tr.ret ?_
   simp only [Bool.true_and, Tryz.f223, go_sem, seval]
theorem better_pure (a b : Check) : Pure Tryz.prog 101 [a.av, b.av] (if betterB a b then b else a).av := by
 have h1 := less_pure a.root b.root
 unfold betterB
 generalize lessR a.root b.root = z at h1 ⊢
 cases e1 : decide (a.epoch < b.epoch) with
 | true =>
   refine pure_of_tr Tryz.func101 rfl nb rfl fun E hE hP => ?_
   refine mr ?_
   have ff := e1
   refine mr ?_
   refine mYes ?_
   refine mr ?_
   refine Tr.ret ?_
   simp only [Bool.true_or, Tryz.f101, go_sem, seval]
 | false =>
   cases e2 : decide (b.epoch = a.epoch) with
   | true =>
     cases z with
     | true =>
       refine pure_of_tr Tryz.func101 rfl nb rfl fun E hE hP => ?_
       refine mr ?_
       first | apply tr_m xE | (refine Tr.seq ?_; apply tr_m xE)
       intro Q hQ
       refine mS ?_
       iterate 6 (refine vm_op ?_; intro r hr; simp only [e1, e2, int_beq, go_sem, seval]; subst hr)
       iterate 10 (refine mI ?_; intro r hr; simp only [e1, e2, int_beq, go_sem, seval]; subst hr)
       refine mI ?_; intro r hr; simp only [e1, e2, int_beq, go_sem, seval]
       refine call_fn rfl rfl rfl rfl (en Tryz.func172) (h1) rfl rfl rfl ?_
       refine mS ?_
       subst hr
       refine mI ?_; intro r hr; simp only [go_sem, seval]; subst hr
       refine mV ?_
       exact hQ
       refine mYes ?_
       refine mr ?_
       refine Tr.ret ?_
       simp only [Bool.false_or, Bool.true_and, Tryz.f101, go_sem, seval]
     | false =>
       refine pure_of_tr Tryz.func101 rfl nb rfl fun E hE hP => ?_
       refine mr ?_
       first | apply tr_m xE | (refine Tr.seq ?_; apply tr_m xE)
       intro Q hQ
       refine mS ?_
       iterate 6 (refine vm_op ?_; intro r hr; simp only [e1, e2, int_beq, go_sem, seval]; subst hr)
       iterate 10 (refine mI ?_; intro r hr; simp only [e1, e2, int_beq, go_sem, seval]; subst hr)
       refine mI ?_; intro r hr; simp only [e1, e2, int_beq, go_sem, seval]
       refine call_fn rfl rfl rfl rfl (en Tryz.func172) (h1) rfl rfl rfl ?_
       refine mS ?_
       subst hr
       refine mI ?_; intro r hr; simp only [go_sem, seval]; subst hr
       refine mV ?_
       exact hQ
       refine mNot ?_
       refine mT ?_
       refine mr ?_
       refine Tr.ret ?_
       simp only [Bool.false_or, Bool.true_and, Bool.false_eq_true, Tryz.f101, go_sem, seval]
   | false =>
     refine pure_of_tr Tryz.func101 rfl nb rfl fun E hE hP => ?_
     refine mr ?_
     first | apply tr_m xE | (refine Tr.seq ?_; apply tr_m xE)
     intro Q hQ
     refine mS ?_
     iterate 6 (refine vm_op ?_; intro r hr; simp only [e1, e2, int_beq, go_sem, seval]; subst hr)
     iterate 12 (refine mI ?_; intro r hr; simp only [e1, e2, int_beq, go_sem, seval]; subst hr)
     refine vm_op ?_; intro r hr; simp only [e1, e2, int_beq, go_sem, seval]; subst hr
     exact hQ
     refine mNot ?_
     refine mT ?_
     refine mr ?_
     refine Tr.ret ?_
     simp only [Bool.false_or, Bool.false_and, Bool.false_eq_true, Tryz.f101, go_sem, seval]
theorem refbetter_pure (a b : Check) : Pure Tryz.prog 113 [a.av, b.av] (.bool (betterB a b)) := by
 have h1 := refless_pure a.root b.root
 unfold betterB
 generalize lessR a.root b.root = z at h1 ⊢
 refine pure_of_tr Tryz.func113 rfl nb rfl fun E hE hP => ?_
 refine mr ?_
 have c1 := And.intro (en Tryz.func184) (h1)
 refine mr ?_
 cases e1 : decide (a.epoch < b.epoch) with
 | true =>
   have ff := e1
   refine mr ?_
   refine Tr.ret ?_
   simp only [Bool.true_or, Tryz.f113, go_sem, seval]
 | false =>
   cases e2 : decide (b.epoch = a.epoch) with
   | true =>
     first | apply tr_m xE | (refine Tr.seq ?_; apply tr_m xE)
     intro Q hQ
     refine mS ?_
     iterate 6 (refine vm_op ?_; intro r hr; simp only [e1, e2, int_beq, go_sem, seval]; subst hr)
     iterate 8 (refine mI ?_; intro r hr; simp only [e1, e2, int_beq, go_sem, seval]; subst hr)
     iterate 2 (refine vm_op ?_; intro r hr; simp only [e1, e2, int_beq, go_sem, seval]; subst hr)
     exact hQ
     refine Tr.ret ?_
     simp only [Bool.false_or, Bool.true_and, Tryz.f113, go_sem, seval]
   | false =>
     first | apply tr_m xE | (refine Tr.seq ?_; apply tr_m xE)
     intro Q hQ
     refine mS ?_
     iterate 6 (refine vm_op ?_; intro r hr; simp only [e1, e2, int_beq, go_sem, seval]; subst hr)
     iterate 8 (refine mI ?_; intro r hr; simp only [e1, e2, int_beq, go_sem, seval]; subst hr)
     iterate 2 (refine vm_op ?_; intro r hr; simp only [e1, e2, int_beq, go_sem, seval]; subst hr)
     exact hQ
     refine Tr.ret ?_
     simp only [Bool.false_or, Bool.false_and, Tryz.f113, go_sem, seval]
theorem mem_at {l : List Check} {c : Check} {i : Nat} (h : i < l.length) (he : l[i] = c) : decide (c ∈ l) = true := decide_eq_true (he ▸ List.getElem_mem h)
theorem mem_no {l : List Check} {c : Check} (h : ∀ j (hj : j < l.length), l[j] ≠ c) : decide (c ∈ l) = false := decide_eq_false fun hm => by
 obtain ⟨j, hj, he⟩ := List.mem_iff_getElem.1 hm
 exact h j hj he
theorem has_pure (l : List Check) (c : Check) (hl : l.length ≤ 100) : Pure Tryz.prog 108 [checks l, c.av] (.bool (decide (c ∈ l))) := by
 unfold checks
 refine pure_of_tr Tryz.func108 rfl nb rfl fun E hE hP => ?_
 refine mr ?_
 refine mr ?_
 refine mBk ?_
 refine Tr.loop (fun i : Nat => (⟨[(0, .sl (l.map Check.av) false), (3, .ptr 0 [] 0), (5, .int .i64 i)], [(0, .var c.av)], 1, []⟩ : S)) (fun i => i ≤ l.length ∧ ∀ j (hj : j < l.length), j < i → l[j] ≠ c) (fun i => l.length - i) 0 ⟨Nat.zero_le _, fun _ _ h => by omega⟩ ?_ ?_
 · exact mK
 · intro i ⟨hi, hall⟩
   by_cases hlt : i < l.length
   · have e1 : decide ((i : Int) < (l.length : Int)) = true := dtO
     have ha := nth_map_lt Check.av l i hlt
     have hw := wN i
     have ff := e1
     refine mr ?_
     refine mYes ?_
     refine mT ?_
     refine mBk ?_
     cases hb : decide (l[i] = c) with
     | true =>
       have er := mem_at hlt (of_decide_eq_true hb)
       have ff := And.intro ha hb
       refine mr ?_
       refine mYes ?_
       refine mr ?_
       refine Tr.ret ?_
       simp only [er, Tryz.f108, go_sem, seval]
     | false =>
       have ff := And.intro ha hb
       refine mr ?_
       refine mNo ?_
       refine mT ?_
       refine mRd ?_
       rw [hw]
       refine mU ?_
       refine ⟨i + 1, ⟨hlt, fun j hj hjl => ?_⟩, by omega, ?_⟩
       · rcases Nat.lt_or_ge j i with h | h
         · exact hall j hj h
         · have : j = i := by omega
           subst this; exact of_decide_eq_false hb
       exact mK
   · have e1 : decide ((i : Int) < (l.length : Int)) = false := dfO
     have er := mem_no (l := l) (c := c) fun j hj => hall j hj (by omega)
     have ff := e1
     refine mr ?_
     refine mNo ?_
     refine Tr.exit ?_
     refine mU ?_
     refine mr ?_
     refine Tr.ret ?_
     simp only [er, Tryz.f108, go_sem, seval]
def cidx (l : List Check) (c : Check) : Int := match l.findIdx? (fun x => decide (c = x)) with | some i => (i : Int) | none => -1
theorem cidx_at {l : List Check} {c : Check} {i : Nat} (h : i < l.length) (hb : ∀ j (hj : j < l.length), j < i → c ≠ l[j]) (hi : c = l[i]) : cidx l c = i := by
 have : l.findIdx? (fun x => decide (c = x)) = some i := by
  rw [List.findIdx?_eq_some_iff_getElem]
  exact ⟨h, decide_eq_true hi, fun j hj => by simpa using hb j (by omega) hj⟩
 rw [cidx, this]
theorem cidx_none {l : List Check} {c : Check} (hb : ∀ j (hj : j < l.length), c ≠ l[j]) : cidx l c = -1 := by
 have : l.findIdx? (fun x => decide (c = x)) = none := by
  rw [List.findIdx?_eq_none_iff]
  intro x hx
  obtain ⟨j, hj, rfl⟩ := List.mem_iff_getElem.1 hx
  exact decide_eq_false (hb j hj)
 rw [cidx, this]
theorem cidx_mem (l : List Check) (c : Check) : decide (0 ≤ cidx l c) = decide (c ∈ l) := by
 unfold cidx
 cases h : l.findIdx? (fun x => decide (c = x)) with
 | none =>
   have := List.findIdx?_eq_none_iff.1 h
   rw [decide_eq_false (p := c ∈ l) (fun hm => by simpa using this c hm)]
   rfl
 | some i =>
   obtain ⟨h1, h2, _⟩ := List.findIdx?_eq_some_iff_getElem.1 h
   rw [mem_at h1 (of_decide_eq_true h2).symm]
   simp
theorem cindex_pure (l : List Check) (c : Check) (hl : l.length ≤ 100) : Pure Tryz.prog 128 [checks l, c.av] (.int .i64 (cidx l c)) := by
 unfold checks
 refine pure_of_tr Tryz.func128 rfl nb rfl fun E hE hP => ?_
 refine mr ?_
 refine mr ?_
 refine mBk ?_
 refine Tr.loop (fun i : Nat => (⟨[(0, .sl (l.map Check.av) false), (3, .ptr 0 [] 0), (7, .int .i64 l.length), (8, .int .i64 i)], [(0, .var c.av)], 1, []⟩ : S)) (fun i => i ≤ l.length ∧ ∀ j (hj : j < l.length), j < i → c ≠ l[j]) (fun i => l.length - i) 0 ⟨Nat.zero_le _, fun _ _ h => by omega⟩ ?_ ?_
 · exact mK
 · intro i ⟨hi, hall⟩
   by_cases hlt : i < l.length
   · have e1 : decide ((i : Int) < (l.length : Int)) = true := dtO
     have ha := nth_map_lt Check.av l i hlt
     have hw := wN i
     have ff := e1
     refine mr ?_
     refine mYes ?_
     refine mT ?_
     refine mBk ?_
     refine mr ?_
     cases hb : decide (c = l[i]) with
     | true =>
       have er := cidx_at hlt hall (of_decide_eq_true hb)
       have ff := And.intro ha hb
       refine mr ?_
       refine mYes ?_
       refine mr ?_
       refine Tr.ret ?_
       simp only [er, Tryz.f128, go_sem, seval]
     | false =>
       have ff := And.intro ha hb
       refine mr ?_
       refine mNo ?_
       refine mT ?_
       refine mRd ?_
       rw [hw]
       refine mU ?_
       refine ⟨i + 1, ⟨hlt, fun j hj hjl => ?_⟩, by omega, ?_⟩
       · rcases Nat.lt_or_ge j i with h | h
         · exact hall j hj h
         · have : j = i := by omega
           subst this; exact of_decide_eq_false hb
       exact mK
   · have e1 : decide ((i : Int) < (l.length : Int)) = false := dfO
     have er := cidx_none (l := l) (c := c) fun j hj => hall j hj (by omega)
     have ff := e1
     refine mr ?_
     refine mNo ?_
     refine Tr.exit ?_
     refine mU ?_
     refine mr ?_
     refine Tr.ret ?_
     simp only [er, Tryz.f128, go_sem, seval]
theorem ccontains_pure (l : List Check) (c : Check) (hl : l.length ≤ 100) : Pure Tryz.prog 61 [checks l, c.av] (.bool (decide (c ∈ l))) := by
 have er := cidx_mem l c
 refine pure_of_tr Tryz.func61 rfl nb rfl fun E hE hP => ?_
 refine mr ?_
 have c1 := And.intro (en Tryz.func128) (cindex_pure l c hl)
 refine mr ?_
 refine Tr.ret ?_
 simp only [er, Tryz.f61, go_sem, seval]
theorem cclone_own (l : List Check) (hl : l.length ≤ 100) : Own Tryz.prog 133 [checks l] (.ms 0 33 l.length) [(0, .row 33 (l.map Check.av))] := by
 unfold checks
 refine own_of_tr Tryz.func133 rfl nb rfl fun E hE hP => ?_
 refine mr ?_
 refine mSr ?_
 refine mO ?_
 refine ⟨fun hz c => ?_, fun hz => ?_⟩
 · have hz' : l = [] := List.eq_nil_of_length_eq_zero hz
   subst hz'
   refine vc_nil ?_
   refine Tr.cond rfl (fun hc => ?_) (fun hc => ?_)
   · refine mr ?_
     refine Tr.wk (Wk.nil 2 33 rfl) ?_
     refine Tr.ret ?_
     simp only [Tryz.f133, go_sem, seval]
     exact ⟨fun n => 64 + n, rfl, ⟨⟨rfl, rfl, rfl⟩, trivial⟩, rfl⟩
   · refine Tr.skip ?_
     simp only [thenK]
     refine mr ?_
     refine Tr.ret ?_
     simp only [Tryz.f133, go_sem, seval]
     exact ⟨fun n => 80 + n, rfl, ⟨⟨rfl, rfl, rfl⟩, trivial⟩, rfl⟩
 · refine vc_nil ?_
   refine Tr.cond rfl (fun hc => by cases hc) (fun hc => ?_)
   refine Tr.skip ?_
   simp only [thenK]
   refine mSr ?_
   refine mO ?_
   refine ⟨by omega, by omega, .inl trivial, ?_⟩
   refine mO ?_
   refine vc_nil ?_
   refine Tr.ret ?_
   simp only [Tryz.f133, go_sem, seval]
   exact ⟨fun n => 80 + n, rfl, ⟨⟨rfl, rfl, rfl⟩, trivial⟩, rfl⟩
def goB (out : List Check) (a : Link) : Bool := decide (a.s ∈ out) && !decide (a.t ∈ out)
def leftN (ls : List Link) (out : List Check) : Nat := ls.countP fun a => !decide (a.t ∈ out)
def moreN (ls : List Link) : Nat → List Check → List Check
 | 0, out => out
 | n + 1, out => match ls.find? (goB out) with
   | none => out
   | some a => moreN ls n (out ++ [a.t])
def moreF (ls : List Link) (out : List Check) : List Check := moreN ls (leftN ls out) out
def countL (t : List Node) (l : List Link) (b : List Int) : List Link := if toldR t l b then l.filter (countB t b) else []
def moreR (t : List Node) (l : List Link) (b : List Int) (js : List Check) : List Check := moreF (countL t l b) js
theorem leftN_le {ls : List Link} {out : List Check} {c : Check} : leftN ls (out ++ [c]) ≤ leftN ls out :=
 List.countP_mono_left fun a _ h => by
  simp only [List.mem_append, List.mem_singleton, Bool.not_eq_true', decide_eq_false_iff_not, not_or] at h ⊢
  exact h.1
theorem leftN_lt {ls : List Link} {out : List Check} {a : Link} (ha : a ∈ ls) (hn : a.t ∉ out) : leftN ls (out ++ [a.t]) < leftN ls out := by
 unfold leftN
 induction ls with
 | nil => cases ha
 | cons b ls ih =>
   simp only [List.countP_cons]
   have hmono : ls.countP (fun x => !decide (x.t ∈ out ++ [a.t])) ≤ ls.countP fun x => !decide (x.t ∈ out) := leftN_le
   rcases List.mem_cons.1 ha with rfl | ha
   · have e1 : (!decide (a.t ∈ out ++ [a.t])) = false := by simp
     have e2 : (!decide (a.t ∈ out)) = true := by simp [hn]
     rw [e1, e2]
     simp only [Bool.false_eq_true, if_false, if_true]
     omega
   · have := ih ha
     have h2 : (!decide (b.t ∈ out ++ [a.t])) = true → (!decide (b.t ∈ out)) = true := by
      simp only [List.mem_append, List.mem_singleton, Bool.not_eq_true', decide_eq_false_iff_not, not_or]
      exact fun h => h.1
     split
     · rename_i h
       rw [if_pos (h2 h)]
       omega
     · split <;> omega
theorem goB_spec {out : List Check} {a : Link} (h : goB out a = true) : a.s ∈ out ∧ a.t ∉ out := by
 simp only [goB, Bool.and_eq_true, decide_eq_true_eq, Bool.not_eq_true', decide_eq_false_iff_not] at h
 exact h
theorem moreN_fuel (ls : List Link) : ∀ (n m : Nat) (out : List Check), leftN ls out ≤ n → leftN ls out ≤ m → moreN ls n out = moreN ls m out
 | 0, 0, _, _, _ => rfl
 | 0, m + 1, out, h, _ => by
   rw [moreN, moreN]
   cases hf : ls.find? (goB out) with
   | none => rfl
   | some a =>
     have ha := List.mem_of_find?_eq_some hf
     have hg := goB_spec (List.find?_some hf)
     have := leftN_lt ha hg.2
     omega
 | n + 1, 0, out, _, h => by
   rw [moreN, moreN]
   cases hf : ls.find? (goB out) with
   | none => rfl
   | some a =>
     have ha := List.mem_of_find?_eq_some hf
     have hg := goB_spec (List.find?_some hf)
     have := leftN_lt ha hg.2
     omega
 | n + 1, m + 1, out, h1, h2 => by
   rw [moreN, moreN]
   cases hf : ls.find? (goB out) with
   | none => rfl
   | some a =>
     have ha := List.mem_of_find?_eq_some hf
     have hg := goB_spec (List.find?_some hf)
     have := leftN_lt ha hg.2
     exact moreN_fuel ls n m _ (by omega) (by omega)
theorem moreF_none {ls : List Link} {out : List Check} (h : ls.find? (goB out) = none) : moreF ls out = out := by
 unfold moreF
 cases hn : leftN ls out with
 | zero => rfl
 | succ n => rw [moreN, h]
theorem moreF_some {ls : List Link} {out : List Check} {a : Link} (h : ls.find? (goB out) = some a) : moreF ls out = moreF ls (out ++ [a.t]) ∧ leftN ls (out ++ [a.t]) < leftN ls out := by
 have ha := List.mem_of_find?_eq_some h
 have hg := goB_spec (List.find?_some h)
 have hlt := leftN_lt ha hg.2
 refine ⟨?_, hlt⟩
 unfold moreF
 obtain ⟨n, hn⟩ : ∃ n, leftN ls out = n + 1 := ⟨leftN ls out - 1, by omega⟩
 rw [hn, moreN, h]
 exact moreN_fuel ls _ _ _ (by omega) (Nat.le_refl _)
def pickB (t : List Node) (b : List Int) (out : List Check) (a : Link) : Bool := countB t b a && goB out a
def firstI (t : List Node) (l : List Link) (b : List Int) (out : List Check) : Int := match l.findIdx? (pickB t b out) with | some i => (i : Int) | none => -1
theorem firstI_at {t : List Node} {l : List Link} {b : List Int} {out : List Check} {i : Nat} (h : i < l.length) (hb : ∀ j (hj : j < l.length), j < i → pickB t b out l[j] = false) (hi : pickB t b out l[i] = true) : firstI t l b out = i := by
 have : l.findIdx? (pickB t b out) = some i := by
  rw [List.findIdx?_eq_some_iff_getElem]
  exact ⟨h, hi, fun j hj => by rw [hb j (by omega) hj]; simp⟩
 rw [firstI, this]
theorem firstI_none {t : List Node} {l : List Link} {b : List Int} {out : List Check} (hb : ∀ j (hj : j < l.length), pickB t b out l[j] = false) : firstI t l b out = -1 := by
 have : l.findIdx? (pickB t b out) = none := by
  rw [List.findIdx?_eq_none_iff]
  intro x hx
  obtain ⟨j, hj, rfl⟩ := List.mem_iff_getElem.1 hx
  exact hb j hj
 rw [firstI, this]
theorem firstI_law (t : List Node) (l : List Link) (b : List Int) (out : List Check) : (firstI t l b out = -1 ∧ (l.filter (countB t b)).find? (goB out) = none) ∨ ∃ i : Nat, ∃ h : i < l.length, firstI t l b out = i ∧ (l.filter (countB t b)).find? (goB out) = some l[i] := by
 rw [List.find?_filter]
 have e : (fun a => decide (countB t b a = true ∧ goB out a = true)) = pickB t b out := by
  funext a
  unfold pickB
  cases countB t b a <;> cases goB out a <;> rfl
 rw [e]
 unfold firstI
 cases h : l.findIdx? (pickB t b out) with
 | none =>
   left
   refine ⟨rfl, ?_⟩
   rw [List.find?_eq_none]
   intro x hx
   have := List.findIdx?_eq_none_iff.1 h x hx
   simp [this]
 | some i =>
   right
   obtain ⟨h1, h2, h3⟩ := List.findIdx?_eq_some_iff_getElem.1 h
   refine ⟨i, h1, rfl, ?_⟩
   rw [List.find?_eq_some_iff_getElem]
   exact ⟨h2, i, h1, rfl, fun j hj => by have := h3 j hj; simpa using this⟩
theorem first_pure (t : List Node) (l : List Link) (b : List Int) (out : List Check) (ht : t.length ≤ 100) (hl : l.length ≤ 100) (hbl : b.length ≤ 9223372036854775807) (ho : out.length ≤ 100) (hb : okB b) (hk : okL l) : Pure Tryz.prog 182 [tav t, links l, u64s b, checks out] (.int .i64 (firstI t l b out)) := by
 unfold links
 refine pure_of_tr Tryz.func182 rfl nb rfl fun E hE hP => ?_
 refine mr ?_
 refine mr ?_
 refine mBk ?_
 refine Tr.loop (fun i : Nat => (⟨[(1, .sl (l.map Link.av) false), (2, u64s b), (3, checks out), (4, .ptr 0 [] 0), (9, .int .i64 i)], [(0, .var (tav t))], 1, []⟩ : S)) (fun i => i ≤ l.length ∧ ∀ j (hj : j < l.length), j < i → pickB t b out l[j] = false) (fun i => l.length - i) 0 ⟨Nat.zero_le _, fun _ _ h => by omega⟩ ?_ ?_
 · exact mK
 · intro i ⟨hi, hall⟩
   by_cases hlt : i < l.length
   · have e1 : decide ((i : Int) < (l.length : Int)) = true := dtO
     have ha := nth_map_lt Link.av l i hlt
     have hw := wN i
     have c1 := refcounts_pure t l[i] b ht hbl hb (hk _ (List.getElem_mem hlt))
     have c2 := has_pure out l[i].s ho
     have c3 := has_pure out l[i].t ho
     have hpb : pickB t b out l[i] = (countB t b l[i] && (decide (l[i].s ∈ out) && !decide (l[i].t ∈ out))) := rfl
     have hno : pickB t b out l[i] = false → ∀ j (hj : j < l.length), j < i + 1 → pickB t b out l[j] = false := fun hp j hj hjl => by
      rcases Nat.lt_or_ge j i with h | h
      · exact hall j hj h
      · have : j = i := by omega
        subst this; exact hp
     have hyes := firstI_at hlt hall
     generalize l[i] = a at ha c1 c2 c3 hpb hno hyes
     have ff := e1
     refine mr ?_
     refine mYes ?_
     refine mT ?_
     refine mBk ?_
     generalize countB t b a = x1 at c1 hpb
     generalize decide (a.s ∈ out) = x2 at c2 hpb
     generalize decide (a.t ∈ out) = x3 at c3 hpb
     have ff := ha
     have c1' := c1
     have c1 := And.intro (en Tryz.func223) (c1')
     refine mr ?_
     have ff := ha
     have c1 := And.intro (en Tryz.func108) (c2)
     refine mr ?_
     have ff := ha
     have c1 := And.intro (en Tryz.func108) (c3)
     refine mr ?_
     cases hp : pickB t b out a with
     | true =>
       have er := hyes hp
       obtain ⟨rfl, rfl, rfl⟩ : x1 = true ∧ x2 = true ∧ x3 = false := by
        rw [hp] at hpb
        revert hpb
        cases x1 <;> cases x2 <;> cases x3 <;> simp
       refine mr ?_
       refine mYes ?_
       refine mr ?_
       refine Tr.ret ?_
       simp only [er, Tryz.f182, go_sem, seval]
     | false =>
       have hf : (x1 && (x2 && !x3)) = false := by rw [← hpb]; exact hp
       have hno := hno hp
       cases x1
       · refine mr ?_
         refine mNo ?_
         refine mT ?_
         refine mRd ?_
         rw [hw]
         refine mU ?_
         refine ⟨i + 1, ⟨hlt, hno⟩, by omega, ?_⟩
         exact mK
       · cases x2
         · refine mr ?_
           refine mNo ?_
           refine mT ?_
           refine mRd ?_
           rw [hw]
           refine mU ?_
           refine ⟨i + 1, ⟨hlt, hno⟩, by omega, ?_⟩
           exact mK
         · cases x3
           · cases hf
           · refine mr ?_
             refine mNo ?_
             refine mT ?_
             refine mRd ?_
             rw [hw]
             refine mU ?_
             refine ⟨i + 1, ⟨hlt, hno⟩, by omega, ?_⟩
             exact mK
   · have e1 : decide ((i : Int) < (l.length : Int)) = false := dfO
     have er := firstI_none (t := t) (l := l) (b := b) (out := out) fun j hj => hall j hj (by omega)
     have ff := e1
     refine mr ?_
     refine mNo ?_
     refine Tr.exit ?_
     refine mU ?_
     refine mr ?_
     refine Tr.ret ?_
     simp only [er, Tryz.f182, go_sem, seval]
theorem moreR_not {t : List Node} {l : List Link} {b : List Int} {js : List Check} (h : toldR t l b = false) : moreR t l b js = js := by
 unfold moreR countL
 rw [if_neg (by simp [h])]
 exact moreF_none rfl
theorem moreR_told {t : List Node} {l : List Link} {b : List Int} {js : List Check} (h : toldR t l b = true) : moreR t l b js = moreF (l.filter (countB t b)) js := by
 unfold moreR countL
 rw [if_pos h]
theorem leftN_len (ls : List Link) (out : List Check) : leftN ls out ≤ ls.length := List.countP_le_length
def stM (t : List Node) (l : List Link) (b : List Int) (out : List Check) : S where
 fr := [(1, .sl (l.map Link.av) false), (2, u64s b), (4, .ptr 0 [] 0), (9, .ms 16 33 out.length), (11, .int .i64 (firstI t l b out))]
 hp := [(0, .var (tav t)), (16, .row 33 (out.map Check.av))]
 nx := 17
theorem refmore_pure (t : List Node) (l : List Link) (b : List Int) (js : List Check) (ht : t.length ≤ 100) (hl : l.length ≤ 40) (hbl : b.length ≤ 9223372036854775807) (hj : js.length ≤ 40) (hb : okB b) (hk : okL l) : Pure Tryz.prog 110 [tav t, links l, u64s b, checks js] (checks (moreR t l b js)) := by
 have h1 := reftold_pure t l b ht (by omega) hbl hk
 unfold checks
 refine pure_of_tr Tryz.func110 rfl nb rfl fun E hE hP => ?_
 refine mr ?_
 refine mSr ?_
 refine mO ?_
 refine ⟨by omega, by omega, .inl trivial, ?_⟩
 refine mO ?_
 refine vc_nil ?_
 cases h : toldR t l b with
 | false =>
   have er := moreR_not (js := js) h
   rw [h] at h1
   have c1 := And.intro (en Tryz.func181) (h1)
   refine mr ?_
   refine mr ?_
   refine mYes ?_
   refine mr ?_
   have hlen : js.length = (js.map Check.av).length := by simp
   refine Tr.ret ?_
   simp only [er, ← hlen, Tryz.f110, go_sem, seval]
 | true =>
   have er := moreR_told (js := js) h
   rw [h] at h1
   have hf := first_pure t l b js ht (by omega) hbl (by omega) hb hk
   have c1 := And.intro (en Tryz.func181) (h1)
   refine mr ?_
   refine mr ?_
   refine mNot ?_
   refine mT ?_
   first | apply tr_m xE | (refine Tr.seq ?_; apply tr_m xE)
   intro Q hQ
   refine mS ?_
   iterate 4 refine mV ?_
   refine vm_op ?_; intro r hr; simp only [go_sem, seval]
   refine call_fn rfl rfl rfl rfl (en Tryz.func182) (hf) (by (simp only [checks, List.length_map, go_sem, seval]) <;> rfl) rfl rfl ?_
   refine mS ?_
   subst hr
   refine mV ?_
   exact hQ
   refine mBk ?_
   refine Tr.loop (stM t l b) (fun out => moreF (l.filter (countB t b)) out = moreF (l.filter (countB t b)) js ∧ out.length + leftN (l.filter (countB t b)) out ≤ 80) (fun out => leftN (l.filter (countB t b)) out) js ⟨rfl, ?_⟩ ?_ ?_
   · have h1 := leftN_len (l.filter (countB t b)) js
     have h2 : (l.filter (countB t b)).length ≤ l.length := List.length_filter_le _ _
     omega
   · refine wk_ren (fun | 16 => 48 | n => n) mB mB rfl rfl rfl
   · intro out ⟨hsame, hlen⟩
     unfold stM
     rcases firstI_law t l b out with ⟨hi, hn⟩ | ⟨i, hil, hi, hn⟩
     · have er2 := moreF_none hn
       rw [hi]
       have e1 : decide ((0 : Int) ≤ -1) = false := rfl
       have ff := e1
       refine mr ?_
       refine mNo ?_
       refine Tr.exit ?_
       refine mU ?_
       rw [er, ← hsame, er2]
       refine mr ?_
       have hlen : out.length = (out.map Check.av).length := by simp
       refine Tr.ret ?_
       simp only [← hlen, Tryz.f110, go_sem, seval]
     · obtain ⟨hs, hlt⟩ := moreF_some hn
       rw [hi]
       have e1 : decide ((0 : Int) ≤ (i : Int)) = true := dtO
       have ha := nth_map_lt Link.av l i hil
       generalize l[i] = a at ha hs hlt
       have hf := first_pure t l b (out ++ [a.t]) ht (by omega) hbl (by simp; omega) hb hk
       have ff := e1
       refine mr ?_
       refine mYes ?_
       refine mT ?_
       refine mBk ?_
       first | apply tr_m xE | (refine Tr.seq ?_; apply tr_m xE)
       intro Q hQ
       refine mS ?_
       iterate 7 (refine vm_op ?_; intro r hr; simp only [ha, go_sem, seval]; subst hr)
       refine vm_op ?_; intro r hr; simp only [ha, go_sem, seval]
       refine ⟨by omega, by omega, ?_⟩
       simp only [fB, go_sem, seval]
       subst hr
       refine mV ?_
       exact hQ
       apply tr_ml xE
       intro Q hQ
       refine mS ?_
       iterate 4 refine mV ?_
       refine vm_op ?_; intro r hr; simp only [go_sem, seval]
       refine call_fn rfl rfl rfl rfl (en Tryz.func182) (hf) (by (simp only [checks, List.map_append, List.map_cons, List.map_nil, List.length_append, List.length_singleton, List.length_map, eq_self, go_sem, seval]) <;> rfl) rfl rfl ?_
       refine mS ?_
       subst hr
       refine mV ?_
       exact hQ
       refine mU ?_
       refine ⟨out ++ [a.t], ⟨hs.symm.trans hsame, by simp only [List.length_append, List.length_singleton]; omega⟩, hlt, ?_⟩
       simp only [stM, List.map_append, List.length_append, List.length_singleton, List.map_cons, List.map_nil]
       refine wk_ren (fun | 16 => 161 | n => n) mB mB rfl rfl rfl
end Go.Proofs.YtgnidooihignfaaGreatDoor
