/- The law of blocks: plain facts, the reference's equality. -/
import Derived.Test.YtgnidooihignfaaGreatDoorP7
set_option linter.unusedSimpArgs false
set_option maxRecDepth 10000
namespace Go.Proofs.YtgnidooihignfaaGreatDoor
open Go Go.Ab

@[go_sem] theorem beql4 (a b : Bool) (K : AV → Prop) : binK Tryz.prog .eql 4 (.bool a) (.bool b) K = K (.bool (decide (a = b))) :=
  bin_eql_of (fun _ _ h => by cases h) (fun _ h => by cases h) (by kernel_rfl) (by kernel_rfl) (Nat.le_of_ble_eq_true rfl) (by kernel_rfl) (by cases a <;> cases b <;> rfl) K
def lputR (l : List Att) (a : Att) : List Att × Int := if lmayA l = false ∨ isFar a = true then (l, 1) else if l.length = 6 then (l, 3) else (l ++ [a], 0)
theorem lput_no (l : List Att) (a : Att) (i : Int) (hl : l.length ≤ 1000) (h : (lmayA l = false ∨ isFar a = true) ∧ i = 1 ∨ (lmayA l = true ∧ isFar a = false ∧ l.length = 6) ∧ i = 3) : Cal Tryz.prog 168 [atts l, a.av] (.tup [atts l, .int .i64 i]) := by
  have o1 := aclone_c l hl
  have c1 := lmay_c l
  have c2 := far_c a
  rcases h with ⟨h, rfl⟩ | ⟨⟨h1, h2, h3⟩, rfl⟩
  · cases h1 : lmayA l
    · rw [h1] at c1
      have hR : Tryz.f168.results.toList = [.tmp 4, .tmp 5] := rfl
      refine cal_tr Tryz.func168 rfl fun E hE hP => ?_
      refine mr ?_
      refine mr ?_
      exact mX
    · rw [h1] at c1
      rw [h.resolve_left (by rw [h1]; decide)] at c2
      have hR : Tryz.f168.results.toList = [.tmp 4, .tmp 5] := rfl
      refine cal_tr Tryz.func168 rfl fun E hE hP => ?_
      refine mr ?_
      refine mr ?_
      exact mX
  · have e1 : decide ((l.length : Int) = 6) = true := decide_eq_true (by omega)
    rw [h1] at c1
    rw [h2] at c2
    have ff := e1
    have hR : Tryz.f168.results.toList = [.tmp 4, .tmp 5] := rfl
    refine cal_tr Tryz.func168 rfl fun E hE hP => ?_
    refine mr ?_
    refine mr ?_
    exact mX
theorem lput_ok (l : List Att) (a : Att) (hl : l.length ≤ 1000) (h1 : lmayA l = true) (h2 : isFar a = false) (h3 : l.length ≠ 6) : Cal Tryz.prog 168 [atts l, a.av] (.tup [atts (l ++ [a]), .int .i64 0]) := by
  have o1 := aclone_c l hl
  have c1 := lmay_c l
  have c2 := far_c a
  have e1 : decide ((l.length : Int) = 6) = false := decide_eq_false (by omega)
  rw [h1] at c1
  rw [h2] at c2
  have ff := e1
  have hma : List.map Att.av l ++ [a.av] = List.map Att.av (l ++ [a]) := by rw [List.map_append]; rfl
  have hlen : (List.map Att.av (l ++ [a])).length = l.length + 1 := by rw [List.length_map, List.length_append]; rfl
  have hR : Tryz.f168.results.toList = [.tmp 4, .tmp 5] := rfl
  refine cal_tr Tryz.func168 rfl fun E hE hP => ?_
  refine mW ?_
  refine Tr.ret ?_
  simp only [hR, hma, hlen, List.filter_cons, List.filter_nil, Bool.not_false, Bool.not_true, if_true, Bool.false_eq_true, if_false, go_sem, seval]
theorem lput_c (l : List Att) (a : Att) (hl : l.length ≤ 1000) : Cal Tryz.prog 168 [atts l, a.av] (.tup [atts (lputR l a).1, .int .i64 (lputR l a).2]) := by
  unfold lputR
  split
  · next h => exact lput_no l a 1 hl (.inl ⟨h, rfl⟩)
  · next h =>
    rw [not_or] at h
    split
    · next h3 => exact lput_no l a 3 hl (.inr ⟨⟨by simpa using h.1, by simpa using h.2, h3⟩, rfl⟩)
    · next h3 => exact lput_ok l a hl (by simpa using h.1) (by simpa using h.2) h3

theorem due1_c (a : Att) (n : Int) : Cal Tryz.prog 208 [a.av, .ref (.int .u64 n)] (.bool (decide (a.slot < n))) := by
  have hR : Tryz.f208.results.toList = [.tmp 3] := rfl
  refine cal_tr Tryz.func208 rfl fun E hE hP => ?_
  exact mX
def dueB (n : Int) (a : Att) : Bool := decide (a.slot < n)
def dueR (l : List Att) (n : Int) : List Att := l.filter (dueB n)
def restR (l : List Att) (n : Int) : List Att := l.filter fun a => !dueB n a
theorem filter_next {p : Att → Bool} {l : List Att} {i : Nat} (h : i < l.length) : (l.take (i + 1)).filter p = (l.take i).filter p ++ (if p l[i] then [l[i]] else []) := by
  rw [List.take_add_one, List.getElem?_eq_getElem h, Option.toList_some, List.filter_append]
  cases hp : p l[i] <;> simp [hp]
def aav (l : List Att) : List AV := l.map Att.av
@[go_sem] theorem aav_len (l : List Att) : (aav l).length = l.length := by simp [aav]
theorem aav_app (l k : List Att) : aav (l ++ k) = aav l ++ aav k := List.map_append
@[go_sem] theorem aav_lens (l : List Att) (n : Nat) : (∀ z ∈ aav l, z.len = n) = ∀ a ∈ l, 100 = n := by
  unfold aav
  rw [List.forall_mem_map]
  rfl
theorem part_c (l : List Att) (n : Int) (hl : l.length ≤ 1000) : Cal Tryz.prog 207 [atts l, .fn (.func 208) [] [.ref (.int .u64 n)]] (.tup [atts (dueR l n), atts (restR l n)]) := by
  have hR : Tryz.f207.results.toList = [.tmp 4, .tmp 5] := rfl
  refine cal_tr Tryz.func207 rfl fun E hE hP => ?_
  refine mW ?_
  refine Tr.wk (Wk.nil 6 100 rfl) ?_
  refine Tr.wk (Wk.nil 7 100 rfl) ?_
  refine Tr.loop (fun i : Nat => (⟨[(1, .fn (.func 208) [] [.ref (.int .u64 n)]), (6, .ms 0 100 (dueR (l.take i) n).length), (7, .ms 1 100 (restR (l.take i) n).length), (10, .sl (l.map Att.av) false), (11, .int .i64 l.length), (12, .int .i64 i)], [(0, .row 100 (aav (dueR (l.take i) n))), (1, .row 100 (aav (restR (l.take i) n)))], 2, []⟩ : S)) (fun i => i ≤ l.length) (fun i => l.length - i) 0 (Nat.zero_le _) ?_ ?_
  · refine wk_ren (fun | 0 => 112 | 1 => 113 | n => n) mB mB rfl rfl rfl
  · intro i hi
    have b1 : (dueR (l.take i) n).length ≤ 1000 := by
      have h1 := List.length_filter_le (dueB n) (l.take i)
      rw [List.length_take] at h1
      unfold dueR
      omega
    have b2 : (restR (l.take i) n).length ≤ 1000 := by
      have h1 := List.length_filter_le (fun a => !dueB n a) (l.take i)
      rw [List.length_take] at h1
      unfold restR
      omega
    by_cases hlt : i < l.length
    · have e1 : decide ((i : Int) < (l.length : Int)) = true := decide_eq_true (by omega)
      have hn := nth_map_lt Att.av l i hlt
      have hw := wrap_next (n := i) (by omega)
      have c1 := due1_c l[i] n
      have n1 : dueR (l.take (i + 1)) n = dueR (l.take i) n ++ (if dueB n l[i] then [l[i]] else []) := filter_next hlt
      have n2 : restR (l.take (i + 1)) n = restR (l.take i) n ++ (if !dueB n l[i] then [l[i]] else []) := filter_next hlt
      have hd : dueB n l[i] = decide (l[i].slot < n) := rfl
      cases hb : dueB n l[i]
      · rw [hd] at hb
        rw [hb] at c1
        rw [hd, hb, if_neg (by decide), List.append_nil] at n1
        rw [hd, hb, if_pos (by decide)] at n2
        generalize dueR (l.take i) n = L at n1 b1
        generalize restR (l.take i) n = K at n2 b2
        generalize l[i] = a at hn c1 n2
        have ff := And.intro e1 (And.intro hn hw)
        refine mW ?_
        refine ⟨i + 1, hlt, by omega, ?_⟩
        rw [n1, n2, List.length_append, List.length_singleton, aav_app]
        refine wk_ren (fun | 1 => 178 | n => n) mB mB rfl rfl rfl
      · rw [hd] at hb
        rw [hb] at c1
        rw [hd, hb, if_pos (by decide)] at n1
        rw [hd, hb, if_neg (by decide), List.append_nil] at n2
        generalize dueR (l.take i) n = L at n1 b1
        generalize restR (l.take i) n = K at n2 b2
        generalize l[i] = a at hn c1 n1
        have ff := And.intro e1 (And.intro hn hw)
        refine mW ?_
        refine ⟨i + 1, hlt, by omega, ?_⟩
        rw [n1, n2, List.length_append, List.length_singleton, aav_app]
        refine wk_ren (fun | 0 => 178 | n => n) mB mB rfl rfl rfl
    · have e1 : decide ((i : Int) < (l.length : Int)) = false := decide_eq_false (by omega)
      have hil : i = l.length := by omega
      subst hil
      rw [List.take_length] at b1 b2 ⊢
      generalize dueR l n = L at b1 ⊢
      generalize restR l n = K at b2 ⊢
      have ff := e1
      exact mX
theorem due_c (l : List Att) (n : Int) (hl : l.length ≤ 1000) : Cal Tryz.prog 154 [atts l, .int .u64 n] (.tup [atts (dueR l n), atts (restR l n)]) := by
  have c1 := part_c l n hl
  have hR : Tryz.f154.results.toList = [.tmp 4, .tmp 5] := rfl
  refine cal_tr Tryz.func154 rfl fun E hE hP => ?_
  exact mX

def orU (a b : Int) : Int := bitsI .or .u64 a b
def kputR (l : List Link) (s t : Check) (v : Int) : List Link × Int :=
  if lmayB l = false then (l, 1) else if v < 0 ∨ 8 ≤ v then (l, 10) else if t.epoch ≤ s.epoch then (l, 9) else
    match llook (places l) ⟨s, t⟩ with
    | some i => (l.set i { l.getD i zLink with mask := orU (l.getD i zLink).mask (bit v) }, 0)
    | none => if l.length = 16 then (l, 3) else (l ++ [⟨s, t, bit v⟩], 0)
theorem kput_1 (l : List Link) (s t : Check) (v : Int) (hl : l.length ≤ 100) (h1 : lmayB l = false) : Cal Tryz.prog 209 [links l, s.av, t.av, .int .i64 v] (.tup [links l, .int .i64 1]) := by
  have o1 := kclone_c l (by omega)
  have c1 := And.intro (enters_of Tryz.func60 (by kernel_rfl) rfl) (LMay_pure l)
  have o2 : CalO Tryz.prog 127 [.sl (l.map Link.av) false] (.mp 0) [(0, .amap ((places l).map lentE))] := And.intro (enters_of Tryz.func127 (by kernel_rfl) rfl) (places_own l (by omega))
  have c2 := And.intro (enters_of Tryz.func190 (by kernel_rfl) rfl) (bit_pure v)
  rw [h1] at c1
  have hR : Tryz.f209.results.toList = [.tmp 8, .tmp 9] := rfl
  refine cal_tr Tryz.func209 rfl fun E hE hP => ?_
  exact mX
theorem kput_10 (l : List Link) (s t : Check) (v : Int) (hl : l.length ≤ 100) (h1 : lmayB l = true) (h2 : v < 0 ∨ 8 ≤ v) : Cal Tryz.prog 209 [links l, s.av, t.av, .int .i64 v] (.tup [links l, .int .i64 10]) := by
  have o1 := kclone_c l (by omega)
  have c1 := And.intro (enters_of Tryz.func60 (by kernel_rfl) rfl) (LMay_pure l)
  have o2 : CalO Tryz.prog 127 [.sl (l.map Link.av) false] (.mp 0) [(0, .amap ((places l).map lentE))] := And.intro (enters_of Tryz.func127 (by kernel_rfl) rfl) (places_own l (by omega))
  have c2 := And.intro (enters_of Tryz.func190 (by kernel_rfl) rfl) (bit_pure v)
  rw [h1] at c1
  by_cases h0 : v < 0
  · have e0 : decide (v < 0) = true := decide_eq_true h0
    have ff := e0
    have hR : Tryz.f209.results.toList = [.tmp 8, .tmp 9] := rfl
    refine cal_tr Tryz.func209 rfl fun E hE hP => ?_
    exact mX
  · have e0 : decide (v < 0) = false := decide_eq_false h0
    have e1 : decide (8 ≤ v) = true := decide_eq_true (by omega)
    have ff := And.intro e0 e1
    have hR : Tryz.f209.results.toList = [.tmp 8, .tmp 9] := rfl
    refine cal_tr Tryz.func209 rfl fun E hE hP => ?_
    exact mX
theorem kput_9 (l : List Link) (s t : Check) (v : Int) (hl : l.length ≤ 100) (h1 : lmayB l = true) (h2 : ¬ (v < 0 ∨ 8 ≤ v)) (h3 : t.epoch ≤ s.epoch) : Cal Tryz.prog 209 [links l, s.av, t.av, .int .i64 v] (.tup [links l, .int .i64 9]) := by
  have o1 := kclone_c l (by omega)
  have c1 := And.intro (enters_of Tryz.func60 (by kernel_rfl) rfl) (LMay_pure l)
  have o2 : CalO Tryz.prog 127 [.sl (l.map Link.av) false] (.mp 0) [(0, .amap ((places l).map lentE))] := And.intro (enters_of Tryz.func127 (by kernel_rfl) rfl) (places_own l (by omega))
  have c2 := And.intro (enters_of Tryz.func190 (by kernel_rfl) rfl) (bit_pure v)
  rw [h1] at c1
  have e0 : decide (v < 0) = false := decide_eq_false (by omega)
  have e1 : decide (8 ≤ v) = false := decide_eq_false (by omega)
  have e2 : decide (t.epoch ≤ s.epoch) = true := decide_eq_true h3
  have ff := And.intro e0 (And.intro e1 e2)
  have hR : Tryz.f209.results.toList = [.tmp 8, .tmp 9] := rfl
  refine cal_tr Tryz.func209 rfl fun E hE hP => ?_
  exact mX
theorem kput_3 (l : List Link) (s t : Check) (v : Int) (hl : l.length ≤ 100) (h1 : lmayB l = true) (h2 : ¬ (v < 0 ∨ 8 ≤ v)) (h3 : ¬ t.epoch ≤ s.epoch) (hk : llook (places l) ⟨s, t⟩ = none) (h4 : l.length = 16) : Cal Tryz.prog 209 [links l, s.av, t.av, .int .i64 v] (.tup [links l, .int .i64 3]) := by
  have o1 := kclone_c l (by omega)
  have c1 := And.intro (enters_of Tryz.func60 (by kernel_rfl) rfl) (LMay_pure l)
  have o2 : CalO Tryz.prog 127 [.sl (l.map Link.av) false] (.mp 0) [(0, .amap ((places l).map lentE))] := And.intro (enters_of Tryz.func127 (by kernel_rfl) rfl) (places_own l (by omega))
  have c2 := And.intro (enters_of Tryz.func190 (by kernel_rfl) rfl) (bit_pure v)
  rw [h1] at c1
  have e0 : decide (v < 0) = false := decide_eq_false (by omega)
  have e1 : decide (8 ≤ v) = false := decide_eq_false (by omega)
  have e2 : decide (t.epoch ≤ s.epoch) = false := decide_eq_false h3
  have e3 : decide ((l.length : Int) = 16) = true := decide_eq_true (by omega)
  have ff := And.intro e0 (And.intro e1 (And.intro e2 e3))
  have hR : Tryz.f209.results.toList = [.tmp 8, .tmp 9] := rfl
  refine cal_tr Tryz.func209 rfl fun E hE hP => ?_
  refine mW ?_
  first | apply tr_md mixed _ (keepAll _) (by rw [hE]; rfl) (by kernel_rfl) | (refine Tr.seq ?_; apply tr_md mixed _ (keepAll _) (by rw [hE]; rfl) (by kernel_rfl))
  intro Q hQ
  simp only [go_sem, seval]
  (refine vd2_q rfl ?_); intro r hr; simp only [Option.getD_none, Option.isSome_none, go_sem, seval]; subst hr
  (refine vd2_x rfl ?_); intro r hr; simp only [Option.getD_none, Option.isSome_none, go_sem, seval]
  refine call_own rfl rfl rfl rfl (enters_of Tryz.func127 (by kernel_rfl) rfl) (o2.2) rfl rfl ?_
  simp only [go_sem, seval]
  try simp only [Option.getD_none, Option.isSome_none, go_sem, seval]
  subst hr
  iterate 3 ((refine vd2_q rfl ?_); intro r hr; simp only [Option.getD_none, Option.isSome_none, go_sem, seval]; subst hr)
  (refine vd2_x rfl ?_); intro r hr; simp only [Option.getD_none, Option.isSome_none, go_sem, seval]
  refine look64 rfl ?_; rw [hk]
  try simp only [Option.getD_none, Option.isSome_none, go_sem, seval]
  subst hr
  iterate 5 ((refine vd2_q rfl ?_); intro r hr; simp only [Option.getD_none, Option.isSome_none, go_sem, seval]; subst hr)
  exact hQ
  exact mX
theorem kput_0 (l : List Link) (s t : Check) (v : Int) (hl : l.length ≤ 100) (h1 : lmayB l = true) (h2 : ¬ (v < 0 ∨ 8 ≤ v)) (h3 : ¬ t.epoch ≤ s.epoch) (hk : llook (places l) ⟨s, t⟩ = none) (h4 : l.length ≠ 16) : Cal Tryz.prog 209 [links l, s.av, t.av, .int .i64 v] (.tup [links (l ++ [⟨s, t, bit v⟩]), .int .i64 0]) := by
  have o1 := kclone_c l (by omega)
  have c1 := And.intro (enters_of Tryz.func60 (by kernel_rfl) rfl) (LMay_pure l)
  have o2 : CalO Tryz.prog 127 [.sl (l.map Link.av) false] (.mp 0) [(0, .amap ((places l).map lentE))] := And.intro (enters_of Tryz.func127 (by kernel_rfl) rfl) (places_own l (by omega))
  have c2 := And.intro (enters_of Tryz.func190 (by kernel_rfl) rfl) (bit_pure v)
  rw [h1] at c1
  have e0 : decide (v < 0) = false := decide_eq_false (by omega)
  have e1 : decide (8 ≤ v) = false := decide_eq_false (by omega)
  have e2 : decide (t.epoch ≤ s.epoch) = false := decide_eq_false h3
  have e3 : decide ((l.length : Int) = 16) = false := decide_eq_false (by omega)
  have ff := And.intro e0 (And.intro e1 (And.intro e2 e3))
  have hma : List.map Link.av l ++ [(Link.mk s t (bit v)).av] = List.map Link.av (l ++ [⟨s, t, bit v⟩]) := by rw [List.map_append]; rfl
  have hR : Tryz.f209.results.toList = [.tmp 8, .tmp 9] := rfl
  refine cal_tr Tryz.func209 rfl fun E hE hP => ?_
  refine mW ?_
  first | apply tr_md mixed _ (keepAll _) (by rw [hE]; rfl) (by kernel_rfl) | (refine Tr.seq ?_; apply tr_md mixed _ (keepAll _) (by rw [hE]; rfl) (by kernel_rfl))
  intro Q hQ
  simp only [go_sem, seval]
  (refine vd2_q rfl ?_); intro r hr; simp only [Option.getD_none, Option.isSome_none, go_sem, seval]; subst hr
  (refine vd2_x rfl ?_); intro r hr; simp only [Option.getD_none, Option.isSome_none, go_sem, seval]
  refine call_own rfl rfl rfl rfl (enters_of Tryz.func127 (by kernel_rfl) rfl) (o2.2) rfl rfl ?_
  simp only [go_sem, seval]
  try simp only [Option.getD_none, Option.isSome_none, go_sem, seval]
  subst hr
  iterate 3 ((refine vd2_q rfl ?_); intro r hr; simp only [Option.getD_none, Option.isSome_none, go_sem, seval]; subst hr)
  (refine vd2_x rfl ?_); intro r hr; simp only [Option.getD_none, Option.isSome_none, go_sem, seval]
  refine look64 rfl ?_; rw [hk]
  try simp only [Option.getD_none, Option.isSome_none, go_sem, seval]
  subst hr
  iterate 5 ((refine vd2_q rfl ?_); intro r hr; simp only [Option.getD_none, Option.isSome_none, go_sem, seval]; subst hr)
  exact hQ
  refine mW ?_
  first | refine tr_seq_drawn mixed [0, 16] rfl (by rw [hE]; rfl) (by kernel_rfl) ?_ | (refine Tr.seq ?_; refine tr_seq_drawn mixed [0, 16] rfl (by rw [hE]; rfl) (by kernel_rfl) ?_)
  iterate 4 refine vQ ?_
  refine vd_x rfl rfl ?_; simp only [List.filter_cons, List.filter_nil, Bool.not_false, Bool.not_true, if_true, Bool.false_eq_true, if_false, go_sem, seval]
  refine call_fn rfl rfl rfl rfl (enters_of Tryz.func190 (by kernel_rfl) rfl) (c2.2) rfl rfl rfl ?_
  simp only [go_sem, seval]
  iterate 2 refine vQ ?_
  refine vd_x rfl rfl ?_; simp only [List.filter_cons, List.filter_nil, Bool.not_false, Bool.not_true, if_true, Bool.false_eq_true, if_false, go_sem, seval]
  refine ⟨by omega, by omega, ?_⟩
  try simp only [List.filter_cons, List.filter_nil, Bool.not_false, Bool.not_true, if_true, Bool.false_eq_true, if_false, go_sem, seval]
  iterate 2 refine vQ ?_
  refine vd_nil ?_
  refine Tr.ret ?_
  simp only [hR, hma, List.filter_cons, List.filter_nil, Bool.not_false, Bool.not_true, if_true, Bool.false_eq_true, if_false, go_sem, seval]
theorem kput_s (l : List Link) (s t : Check) (v : Int) (hl : l.length ≤ 100) (h1 : lmayB l = true) (h2 : ¬ (v < 0 ∨ 8 ≤ v)) (h3 : ¬ t.epoch ≤ s.epoch) (i : Nat) (hk : llook (places l) ⟨s, t⟩ = some i) : Cal Tryz.prog 209 [links l, s.av, t.av, .int .i64 v] (.tup [links (l.set i { l.getD i zLink with mask := orU (l.getD i zLink).mask (bit v) }), .int .i64 0]) := by
  have o1 := kclone_c l (by omega)
  have c1 := And.intro (enters_of Tryz.func60 (by kernel_rfl) rfl) (LMay_pure l)
  have o2 : CalO Tryz.prog 127 [.sl (l.map Link.av) false] (.mp 0) [(0, .amap ((places l).map lentE))] := And.intro (enters_of Tryz.func127 (by kernel_rfl) rfl) (places_own l (by omega))
  have c2 := And.intro (enters_of Tryz.func190 (by kernel_rfl) rfl) (bit_pure v)
  rw [h1] at c1
  have e0 : decide (v < 0) = false := decide_eq_false (by omega)
  have e1 : decide (8 ≤ v) = false := decide_eq_false (by omega)
  have e2 : decide (t.epoch ≤ s.epoch) = false := decide_eq_false h3
  have ff := And.intro e0 (And.intro e1 e2)
  have hil : i < l.length := (look_spec hk).1
  have hx : (l.map Link.av)[i]? = some (l.getD i zLink).av := by simp [hil, List.getD_eq_getElem?_getD]
  generalize l.getD i zLink = a at hx
  have hR : Tryz.f209.results.toList = [.tmp 8, .tmp 9] := rfl
  refine cal_tr Tryz.func209 rfl fun E hE hP => ?_
  refine mW ?_
  first | apply tr_md mixed _ (keepAll _) (by rw [hE]; rfl) (by kernel_rfl) | (refine Tr.seq ?_; apply tr_md mixed _ (keepAll _) (by rw [hE]; rfl) (by kernel_rfl))
  intro Q hQ
  simp only [go_sem, seval]
  (refine vd2_q rfl ?_); intro r hr; simp only [Option.getD_some, Option.isSome_some, go_sem, seval]; subst hr
  (refine vd2_x rfl ?_); intro r hr; simp only [Option.getD_some, Option.isSome_some, go_sem, seval]
  refine call_own rfl rfl rfl rfl (enters_of Tryz.func127 (by kernel_rfl) rfl) (o2.2) rfl rfl ?_
  simp only [go_sem, seval]
  try simp only [Option.getD_some, Option.isSome_some, go_sem, seval]
  subst hr
  iterate 3 ((refine vd2_q rfl ?_); intro r hr; simp only [Option.getD_some, Option.isSome_some, go_sem, seval]; subst hr)
  (refine vd2_x rfl ?_); intro r hr; simp only [Option.getD_some, Option.isSome_some, go_sem, seval]
  refine look64 rfl ?_; rw [hk]
  try simp only [Option.getD_some, Option.isSome_some, go_sem, seval]
  subst hr
  iterate 5 ((refine vd2_q rfl ?_); intro r hr; simp only [Option.getD_some, Option.isSome_some, go_sem, seval]; subst hr)
  exact hQ
  refine mW ?_
  first | refine tr_seq_drawn mixed [80] rfl (by rw [hE]; rfl) (by kernel_rfl) ?_ | (refine Tr.seq ?_; refine tr_seq_drawn mixed [80] rfl (by rw [hE]; rfl) (by kernel_rfl) ?_)
  refine vd_q rfl rfl ?_; simp only [hk, Option.getD_some, hx, Int.toNat_natCast, List.filter_cons, List.filter_nil, Bool.not_false, Bool.not_true, if_true, Bool.false_eq_true, if_false, go_sem, seval]
  refine vd_q rfl rfl ?_; simp only [hk, Option.getD_some, hx, Int.toNat_natCast, List.filter_cons, List.filter_nil, Bool.not_false, Bool.not_true, if_true, Bool.false_eq_true, if_false, go_sem, seval]
  refine vd_q rfl rfl ?_; simp only [hk, Option.getD_some, hx, Int.toNat_natCast, List.filter_cons, List.filter_nil, Bool.not_false, Bool.not_true, if_true, Bool.false_eq_true, if_false, go_sem, seval]
  refine ⟨by omega, by omega, ?_⟩
  try simp only [hk, Option.getD_some, hx, Int.toNat_natCast, List.filter_cons, List.filter_nil, Bool.not_false, Bool.not_true, if_true, Bool.false_eq_true, if_false, go_sem, seval]
  refine vd_q rfl rfl ?_; simp only [hk, Option.getD_some, hx, Int.toNat_natCast, List.filter_cons, List.filter_nil, Bool.not_false, Bool.not_true, if_true, Bool.false_eq_true, if_false, go_sem, seval]
  refine vd_q rfl rfl ?_; simp only [hk, Option.getD_some, hx, Int.toNat_natCast, List.filter_cons, List.filter_nil, Bool.not_false, Bool.not_true, if_true, Bool.false_eq_true, if_false, go_sem, seval]
  refine vd_q rfl rfl ?_; simp only [hk, Option.getD_some, hx, Int.toNat_natCast, List.filter_cons, List.filter_nil, Bool.not_false, Bool.not_true, if_true, Bool.false_eq_true, if_false, go_sem, seval]
  refine vd_x rfl rfl ?_; simp only [hk, Option.getD_some, hx, Int.toNat_natCast, List.filter_cons, List.filter_nil, Bool.not_false, Bool.not_true, if_true, Bool.false_eq_true, if_false, go_sem, seval]
  refine call_fn rfl rfl rfl rfl (enters_of Tryz.func190 (by kernel_rfl) rfl) (c2.2) rfl rfl rfl ?_
  simp only [go_sem, seval]
  refine vd_q rfl rfl ?_; simp only [hk, Option.getD_some, hx, Int.toNat_natCast, List.filter_cons, List.filter_nil, Bool.not_false, Bool.not_true, if_true, Bool.false_eq_true, if_false, go_sem, seval]
  refine vd_q rfl rfl ?_; simp only [hk, Option.getD_some, hx, Int.toNat_natCast, List.filter_cons, List.filter_nil, Bool.not_false, Bool.not_true, if_true, Bool.false_eq_true, if_false, go_sem, seval]
  refine ⟨by omega, by omega, ?_⟩
  try simp only [hk, Option.getD_some, hx, Int.toNat_natCast, List.filter_cons, List.filter_nil, Bool.not_false, Bool.not_true, if_true, Bool.false_eq_true, if_false, go_sem, seval]
  refine vd_q rfl rfl ?_; simp only [hk, Option.getD_some, hx, Int.toNat_natCast, List.filter_cons, List.filter_nil, Bool.not_false, Bool.not_true, if_true, Bool.false_eq_true, if_false, go_sem, seval]
  refine vd_w rfl rfl (by kernel_rfl) ?_; simp only [hk, Option.getD_some, hx, Int.toNat_natCast, List.filter_cons, List.filter_nil, Bool.not_false, Bool.not_true, if_true, Bool.false_eq_true, if_false, go_sem, seval]
  refine vd_nil ?_
  rw [← List.map_set]
  refine mr ?_
  refine Tr.ret ?_
  simp only [hR, orU, List.length_set, go_sem, seval]
theorem kput_c (l : List Link) (s t : Check) (v : Int) (hl : l.length ≤ 100) : Cal Tryz.prog 209 [links l, s.av, t.av, .int .i64 v] (.tup [links (kputR l s t v).1, .int .i64 (kputR l s t v).2]) := by
  unfold kputR
  split
  · next h => exact kput_1 l s t v hl h
  · next h1 =>
    have h1 : lmayB l = true := by simpa using h1
    split
    · next h2 => exact kput_10 l s t v hl h1 h2
    · next h2 =>
      split
      · next h3 => exact kput_9 l s t v hl h1 h2 h3
      · next h3 =>
        split
        · next i hk => exact kput_s l s t v hl h1 h2 h3 i hk
        · next hk =>
          split
          · next h4 => exact kput_3 l s t v hl h1 h2 h3 hk h4
          · next h4 => exact kput_0 l s t v hl h1 h2 h3 hk h4

def howR (vl : List Latest) (o : Int) (v : Nat) (r : Root) (ep : Int) : Int :=
  if ¬ andU o (bit v) = 0 then 3 else if (vl.getD v zLatest).has = false ∨ (vl.getD v zLatest).epoch < ep then 0 else if ep < (vl.getD v zLatest).epoch ∨ (vl.getD v zLatest).root = r then 1 else 2
theorem how_w (vl : List Latest) (o : Int) (v : Nat) (r : Root) (ep : Int) (x : Latest) (hn : nth (vl.map Latest.av) (v : Int) = some x.av) (h : Int)
    (hh : (¬ andU o (bit v) = 0) ∧ h = 3 ∨ andU o (bit v) = 0 ∧ ((x.has = false ∨ x.epoch < ep) ∧ h = 0 ∨ ¬ (x.has = false ∨ x.epoch < ep) ∧ ((ep < x.epoch ∨ x.root = r) ∧ h = 1 ∨ ¬ (ep < x.epoch ∨ x.root = r) ∧ h = 2))) : Cal Tryz.prog 227 [vav vl o, .int .i64 v, .root r, .int .u64 ep] (.int .i64 h) := by
  have c1 := And.intro (enters_of Tryz.func190 (by kernel_rfl) rfl) (bit_pure v)
  rcases hh with ⟨h1, rfl⟩ | ⟨h1, ⟨h2, rfl⟩ | ⟨h2, ⟨h3, rfl⟩ | ⟨h3, rfl⟩⟩⟩
  · have e1 : decide (bitsI .and .u64 o (bit v) = 0) = false := decide_eq_false h1
    have ff := And.intro hn e1
    have hR : Tryz.f227.results.toList = [.tmp 8] := rfl
    refine cal_tr Tryz.func227 rfl fun E hE hP => ?_
    exact mX
  · have e1 : decide (bitsI .and .u64 o (bit v) = 0) = true := decide_eq_true h1
    cases h3 : x.has
    · have ff := And.intro hn (And.intro e1 h3)
      have hR : Tryz.f227.results.toList = [.tmp 8] := rfl
      refine cal_tr Tryz.func227 rfl fun E hE hP => ?_
      exact mX
    · have e2 : decide (x.epoch < ep) = true := decide_eq_true (h2.resolve_left (by rw [h3]; decide))
      have ff := And.intro hn (And.intro e1 (And.intro h3 e2))
      have hR : Tryz.f227.results.toList = [.tmp 8] := rfl
      refine cal_tr Tryz.func227 rfl fun E hE hP => ?_
      exact mX
  · have e1 : decide (bitsI .and .u64 o (bit v) = 0) = true := decide_eq_true h1
    rw [not_or] at h2
    have h4 : x.has = true := by simpa using h2.1
    have e2 : decide (x.epoch < ep) = false := decide_eq_false h2.2
    by_cases h5 : ep < x.epoch
    · have e3 : decide (ep < x.epoch) = true := decide_eq_true h5
      have ff := And.intro hn (And.intro e1 (And.intro h4 (And.intro e2 e3)))
      have hR : Tryz.f227.results.toList = [.tmp 8] := rfl
      refine cal_tr Tryz.func227 rfl fun E hE hP => ?_
      exact mX
    · have e3 : decide (ep < x.epoch) = false := decide_eq_false h5
      have e4 : decide (x.root = r) = true := decide_eq_true (h3.resolve_left h5)
      have ff := And.intro hn (And.intro e1 (And.intro h4 (And.intro e2 (And.intro e3 e4))))
      have hR : Tryz.f227.results.toList = [.tmp 8] := rfl
      refine cal_tr Tryz.func227 rfl fun E hE hP => ?_
      exact mX
  · have e1 : decide (bitsI .and .u64 o (bit v) = 0) = true := decide_eq_true h1
    rw [not_or] at h2 h3
    have h4 : x.has = true := by simpa using h2.1
    have e2 : decide (x.epoch < ep) = false := decide_eq_false h2.2
    have e3 : decide (ep < x.epoch) = false := decide_eq_false h3.1
    have e4 : decide (x.root = r) = false := decide_eq_false h3.2
    have ff := And.intro hn (And.intro e1 (And.intro h4 (And.intro e2 (And.intro e3 e4))))
    have hR : Tryz.f227.results.toList = [.tmp 8] := rfl
    refine cal_tr Tryz.func227 rfl fun E hE hP => ?_
    exact mX
theorem how_c (vl : List Latest) (o : Int) (v : Nat) (hv : v < vl.length) (r : Root) (ep : Int) : Cal Tryz.prog 227 [vav vl o, .int .i64 v, .root r, .int .u64 ep] (.int .i64 (howR vl o v r ep)) := by
  have hn : nth (vl.map Latest.av) (v : Int) = some (vl.getD v zLatest).av := by
    rw [nth_map_lt Latest.av vl v hv, List.getD_eq_getElem?_getD, List.getElem?_eq_getElem hv]
    rfl
  refine how_w vl o v r ep _ hn _ ?_
  unfold howR
  by_cases h1 : andU o (bit v) = 0
  · refine .inr ⟨h1, ?_⟩
    rw [if_neg (fun h => h h1)]
    by_cases h2 : (vl.getD v zLatest).has = false ∨ (vl.getD v zLatest).epoch < ep
    · exact .inl ⟨h2, if_pos h2⟩
    · rw [if_neg h2]
      refine .inr ⟨h2, ?_⟩
      by_cases h3 : ep < (vl.getD v zLatest).epoch ∨ (vl.getD v zLatest).root = r
      · exact .inl ⟨h3, if_pos h3⟩
      · exact .inr ⟨h3, if_neg h3⟩
  · exact .inl ⟨h1, if_pos h1⟩
theorem vown_o (vl : List Latest) (o : Int) (hl : vl.length ≤ 1000) : CalO Tryz.prog 199 [vav vl o] (.st [.ms 0 34 vl.length, .int .u64 o]) [(0, .row 34 (vl.map Latest.av))] := by
  have o1 := lclone_c vl hl
  have hR : Tryz.f199.results.toList = [.cell 2 29] := rfl
  refine calO_tr Tryz.func199 rfl fun E hE hP => ?_
  refine mW ?_
  refine Tr.ret ?_
  simp only [hR, go_sem, seval]
  exact ⟨fun n => 64 + n, rfl, (by repeat' (first | exact rfl | exact trivial | constructor)), rfl⟩
def vputR (vl : List Latest) (o : Int) (v : Nat) (r : Root) (ep : Int) : List Latest × Int :=
  if howR vl o v r ep = 0 then (vl.set v ⟨true, r, ep⟩, o) else if howR vl o v r ep = 2 then (vl.set v zLatest, orU o (bit v)) else (vl, o)
theorem vmay_len {vl : List Latest} {o : Int} (h : vmayB vl o = true) : vl.length ≤ 8 := by
  unfold vmayB at h
  simp only [Bool.and_eq_true, decide_eq_true_eq] at h
  exact h.2.1
theorem vput_x (vl : List Latest) (o : Int) (v : Nat) (hv : v < vl.length) (r : Root) (ep : Int) (hm : vmayB vl o = true) (h : howR vl o v r ep = 1 ∨ howR vl o v r ep = 3) : Cal Tryz.prog 210 [vav vl o, .int .i64 v, .root r, .int .u64 ep] (.tup [vav vl o, .int .i64 0, .int .i64 0]) := by
  have o1 := vown_o vl o (by have := (vmay_len hm); omega)
  have c1 := vmay_c vl o
  rw [hm] at c1
  have c2 := how_c vl o v hv r ep
  have c3 := And.intro (enters_of Tryz.func190 (by kernel_rfl) rfl) (bit_pure v)
  have e0 : decide ((v : Int) < 0) = false := decide_eq_false (by omega)
  have e1 : decide ((vl.length : Int) ≤ (v : Int)) = false := decide_eq_false (by omega)
  have hx : (vl.map Latest.av)[v]? = some (vl.getD v zLatest).av := by simp [hv, List.getD_eq_getElem?_getD]
  generalize vl.getD v zLatest = x at hx
  rcases h with h | h
  · rw [h] at c2
    have ff := And.intro e0 e1
    have hR : Tryz.f210.results.toList = [.cell 8 29, .tmp 9, .tmp 10] := rfl
    refine cal_tr Tryz.func210 rfl fun E hE hP => ?_
    refine mr ?_
    refine mr ?_
    refine Tr.wk (Wk.frzH [96]) ?_
    simp only [frzHP, frzA, AV.frz, AV.frzL, List.map_cons, List.map_nil, go_sem, seval]
    exact mX
  · rw [h] at c2
    have ff := And.intro e0 e1
    have hR : Tryz.f210.results.toList = [.cell 8 29, .tmp 9, .tmp 10] := rfl
    refine cal_tr Tryz.func210 rfl fun E hE hP => ?_
    refine mr ?_
    refine mr ?_
    refine Tr.wk (Wk.frzH [96]) ?_
    simp only [frzHP, frzA, AV.frz, AV.frzL, List.map_cons, List.map_nil, go_sem, seval]
    exact mX
theorem vput_0 (vl : List Latest) (o : Int) (v : Nat) (hv : v < vl.length) (r : Root) (ep : Int) (hm : vmayB vl o = true) (h : howR vl o v r ep = 0) : Cal Tryz.prog 210 [vav vl o, .int .i64 v, .root r, .int .u64 ep] (.tup [vav (vl.set v ⟨true, r, ep⟩) o, .int .i64 1, .int .i64 0]) := by
  have o1 := vown_o vl o (by have := (vmay_len hm); omega)
  have c1 := vmay_c vl o
  rw [hm] at c1
  have c2 := how_c vl o v hv r ep
  have c3 := And.intro (enters_of Tryz.func190 (by kernel_rfl) rfl) (bit_pure v)
  have e0 : decide ((v : Int) < 0) = false := decide_eq_false (by omega)
  have e1 : decide ((vl.length : Int) ≤ (v : Int)) = false := decide_eq_false (by omega)
  have hx : (vl.map Latest.av)[v]? = some (vl.getD v zLatest).av := by simp [hv, List.getD_eq_getElem?_getD]
  generalize vl.getD v zLatest = x at hx
  rw [h] at c2
  have ff := And.intro e0 (And.intro e1 hx)
  have hR : Tryz.f210.results.toList = [.cell 8 29, .tmp 9, .tmp 10] := rfl
  refine cal_tr Tryz.func210 rfl fun E hE hP => ?_
  refine mW ?_
  rw [← List.map_set]
  have hlen : (List.map Latest.av (vl.set v ⟨true, r, ep⟩)).length = vl.length := by rw [List.length_map, List.length_set]
  refine Tr.wk (Wk.frzH [96]) ?_
  simp only [frzHP, frzA, AV.frz, AV.frzL, List.map_cons, List.map_nil, hlen, go_sem, seval]
  exact mX
theorem vput_2 (vl : List Latest) (o : Int) (v : Nat) (hv : v < vl.length) (r : Root) (ep : Int) (hm : vmayB vl o = true) (h : howR vl o v r ep = 2) : Cal Tryz.prog 210 [vav vl o, .int .i64 v, .root r, .int .u64 ep] (.tup [vav (vl.set v zLatest) (orU o (bit v)), .int .i64 2, .int .i64 0]) := by
  have o1 := vown_o vl o (by have := (vmay_len hm); omega)
  have c1 := vmay_c vl o
  rw [hm] at c1
  have c2 := how_c vl o v hv r ep
  have c3 := And.intro (enters_of Tryz.func190 (by kernel_rfl) rfl) (bit_pure v)
  have e0 : decide ((v : Int) < 0) = false := decide_eq_false (by omega)
  have e1 : decide ((vl.length : Int) ≤ (v : Int)) = false := decide_eq_false (by omega)
  have hx : (vl.map Latest.av)[v]? = some (vl.getD v zLatest).av := by simp [hv, List.getD_eq_getElem?_getD]
  generalize vl.getD v zLatest = x at hx
  rw [h] at c2
  have ff := And.intro e0 (And.intro e1 hx)
  have hR : Tryz.f210.results.toList = [.cell 8 29, .tmp 9, .tmp 10] := rfl
  refine cal_tr Tryz.func210 rfl fun E hE hP => ?_
  refine mW ?_
  first | refine tr_seq_drawn mixed [112] rfl (by rw [hE]; rfl) (by kernel_rfl) ?_ | (refine Tr.seq ?_; refine tr_seq_drawn mixed [112] rfl (by rw [hE]; rfl) (by kernel_rfl) ?_)
  iterate 3 refine vQ ?_
  refine vd_x rfl rfl ?_; simp only [List.filter_cons, List.filter_nil, Bool.not_false, Bool.not_true, if_true, Bool.false_eq_true, if_false, go_sem, seval]
  refine call_fn rfl rfl rfl rfl (enters_of Tryz.func190 (by kernel_rfl) rfl) (c3.2) rfl rfl rfl ?_
  simp only [go_sem, seval]
  iterate 2 refine vQ ?_
  refine vd_w rfl rfl (by kernel_rfl) ?_; simp only [List.filter_cons, List.filter_nil, Bool.not_false, Bool.not_true, if_true, Bool.false_eq_true, if_false, go_sem, seval]
  refine vd_nil ?_
  rw [← List.map_set]
  have hlen : (List.map Latest.av (vl.set v zLatest)).length = vl.length := by rw [List.length_map, List.length_set]
  refine Tr.wk (Wk.frzH [96]) ?_
  simp only [frzHP, frzA, AV.frz, AV.frzL, List.map_cons, List.map_nil, hlen, go_sem, seval]
  exact mX
theorem vput_c (vl : List Latest) (o : Int) (v : Nat) (hv : v < vl.length) (r : Root) (ep : Int) (hm : vmayB vl o = true) : ∃ h : Int, Cal Tryz.prog 210 [vav vl o, .int .i64 v, .root r, .int .u64 ep] (.tup [vav (vputR vl o v r ep).1 (vputR vl o v r ep).2, .int .i64 h, .int .i64 0]) := by
  unfold vputR
  by_cases h0 : howR vl o v r ep = 0
  · rw [if_pos h0]
    exact ⟨1, vput_0 vl o v hv r ep hm h0⟩
  · rw [if_neg h0]
    by_cases h2 : howR vl o v r ep = 2
    · rw [if_pos h2]
      exact ⟨2, vput_2 vl o v hv r ep hm h2⟩
    · rw [if_neg h2]
      refine ⟨0, vput_x vl o v hv r ep hm ?_⟩
      unfold howR at h0 h2 ⊢
      split
      · exact .inr rfl
      · next h3 =>
        rw [if_neg h3] at h0 h2
        split
        · next h4 => rw [if_pos h4] at h0; exact absurd rfl h0
        · next h4 =>
          rw [if_neg h4] at h0 h2
          split
          · exact .inl rfl
          · next h5 => rw [if_neg h5] at h2; exact absurd rfl h2
end Go.Proofs.YtgnidooihignfaaGreatDoor

/- Weights: what comes, and what goes. -/
set_option linter.unusedSimpArgs false
set_option maxRecDepth 10000
namespace Go.Proofs.YtgnidooihignfaaGreatDoor
open Go Go.Ab Go.RowKit

/-- What one vote adds to a place. -/
def partV (t : List Node) (bl : List Latest) (b : List Int) (i : Nat) (x : Latest) (j : Nat) : Int :=
  if skipB bl i x then 0 else if findR t x.root < 0 then 0 else if (findR t x.root).toNat = j then b.getD i 0 else 0
theorem votS_at {t : List Node} {bl : List Latest} {b out : List Int} {i : Nat} {x : Latest} {j : Nat} (hl : out.length = t.length) (hb : 0 ≤ b.getD i 0 ∧ b.getD i 0 ≤ 1099511627776) (hs : small 9223372036854775808 out) : (votS t bl b out i x).getD j 0 = out.getD j 0 + partV t bl b i x j := by
  unfold votS partV
  split
  · omega
  · split
    · omega
    · have hr := (findR_range t x.root).resolve_left (by omega)
      have h1 := hs (findR t x.root).toNat
      rw [addAt, getD_set]
      by_cases h : (findR t x.root).toNat = j
      · rw [if_pos ⟨h, by omega⟩, if_pos h, wrapU_lt (by omega) (by omega), h]
      · rw [if_neg (fun hh => h hh.1), if_neg h]
        omega
theorem vot_at {t : List Node} {vl bl : List Latest} {b : List Int} (hb : okB b) (hS : mayS b = true) (i : Nat) (hi : i ≤ 1000) (j : Nat) : (votTo t vl bl b (i + 1)).getD j 0 = (votTo t vl bl b i).getD j 0 + partV t bl b i (vl.getD i zLatest) j := by
  rw [votTo]
  refine votS_at (votTo_len _ _ _ _ _) ?_ fun k => ?_
  · by_cases hi : i < b.length
    · exact bal_range hS hb hi
    · rw [List.getD_eq_getElem?_getD, List.getElem?_eq_none (by omega)]; simp
  · have := small_vot (t := t) (vl := vl) (bl := bl) hb hS i (by omega) k
    omega
theorem skip_nil (i : Nat) (x : Latest) : skipB [] i x = !x.has := by
  unfold skipB
  have : decide (i < ([] : List Latest).length) = false := decide_eq_false (Nat.not_lt_zero i)
  rw [this, Bool.false_and, Bool.or_false]
theorem part_eq (t : List Node) (bl : List Latest) (b : List Int) (i : Nat) (x : Latest) (j : Nat) (hi : i < bl.length) : partV t bl b i x j = if bl.getD i zLatest = x then 0 else partV t [] b i x j := by
  unfold partV
  rw [skip_nil]
  have h1 : decide (i < bl.length) = true := decide_eq_true hi
  unfold skipB
  rw [h1, Bool.true_and]
  by_cases h : bl.getD i zLatest = x
  · rw [if_pos h, decide_eq_true h, Bool.or_true, if_pos rfl]
  · rw [if_neg h, decide_eq_false h, Bool.or_false]
/-- What all have then is what they had, with what comes, less what goes. -/
theorem vot_lin {t : List Node} {vl wl : List Latest} {b : List Int} (hb : okB b) (hS : mayS b = true) (hl : wl.length = vl.length) : ∀ n, n ≤ vl.length → n ≤ 1000 → ∀ j, (votTo t wl [] b n).getD j 0 + (votTo t vl wl b n).getD j 0 = (votTo t vl [] b n).getD j 0 + (votTo t wl vl b n).getD j 0
  | 0, _, _, j => rfl
  | n + 1, h, h2, j => by
    have ih := vot_lin (t := t) hb hS hl n (by omega) (by omega) j
    rw [vot_at hb hS n (by omega), vot_at hb hS n (by omega), vot_at hb hS n (by omega), vot_at hb hS n (by omega), part_eq t wl b n _ j (by omega), part_eq t vl b n _ j (by omega)]
    by_cases he : wl.getD n zLatest = vl.getD n zLatest
    · rw [if_pos he, if_pos he.symm, he]
      omega
    · rw [if_neg he, if_neg (fun h => he h.symm)]
      omega
theorem up_lin {t : List Node} {A B C D : List Int} (hl : B.length = A.length ∧ C.length = A.length ∧ D.length = A.length) (h : ∀ j, A.getD j 0 + B.getD j 0 = C.getD j 0 + D.getD j 0) (i : Nat) : ∀ j, (upW t A i).getD j 0 + (upW t B i).getD j 0 = (upW t C i).getD j 0 + (upW t D i).getD j 0 := fun j => by
  unfold upW
  split
  · exact h j
  · rw [getD_set, getD_set, getD_set, getD_set, hl.1, hl.2.1, hl.2.2]
    by_cases hk : (parI t i).toNat = j ∧ (parI t i).toNat < A.length
    · rw [if_pos hk, if_pos hk, if_pos hk, if_pos hk]
      have h1 := h (parI t i).toNat
      have h2 := h i
      omega
    · rw [if_neg hk, if_neg hk, if_neg hk, if_neg hk]
      exact h j
theorem sub_lin {t : List Node} {A B C D : List Int} (hl : B.length = A.length ∧ C.length = A.length ∧ D.length = A.length) (h : ∀ j, A.getD j 0 + B.getD j 0 = C.getD j 0 + D.getD j 0) : ∀ m j, (subTo t A m).getD j 0 + (subTo t B m).getD j 0 = (subTo t C m).getD j 0 + (subTo t D m).getD j 0
  | 0, j => h j
  | m + 1, j => by
    rw [subTo, subTo, subTo, subTo]
    refine up_lin ?_ (sub_lin hl h m) _ j
    rw [subTo_len, subTo_len, subTo_len, subTo_len]
    exact hl
theorem weights_lin {t : List Node} {vl wl : List Latest} {b : List Int} (hb : okB b) (hS : mayS b = true) (hl : wl.length = vl.length) (hv : vl.length ≤ 1000) (j : Nat) : (weights t wl b).getD j 0 + (subW t (votTo t vl wl b vl.length)).getD j 0 = (weights t vl b).getD j 0 + (subW t (votTo t wl vl b wl.length)).getD j 0 := by
  unfold weights subW ownW
  rw [hl]
  refine sub_lin ?_ (fun k => vot_lin (t := t) hb hS hl vl.length (Nat.le_refl _) hv k) t.length j
  rw [votTo_len, votTo_len, votTo_len, votTo_len]
  exact ⟨rfl, rfl, rfl⟩

theorem of_c (t : List Node) (vl wl : List Latest) (o p : Int) (b : List Int) (h1 : fitB t vl o b = true) (h2 : fitB t wl p b = true) : Cal Tryz.prog 211 [tav t, vav vl o, vav wl p, u64s b] (.tup [u64s (votTo t wl vl b wl.length), u64s (votTo t vl wl b vl.length), .bool true]) := by
  obtain ⟨hm, hv, hS, hl⟩ := fit_spec h1
  obtain ⟨_, hv2, _, hl2⟩ := fit_spec h2
  have hml := may_len hm
  have h8 := (mayS_spec hS).2.1
  have c1 := fit_c t vl o b
  have c2 := fit_c t wl p b
  rw [h1] at c1
  rw [h2] at c2
  have c3 := sum_c t wl vl p o b (by omega) (by omega) (by omega)
  have c4 := sum_c t vl wl o p b (by omega) (by omega) (by omega)
  have hR : Tryz.f211.results.toList = [.tmp 8, .tmp 9, .tmp 10] := rfl
  refine cal_tr Tryz.func211 rfl fun E hE hP => ?_
  exact mX

theorem sub64_x (x y : Nat) (h : y ≤ x) (hx : x < 18446744073709551616) : extR Tryz.prog 239 [.int .u64 x, .int .u64 y, .int .u64 0] (.tup [.int .u64 (x - y : Nat), .int .u64 0]) := by
  intro C vals hv w
  obtain ⟨a, r, rfl, ha, b, r, rfl, hb, c, r, rfl, hc, rfl⟩ := hv
  have ha : a = .int .u64 x := RepT.int_of (.inr ha)
  have hb : b = .int .u64 y := RepT.int_of (.inr hb)
  have hc : c = .int .u64 0 := RepT.int_of (.inr hc)
  subst ha; subst hb; subst hc
  refine ⟨.tuple #[.int .u64 ((x + 18446744073709551616 - y - 0) % 18446744073709551616 : Nat), .int .u64 (if x < y + 0 then 1 else 0 : Nat)], ?_, ?_⟩
  · rfl
  · rw [if_neg (by omega), show (x + 18446744073709551616 - y - 0) % 18446744073709551616 = x - y by omega]
    exact ⟨[.int .u64 ((x - y : Nat) : Int), .int .u64 0], rfl, _, _, rfl, ⟨by simp [Rep, Value.cells], rfl, rfl⟩, _, _, rfl, ⟨by simp [Rep, Value.cells], rfl, rfl⟩, rfl⟩
theorem with_c (x y z : Nat) (h : x + y < 18446744073709551616) (hz : z ≤ x + y) : Cal Tryz.prog 228 [.int .u64 x, .int .u64 y, .int .u64 z] (.tup [.int .u64 (x + y - z : Nat), .bool true]) := by
  have z1 := add64_x x y h
  have h2 := sub64_x (x + y) z hz h
  have hR : Tryz.f228.results.toList = [.tmp 6, .tmp 7] := rfl
  refine cal_tr Tryz.func228 rfl fun E hE hP => ?_
  refine mr ?_
  refine mr ?_
  clear z1
  have z1 := h2
  refine mr ?_
  refine mr ?_
  exact mX
end Go.Proofs.YtgnidooihignfaaGreatDoor

/- Weights: more, and less, of some. -/
set_option linter.unusedSimpArgs false
set_option maxRecDepth 10000
namespace Go.Proofs.YtgnidooihignfaaGreatDoor
open Go Go.Ab

theorem nth_uav {l : List Int} {i : Nat} (h : i < l.length) : nth (l.map uav) (i : Int) = some (.int .u64 (l.getD i 0)) := by
  rw [nth_map_lt uav l i h, List.getD_eq_getElem?_getD, List.getElem?_eq_getElem h]
  rfl
theorem take_uav {l : List Int} {i : Nat} (h : i < l.length) : (l.take (i + 1)).map uav = (l.take i).map uav ++ [.int .u64 (l.getD i 0)] := by
  rw [List.take_add_one, List.getElem?_eq_getElem h, Option.toList_some, List.map_append, List.getD_eq_getElem?_getD, List.getElem?_eq_getElem h]
  rfl
theorem pass_w (t : List Node) (w p m P M W : List Int) (c1 : Cal Tryz.prog 96 [tav t, u64s p] (.tup [u64s P, .bool true])) (c2 : Cal Tryz.prog 96 [tav t, u64s m] (.tup [u64s M, .bool true])) (hn : w.length ≤ 1000) (hP : P.length = w.length) (hM : M.length = w.length) (hW : W.length = w.length)
    (h : ∀ j, 0 ≤ w.getD j 0 ∧ 0 ≤ P.getD j 0 ∧ 0 ≤ M.getD j 0 ∧ w.getD j 0 + P.getD j 0 < 18446744073709551616 ∧ 0 ≤ W.getD j 0 ∧ W.getD j 0 + M.getD j 0 = w.getD j 0 + P.getD j 0) : Cal Tryz.prog 212 [tav t, u64s w, u64s p, u64s m] (.tup [u64s W, .bool true]) := by
  have e0 : decide ((w.length : Int) = (P.length : Int)) = true := decide_eq_true (by omega)
  have ff := e0
  have hR : Tryz.f212.results.toList = [.tmp 8, .tmp 9] := rfl
  refine cal_tr Tryz.func212 rfl fun E hE hP => ?_
  refine mW ?_
  refine Tr.wk (Wk.nil 14 1 rfl) ?_
  refine Tr.loop (fun i : Nat => (⟨[(1, .sl (w.map uav) false), (10, .sl (P.map uav) false), (12, .sl (M.map uav) false), (14, .ms 0 1 i), (44, .int .i64 w.length), (45, .int .i64 i)], [(0, .row 1 ((W.take i).map uav))], 1, []⟩ : S)) (fun i => i ≤ w.length) (fun i => w.length - i) 0 (Nat.zero_le _) ?_ ?_
  · refine wk_ren (fun | 0 => 576 | n => n) mB mB rfl rfl rfl
  · intro i hi
    by_cases hlt : i < w.length
    · have e1 : decide ((i : Int) < (w.length : Int)) = true := decide_eq_true (by omega)
      have n1 := nth_uav (l := w) hlt
      have n2 := nth_uav (l := P) (i := i) (by omega)
      have n3 := nth_uav (l := M) (i := i) (by omega)
      have n4 := take_uav (l := W) (i := i) (by omega)
      have hlen : ((W.take i).map uav).length = i := by rw [List.length_map, List.length_take]; omega
      obtain ⟨h1, h2, h3, h4, h5, h6⟩ := h i
      have hw := wrap_next (n := i) (by omega)
      obtain ⟨x, hx⟩ : ∃ x : Nat, w.getD i 0 = x := ⟨(w.getD i 0).toNat, by omega⟩
      obtain ⟨y, hy⟩ : ∃ y : Nat, P.getD i 0 = y := ⟨(P.getD i 0).toNat, by omega⟩
      obtain ⟨z, hz⟩ : ∃ z : Nat, M.getD i 0 = z := ⟨(M.getD i 0).toNat, by omega⟩
      have hv : W.getD i 0 = ((x + y - z : Nat) : Int) := by omega
      have c3 := with_c x y z (by omega) (by omega)
      rw [hx] at n1
      rw [hy] at n2
      rw [hz] at n3
      rw [hv] at n4
      generalize (x + y - z : Nat) = u at c3 n4
      generalize (W.take i).map uav = R at hlen n4 ⊢
      have ff := And.intro e1 (And.intro n1 (And.intro n2 (And.intro n3 (And.intro hw hlen))))
      refine mW ?_
      refine ⟨i + 1, hlt, by omega, ?_⟩
      rw [n4]
      refine wk_ren (fun | 0 => 417 | n => n) mB mB rfl rfl rfl
    · have e1 : decide ((i : Int) < (w.length : Int)) = false := decide_eq_false (by omega)
      have hil : i = W.length := by omega
      subst hil
      have ff := e1
      rw [List.take_length]
      exact mX

def wH (e : Eng) (b : Block) (x : Att) (c : Ask) : HP := [(0, .tab 0 tabV), (1, .var (workA e b x c))]
theorem place_t (e : Eng) (b : Block) (x : Att) (c : Ask) (r : Root) : CalE Tryz.prog 138 [.ptr 1 [] 0, .root r] 2 (wH e b x c) (.int .i64 (findR e.t r)) (wH e b x c) := by
  have c1 := And.intro (enters_of Tryz.func27 (by kernel_rfl) rfl) (find_pure e.t r)
  unfold wH
  have hR : Tryz.f138.results.toList = [.tmp 4] := rfl
  refine calE_tr Tryz.func138 rfl fun E hE hP => ?_
  exact mX
def fitsR (e : Eng) (a : Att) : Int :=
  if a.val < 0 ∨ (e.b.length : Int) ≤ a.val then 10
  else if findR e.t a.head < 0 ∨ findR e.t a.source.root < 0 ∨ findR e.t a.target.root < 0 then 5
  else if a.target.epoch ≤ a.source.epoch ∨ aboveR e.t (findR e.t a.source.root) (findR e.t a.target.root) = false ∨ aboveR e.t (findR e.t a.target.root) (findR e.t a.head) = false then 9 else 0
theorem fits_10 (e : Eng) (b : Block) (x : Att) (c : Ask) (a : Att) (h : a.val < 0 ∨ (e.b.length : Int) ≤ a.val) : CalE Tryz.prog 155 [.ptr 1 [] 0, a.av] 2 (wH e b x c) (.int .i64 10) (wH e b x c) := by
  by_cases h0 : a.val < 0
  · have e0 : decide (a.val < 0) = true := decide_eq_true h0
    have ff := e0
    have y1 := place_t e b x c a.head
    have y2 := place_t e b x c a.source.root
    have y3 := place_t e b x c a.target.root
    generalize findR e.t a.head = H at *
    generalize findR e.t a.source.root = S at *
    generalize findR e.t a.target.root = T at *
    unfold wH at y1 y2 y3
    unfold wH
    have hR : Tryz.f155.results.toList = [.tmp 4] := rfl
    refine calE_tr Tryz.func155 rfl fun E hE hP => ?_
    refine mr ?_
    refine tr_seq_plan mixed [2] (.one 0 (.one 1 (.one 2 (.one 4 (.one 5 (.one 6 (.one 7 (.one 9 (.one 10 (.one 11 (.one 12 (.one 3 (.one 8 (.one 13 (.one 14 (.one 15 (.one 16 .done))))))))))))))))) (⟨[(0, .ptr 1 [] 0), (3, .ptr 2 [] 0), (4, .int .i64 0), (5, .int .i64 H), (6, .int .i64 S), (7, .int .i64 T)], [(0, .tab 0 tabV), (1, .var (workA e b x c)), (2, .var a.av)], 3, []⟩) rfl (by rw [hE]; rfl) (by kernel_rfl) ?_ ?_
    · simp only [List.map_cons, List.map_nil]
      iterate 11 refine pQ ?_
      refine pX ?_
      refine call_eff (fun n => n) [false, true] [] rfl rfl rfl rfl (enters_of Tryz.func138 (by kernel_rfl) rfl) (y1.2) rfl rfl (by repeat' (first | exact rfl | exact trivial | constructor)) rfl rfl rfl ?_
      simp only [renH_nil, renH_cons, effR, go_sem, seval]
      refine pX ?_
      refine call_eff (fun n => n) [false, true] [] rfl rfl rfl rfl (enters_of Tryz.func138 (by kernel_rfl) rfl) (y2.2) rfl rfl (by repeat' (first | exact rfl | exact trivial | constructor)) rfl rfl rfl ?_
      simp only [renH_nil, renH_cons, effR, go_sem, seval]
      refine pX ?_
      refine call_eff (fun n => n) [false, true] [] rfl rfl rfl rfl (enters_of Tryz.func138 (by kernel_rfl) rfl) (y3.2) rfl rfl (by repeat' (first | exact rfl | exact trivial | constructor)) rfl rfl rfl ?_
      simp only [renH_nil, renH_cons, effR, go_sem, seval]
      iterate 3 refine pQ ?_
      refine pl_done (st := _) ?_ rfl
      refine wk_ren (fun n => n) mB mB rfl rfl rfl
    exact mX
  · have e0 : decide (a.val < 0) = false := decide_eq_false h0
    have e1 : decide ((e.b.length : Int) ≤ a.val) = true := decide_eq_true (h.resolve_left h0)
    have ff := And.intro e0 e1
    have y1 := place_t e b x c a.head
    have y2 := place_t e b x c a.source.root
    have y3 := place_t e b x c a.target.root
    generalize findR e.t a.head = H at *
    generalize findR e.t a.source.root = S at *
    generalize findR e.t a.target.root = T at *
    unfold wH at y1 y2 y3
    unfold wH
    have hR : Tryz.f155.results.toList = [.tmp 4] := rfl
    refine calE_tr Tryz.func155 rfl fun E hE hP => ?_
    refine mr ?_
    refine tr_seq_plan mixed [2] (.one 0 (.one 1 (.one 2 (.one 4 (.one 5 (.one 6 (.one 7 (.one 9 (.one 10 (.one 11 (.one 12 (.one 3 (.one 8 (.one 13 (.one 14 (.one 15 (.one 16 .done))))))))))))))))) (⟨[(0, .ptr 1 [] 0), (3, .ptr 2 [] 0), (4, .int .i64 0), (5, .int .i64 H), (6, .int .i64 S), (7, .int .i64 T)], [(0, .tab 0 tabV), (1, .var (workA e b x c)), (2, .var a.av)], 3, []⟩) rfl (by rw [hE]; rfl) (by kernel_rfl) ?_ ?_
    · simp only [List.map_cons, List.map_nil]
      iterate 11 refine pQ ?_
      refine pX ?_
      refine call_eff (fun n => n) [false, true] [] rfl rfl rfl rfl (enters_of Tryz.func138 (by kernel_rfl) rfl) (y1.2) rfl rfl (by repeat' (first | exact rfl | exact trivial | constructor)) rfl rfl rfl ?_
      simp only [renH_nil, renH_cons, effR, go_sem, seval]
      refine pX ?_
      refine call_eff (fun n => n) [false, true] [] rfl rfl rfl rfl (enters_of Tryz.func138 (by kernel_rfl) rfl) (y2.2) rfl rfl (by repeat' (first | exact rfl | exact trivial | constructor)) rfl rfl rfl ?_
      simp only [renH_nil, renH_cons, effR, go_sem, seval]
      refine pX ?_
      refine call_eff (fun n => n) [false, true] [] rfl rfl rfl rfl (enters_of Tryz.func138 (by kernel_rfl) rfl) (y3.2) rfl rfl (by repeat' (first | exact rfl | exact trivial | constructor)) rfl rfl rfl ?_
      simp only [renH_nil, renH_cons, effR, go_sem, seval]
      iterate 3 refine pQ ?_
      refine pl_done (st := _) ?_ rfl
      refine wk_ren (fun n => n) mB mB rfl rfl rfl
    exact mX
theorem fits_5 (e : Eng) (b : Block) (x : Att) (c : Ask) (a : Att) (h : ¬ (a.val < 0 ∨ (e.b.length : Int) ≤ a.val)) (h2 : findR e.t a.head < 0 ∨ findR e.t a.source.root < 0 ∨ findR e.t a.target.root < 0) : CalE Tryz.prog 155 [.ptr 1 [] 0, a.av] 2 (wH e b x c) (.int .i64 5) (wH e b x c) := by
  have e0 : decide (a.val < 0) = false := decide_eq_false (fun hh => h (.inl hh))
  have e1 : decide ((e.b.length : Int) ≤ a.val) = false := decide_eq_false (fun hh => h (.inr hh))
  by_cases k1 : findR e.t a.head < 0
  · have e2 : decide (findR e.t a.head < 0) = true := decide_eq_true k1
    have ff := And.intro e0 (And.intro e1 e2)
    have y1 := place_t e b x c a.head
    have y2 := place_t e b x c a.source.root
    have y3 := place_t e b x c a.target.root
    generalize findR e.t a.head = H at *
    generalize findR e.t a.source.root = S at *
    generalize findR e.t a.target.root = T at *
    unfold wH at y1 y2 y3
    unfold wH
    have hR : Tryz.f155.results.toList = [.tmp 4] := rfl
    refine calE_tr Tryz.func155 rfl fun E hE hP => ?_
    refine mr ?_
    refine tr_seq_plan mixed [2] (.one 0 (.one 1 (.one 2 (.one 4 (.one 5 (.one 6 (.one 7 (.one 9 (.one 10 (.one 11 (.one 12 (.one 3 (.one 8 (.one 13 (.one 14 (.one 15 (.one 16 .done))))))))))))))))) (⟨[(0, .ptr 1 [] 0), (3, .ptr 2 [] 0), (4, .int .i64 0), (5, .int .i64 H), (6, .int .i64 S), (7, .int .i64 T)], [(0, .tab 0 tabV), (1, .var (workA e b x c)), (2, .var a.av)], 3, []⟩) rfl (by rw [hE]; rfl) (by kernel_rfl) ?_ ?_
    · simp only [List.map_cons, List.map_nil]
      iterate 11 refine pQ ?_
      refine pX ?_
      refine call_eff (fun n => n) [false, true] [] rfl rfl rfl rfl (enters_of Tryz.func138 (by kernel_rfl) rfl) (y1.2) rfl rfl (by repeat' (first | exact rfl | exact trivial | constructor)) rfl rfl rfl ?_
      simp only [renH_nil, renH_cons, effR, go_sem, seval]
      refine pX ?_
      refine call_eff (fun n => n) [false, true] [] rfl rfl rfl rfl (enters_of Tryz.func138 (by kernel_rfl) rfl) (y2.2) rfl rfl (by repeat' (first | exact rfl | exact trivial | constructor)) rfl rfl rfl ?_
      simp only [renH_nil, renH_cons, effR, go_sem, seval]
      refine pX ?_
      refine call_eff (fun n => n) [false, true] [] rfl rfl rfl rfl (enters_of Tryz.func138 (by kernel_rfl) rfl) (y3.2) rfl rfl (by repeat' (first | exact rfl | exact trivial | constructor)) rfl rfl rfl ?_
      simp only [renH_nil, renH_cons, effR, go_sem, seval]
      iterate 3 refine pQ ?_
      refine pl_done (st := _) ?_ rfl
      refine wk_ren (fun n => n) mB mB rfl rfl rfl
    exact mX
  · have e2 : decide (findR e.t a.head < 0) = false := decide_eq_false k1
    by_cases k2 : findR e.t a.source.root < 0
    · have e3 : decide (findR e.t a.source.root < 0) = true := decide_eq_true k2
      have ff := And.intro e0 (And.intro e1 (And.intro e2 e3))
      have y1 := place_t e b x c a.head
      have y2 := place_t e b x c a.source.root
      have y3 := place_t e b x c a.target.root
      generalize findR e.t a.head = H at *
      generalize findR e.t a.source.root = S at *
      generalize findR e.t a.target.root = T at *
      unfold wH at y1 y2 y3
      unfold wH
      have hR : Tryz.f155.results.toList = [.tmp 4] := rfl
      refine calE_tr Tryz.func155 rfl fun E hE hP => ?_
      refine mr ?_
      refine tr_seq_plan mixed [2] (.one 0 (.one 1 (.one 2 (.one 4 (.one 5 (.one 6 (.one 7 (.one 9 (.one 10 (.one 11 (.one 12 (.one 3 (.one 8 (.one 13 (.one 14 (.one 15 (.one 16 .done))))))))))))))))) (⟨[(0, .ptr 1 [] 0), (3, .ptr 2 [] 0), (4, .int .i64 0), (5, .int .i64 H), (6, .int .i64 S), (7, .int .i64 T)], [(0, .tab 0 tabV), (1, .var (workA e b x c)), (2, .var a.av)], 3, []⟩) rfl (by rw [hE]; rfl) (by kernel_rfl) ?_ ?_
      · simp only [List.map_cons, List.map_nil]
        iterate 11 refine pQ ?_
        refine pX ?_
        refine call_eff (fun n => n) [false, true] [] rfl rfl rfl rfl (enters_of Tryz.func138 (by kernel_rfl) rfl) (y1.2) rfl rfl (by repeat' (first | exact rfl | exact trivial | constructor)) rfl rfl rfl ?_
        simp only [renH_nil, renH_cons, effR, go_sem, seval]
        refine pX ?_
        refine call_eff (fun n => n) [false, true] [] rfl rfl rfl rfl (enters_of Tryz.func138 (by kernel_rfl) rfl) (y2.2) rfl rfl (by repeat' (first | exact rfl | exact trivial | constructor)) rfl rfl rfl ?_
        simp only [renH_nil, renH_cons, effR, go_sem, seval]
        refine pX ?_
        refine call_eff (fun n => n) [false, true] [] rfl rfl rfl rfl (enters_of Tryz.func138 (by kernel_rfl) rfl) (y3.2) rfl rfl (by repeat' (first | exact rfl | exact trivial | constructor)) rfl rfl rfl ?_
        simp only [renH_nil, renH_cons, effR, go_sem, seval]
        iterate 3 refine pQ ?_
        refine pl_done (st := _) ?_ rfl
        refine wk_ren (fun n => n) mB mB rfl rfl rfl
      exact mX
    · have e3 : decide (findR e.t a.source.root < 0) = false := decide_eq_false k2
      have e4 : decide (findR e.t a.target.root < 0) = true := decide_eq_true ((h2.resolve_left k1).resolve_left k2)
      have ff := And.intro e0 (And.intro e1 (And.intro e2 (And.intro e3 e4)))
      have y1 := place_t e b x c a.head
      have y2 := place_t e b x c a.source.root
      have y3 := place_t e b x c a.target.root
      generalize findR e.t a.head = H at *
      generalize findR e.t a.source.root = S at *
      generalize findR e.t a.target.root = T at *
      unfold wH at y1 y2 y3
      unfold wH
      have hR : Tryz.f155.results.toList = [.tmp 4] := rfl
      refine calE_tr Tryz.func155 rfl fun E hE hP => ?_
      refine mr ?_
      refine tr_seq_plan mixed [2] (.one 0 (.one 1 (.one 2 (.one 4 (.one 5 (.one 6 (.one 7 (.one 9 (.one 10 (.one 11 (.one 12 (.one 3 (.one 8 (.one 13 (.one 14 (.one 15 (.one 16 .done))))))))))))))))) (⟨[(0, .ptr 1 [] 0), (3, .ptr 2 [] 0), (4, .int .i64 0), (5, .int .i64 H), (6, .int .i64 S), (7, .int .i64 T)], [(0, .tab 0 tabV), (1, .var (workA e b x c)), (2, .var a.av)], 3, []⟩) rfl (by rw [hE]; rfl) (by kernel_rfl) ?_ ?_
      · simp only [List.map_cons, List.map_nil]
        iterate 11 refine pQ ?_
        refine pX ?_
        refine call_eff (fun n => n) [false, true] [] rfl rfl rfl rfl (enters_of Tryz.func138 (by kernel_rfl) rfl) (y1.2) rfl rfl (by repeat' (first | exact rfl | exact trivial | constructor)) rfl rfl rfl ?_
        simp only [renH_nil, renH_cons, effR, go_sem, seval]
        refine pX ?_
        refine call_eff (fun n => n) [false, true] [] rfl rfl rfl rfl (enters_of Tryz.func138 (by kernel_rfl) rfl) (y2.2) rfl rfl (by repeat' (first | exact rfl | exact trivial | constructor)) rfl rfl rfl ?_
        simp only [renH_nil, renH_cons, effR, go_sem, seval]
        refine pX ?_
        refine call_eff (fun n => n) [false, true] [] rfl rfl rfl rfl (enters_of Tryz.func138 (by kernel_rfl) rfl) (y3.2) rfl rfl (by repeat' (first | exact rfl | exact trivial | constructor)) rfl rfl rfl ?_
        simp only [renH_nil, renH_cons, effR, go_sem, seval]
        iterate 3 refine pQ ?_
        refine pl_done (st := _) ?_ rfl
        refine wk_ren (fun n => n) mB mB rfl rfl rfl
      exact mX
theorem fits_9 (e : Eng) (b : Block) (x : Att) (c : Ask) (a : Att) (h : ¬ (a.val < 0 ∨ (e.b.length : Int) ≤ a.val)) (h2 : ¬ (findR e.t a.head < 0 ∨ findR e.t a.source.root < 0 ∨ findR e.t a.target.root < 0)) (h3 : a.target.epoch ≤ a.source.epoch ∨ aboveR e.t (findR e.t a.source.root) (findR e.t a.target.root) = false ∨ aboveR e.t (findR e.t a.target.root) (findR e.t a.head) = false) : CalE Tryz.prog 155 [.ptr 1 [] 0, a.av] 2 (wH e b x c) (.int .i64 9) (wH e b x c) := by
  have e0 : decide (a.val < 0) = false := decide_eq_false (fun hh => h (.inl hh))
  have e1 : decide ((e.b.length : Int) ≤ a.val) = false := decide_eq_false (fun hh => h (.inr hh))
  rw [not_or, not_or] at h2
  have e2 : decide (findR e.t a.head < 0) = false := decide_eq_false h2.1
  have e3 : decide (findR e.t a.source.root < 0) = false := decide_eq_false h2.2.1
  have e4 : decide (findR e.t a.target.root < 0) = false := decide_eq_false h2.2.2
  have c1 := And.intro (enters_of Tryz.func39 (by kernel_rfl) rfl) (above_pure e.t (findR e.t a.source.root) (findR e.t a.target.root))
  have c2 := And.intro (enters_of Tryz.func39 (by kernel_rfl) rfl) (above_pure e.t (findR e.t a.target.root) (findR e.t a.head))
  by_cases k1 : a.target.epoch ≤ a.source.epoch
  · have e5 : decide (a.target.epoch ≤ a.source.epoch) = true := decide_eq_true k1
    clear c1 c2
    have ff := And.intro e0 (And.intro e1 (And.intro e2 (And.intro e3 (And.intro e4 e5))))
    have y1 := place_t e b x c a.head
    have y2 := place_t e b x c a.source.root
    have y3 := place_t e b x c a.target.root
    generalize findR e.t a.head = H at *
    generalize findR e.t a.source.root = S at *
    generalize findR e.t a.target.root = T at *
    unfold wH at y1 y2 y3
    unfold wH
    have hR : Tryz.f155.results.toList = [.tmp 4] := rfl
    refine calE_tr Tryz.func155 rfl fun E hE hP => ?_
    refine mr ?_
    refine tr_seq_plan mixed [2] (.one 0 (.one 1 (.one 2 (.one 4 (.one 5 (.one 6 (.one 7 (.one 9 (.one 10 (.one 11 (.one 12 (.one 3 (.one 8 (.one 13 (.one 14 (.one 15 (.one 16 .done))))))))))))))))) (⟨[(0, .ptr 1 [] 0), (3, .ptr 2 [] 0), (4, .int .i64 0), (5, .int .i64 H), (6, .int .i64 S), (7, .int .i64 T)], [(0, .tab 0 tabV), (1, .var (workA e b x c)), (2, .var a.av)], 3, []⟩) rfl (by rw [hE]; rfl) (by kernel_rfl) ?_ ?_
    · simp only [List.map_cons, List.map_nil]
      iterate 11 refine pQ ?_
      refine pX ?_
      refine call_eff (fun n => n) [false, true] [] rfl rfl rfl rfl (enters_of Tryz.func138 (by kernel_rfl) rfl) (y1.2) rfl rfl (by repeat' (first | exact rfl | exact trivial | constructor)) rfl rfl rfl ?_
      simp only [renH_nil, renH_cons, effR, go_sem, seval]
      refine pX ?_
      refine call_eff (fun n => n) [false, true] [] rfl rfl rfl rfl (enters_of Tryz.func138 (by kernel_rfl) rfl) (y2.2) rfl rfl (by repeat' (first | exact rfl | exact trivial | constructor)) rfl rfl rfl ?_
      simp only [renH_nil, renH_cons, effR, go_sem, seval]
      refine pX ?_
      refine call_eff (fun n => n) [false, true] [] rfl rfl rfl rfl (enters_of Tryz.func138 (by kernel_rfl) rfl) (y3.2) rfl rfl (by repeat' (first | exact rfl | exact trivial | constructor)) rfl rfl rfl ?_
      simp only [renH_nil, renH_cons, effR, go_sem, seval]
      iterate 3 refine pQ ?_
      refine pl_done (st := _) ?_ rfl
      refine wk_ren (fun n => n) mB mB rfl rfl rfl
    exact mX
  · have e5 : decide (a.target.epoch ≤ a.source.epoch) = false := decide_eq_false k1
    cases k2 : aboveR e.t (findR e.t a.source.root) (findR e.t a.target.root)
    · rw [k2] at c1
      clear c2 k2 h3
      have ff := And.intro e0 (And.intro e1 (And.intro e2 (And.intro e3 (And.intro e4 e5))))
      have y1 := place_t e b x c a.head
      have y2 := place_t e b x c a.source.root
      have y3 := place_t e b x c a.target.root
      generalize findR e.t a.head = H at *
      generalize findR e.t a.source.root = S at *
      generalize findR e.t a.target.root = T at *
      unfold wH at y1 y2 y3
      unfold wH
      have hR : Tryz.f155.results.toList = [.tmp 4] := rfl
      refine calE_tr Tryz.func155 rfl fun E hE hP => ?_
      refine mr ?_
      refine tr_seq_plan mixed [2] (.one 0 (.one 1 (.one 2 (.one 4 (.one 5 (.one 6 (.one 7 (.one 9 (.one 10 (.one 11 (.one 12 (.one 3 (.one 8 (.one 13 (.one 14 (.one 15 (.one 16 .done))))))))))))))))) (⟨[(0, .ptr 1 [] 0), (3, .ptr 2 [] 0), (4, .int .i64 0), (5, .int .i64 H), (6, .int .i64 S), (7, .int .i64 T)], [(0, .tab 0 tabV), (1, .var (workA e b x c)), (2, .var a.av)], 3, []⟩) rfl (by rw [hE]; rfl) (by kernel_rfl) ?_ ?_
      · simp only [List.map_cons, List.map_nil]
        iterate 11 refine pQ ?_
        refine pX ?_
        refine call_eff (fun n => n) [false, true] [] rfl rfl rfl rfl (enters_of Tryz.func138 (by kernel_rfl) rfl) (y1.2) rfl rfl (by repeat' (first | exact rfl | exact trivial | constructor)) rfl rfl rfl ?_
        simp only [renH_nil, renH_cons, effR, go_sem, seval]
        refine pX ?_
        refine call_eff (fun n => n) [false, true] [] rfl rfl rfl rfl (enters_of Tryz.func138 (by kernel_rfl) rfl) (y2.2) rfl rfl (by repeat' (first | exact rfl | exact trivial | constructor)) rfl rfl rfl ?_
        simp only [renH_nil, renH_cons, effR, go_sem, seval]
        refine pX ?_
        refine call_eff (fun n => n) [false, true] [] rfl rfl rfl rfl (enters_of Tryz.func138 (by kernel_rfl) rfl) (y3.2) rfl rfl (by repeat' (first | exact rfl | exact trivial | constructor)) rfl rfl rfl ?_
        simp only [renH_nil, renH_cons, effR, go_sem, seval]
        iterate 3 refine pQ ?_
        refine pl_done (st := _) ?_ rfl
        refine wk_ren (fun n => n) mB mB rfl rfl rfl
      exact mX
    · have k3 := (h3.resolve_left k1).resolve_left (by rw [k2]; decide)
      rw [k2] at c1
      rw [k3] at c2
      clear k2 k3 h3
      have ff := And.intro e0 (And.intro e1 (And.intro e2 (And.intro e3 (And.intro e4 e5))))
      have y1 := place_t e b x c a.head
      have y2 := place_t e b x c a.source.root
      have y3 := place_t e b x c a.target.root
      generalize findR e.t a.head = H at *
      generalize findR e.t a.source.root = S at *
      generalize findR e.t a.target.root = T at *
      unfold wH at y1 y2 y3
      unfold wH
      have hR : Tryz.f155.results.toList = [.tmp 4] := rfl
      refine calE_tr Tryz.func155 rfl fun E hE hP => ?_
      refine mr ?_
      refine tr_seq_plan mixed [2] (.one 0 (.one 1 (.one 2 (.one 4 (.one 5 (.one 6 (.one 7 (.one 9 (.one 10 (.one 11 (.one 12 (.one 3 (.one 8 (.one 13 (.one 14 (.one 15 (.one 16 .done))))))))))))))))) (⟨[(0, .ptr 1 [] 0), (3, .ptr 2 [] 0), (4, .int .i64 0), (5, .int .i64 H), (6, .int .i64 S), (7, .int .i64 T)], [(0, .tab 0 tabV), (1, .var (workA e b x c)), (2, .var a.av)], 3, []⟩) rfl (by rw [hE]; rfl) (by kernel_rfl) ?_ ?_
      · simp only [List.map_cons, List.map_nil]
        iterate 11 refine pQ ?_
        refine pX ?_
        refine call_eff (fun n => n) [false, true] [] rfl rfl rfl rfl (enters_of Tryz.func138 (by kernel_rfl) rfl) (y1.2) rfl rfl (by repeat' (first | exact rfl | exact trivial | constructor)) rfl rfl rfl ?_
        simp only [renH_nil, renH_cons, effR, go_sem, seval]
        refine pX ?_
        refine call_eff (fun n => n) [false, true] [] rfl rfl rfl rfl (enters_of Tryz.func138 (by kernel_rfl) rfl) (y2.2) rfl rfl (by repeat' (first | exact rfl | exact trivial | constructor)) rfl rfl rfl ?_
        simp only [renH_nil, renH_cons, effR, go_sem, seval]
        refine pX ?_
        refine call_eff (fun n => n) [false, true] [] rfl rfl rfl rfl (enters_of Tryz.func138 (by kernel_rfl) rfl) (y3.2) rfl rfl (by repeat' (first | exact rfl | exact trivial | constructor)) rfl rfl rfl ?_
        simp only [renH_nil, renH_cons, effR, go_sem, seval]
        iterate 3 refine pQ ?_
        refine pl_done (st := _) ?_ rfl
        refine wk_ren (fun n => n) mB mB rfl rfl rfl
      exact mX
theorem fits_0 (e : Eng) (b : Block) (x : Att) (c : Ask) (a : Att) (h : ¬ (a.val < 0 ∨ (e.b.length : Int) ≤ a.val)) (h2 : ¬ (findR e.t a.head < 0 ∨ findR e.t a.source.root < 0 ∨ findR e.t a.target.root < 0)) (h3 : ¬ (a.target.epoch ≤ a.source.epoch ∨ aboveR e.t (findR e.t a.source.root) (findR e.t a.target.root) = false ∨ aboveR e.t (findR e.t a.target.root) (findR e.t a.head) = false)) : CalE Tryz.prog 155 [.ptr 1 [] 0, a.av] 2 (wH e b x c) (.int .i64 0) (wH e b x c) := by
  have e0 : decide (a.val < 0) = false := decide_eq_false (fun hh => h (.inl hh))
  have e1 : decide ((e.b.length : Int) ≤ a.val) = false := decide_eq_false (fun hh => h (.inr hh))
  rw [not_or, not_or] at h2
  have e2 : decide (findR e.t a.head < 0) = false := decide_eq_false h2.1
  have e3 : decide (findR e.t a.source.root < 0) = false := decide_eq_false h2.2.1
  have e4 : decide (findR e.t a.target.root < 0) = false := decide_eq_false h2.2.2
  have c1 := And.intro (enters_of Tryz.func39 (by kernel_rfl) rfl) (above_pure e.t (findR e.t a.source.root) (findR e.t a.target.root))
  have c2 := And.intro (enters_of Tryz.func39 (by kernel_rfl) rfl) (above_pure e.t (findR e.t a.target.root) (findR e.t a.head))
  rw [not_or, not_or] at h3
  obtain ⟨k1, k2, k3⟩ := h3
  have e5 : decide (a.target.epoch ≤ a.source.epoch) = false := decide_eq_false k1
  rw [show aboveR e.t (findR e.t a.source.root) (findR e.t a.target.root) = true by simpa using k2] at c1
  rw [show aboveR e.t (findR e.t a.target.root) (findR e.t a.head) = true by simpa using k3] at c2
  clear k2 k3
  have ff := And.intro e0 (And.intro e1 (And.intro e2 (And.intro e3 (And.intro e4 e5))))
  have y1 := place_t e b x c a.head
  have y2 := place_t e b x c a.source.root
  have y3 := place_t e b x c a.target.root
  generalize findR e.t a.head = H at *
  generalize findR e.t a.source.root = S at *
  generalize findR e.t a.target.root = T at *
  unfold wH at y1 y2 y3
  unfold wH
  have hR : Tryz.f155.results.toList = [.tmp 4] := rfl
  refine calE_tr Tryz.func155 rfl fun E hE hP => ?_
  refine mr ?_
  refine tr_seq_plan mixed [2] (.one 0 (.one 1 (.one 2 (.one 4 (.one 5 (.one 6 (.one 7 (.one 9 (.one 10 (.one 11 (.one 12 (.one 3 (.one 8 (.one 13 (.one 14 (.one 15 (.one 16 .done))))))))))))))))) (⟨[(0, .ptr 1 [] 0), (3, .ptr 2 [] 0), (4, .int .i64 0), (5, .int .i64 H), (6, .int .i64 S), (7, .int .i64 T)], [(0, .tab 0 tabV), (1, .var (workA e b x c)), (2, .var a.av)], 3, []⟩) rfl (by rw [hE]; rfl) (by kernel_rfl) ?_ ?_
  · simp only [List.map_cons, List.map_nil]
    iterate 11 refine pQ ?_
    refine pX ?_
    refine call_eff (fun n => n) [false, true] [] rfl rfl rfl rfl (enters_of Tryz.func138 (by kernel_rfl) rfl) (y1.2) rfl rfl (by repeat' (first | exact rfl | exact trivial | constructor)) rfl rfl rfl ?_
    simp only [renH_nil, renH_cons, effR, go_sem, seval]
    refine pX ?_
    refine call_eff (fun n => n) [false, true] [] rfl rfl rfl rfl (enters_of Tryz.func138 (by kernel_rfl) rfl) (y2.2) rfl rfl (by repeat' (first | exact rfl | exact trivial | constructor)) rfl rfl rfl ?_
    simp only [renH_nil, renH_cons, effR, go_sem, seval]
    refine pX ?_
    refine call_eff (fun n => n) [false, true] [] rfl rfl rfl rfl (enters_of Tryz.func138 (by kernel_rfl) rfl) (y3.2) rfl rfl (by repeat' (first | exact rfl | exact trivial | constructor)) rfl rfl rfl ?_
    simp only [renH_nil, renH_cons, effR, go_sem, seval]
    iterate 3 refine pQ ?_
    refine pl_done (st := _) ?_ rfl
    refine wk_ren (fun n => n) mB mB rfl rfl rfl
  exact mX
theorem fits_e (e : Eng) (b : Block) (x : Att) (c : Ask) (a : Att) : CalE Tryz.prog 155 [.ptr 1 [] 0, a.av] 2 (wH e b x c) (.int .i64 (fitsR e a)) (wH e b x c) := by
  unfold fitsR
  split
  · next h => exact fits_10 e b x c a h
  · next h =>
    split
    · next h2 => exact fits_5 e b x c a h h2
    · next h2 =>
      split
      · next h3 => exact fits_9 e b x c a h h2 h3
      · next h3 => exact fits_0 e b x c a h h2 h3
end Go.Proofs.YtgnidooihignfaaGreatDoor
