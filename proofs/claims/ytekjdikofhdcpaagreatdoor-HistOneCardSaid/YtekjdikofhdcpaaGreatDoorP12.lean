/- The law HistOne. -/
import Derived.Test.YtekjdikofhdcpaaGreatDoorP11
import Derived.Test.YtekjdikofhdcpaaGreatDoorP7
set_option linter.unusedSimpArgs false
set_option maxRecDepth 10000
namespace Go.Proofs.YtekjdikofhdcpaaGreatDoor
open Go Go.Ab
theorem hone_no (e : Eng) (s : Bool) (c : Ask) (h : fewE e = false ∨ fewE e = true ∧ 200 < c.vals.length) : CalT Tryz.prog 0 tabV 8 [e.av, .bool s, c.av] (.bool true) := by
 have x1 := awake21_t
 have c1 := few_c e
 rcases h with h | ⟨h, h2⟩
 · rw [h] at c1
   have hR : Tryz.f8.results.toList = [.tmp 6] := rfl
   refine calE_tr Tryz.func8 rfl fun E hE hP => ?_
   exact mX
 rw [h] at c1
 have ff : decide ((200 : Int) < (c.vals.length : Int)) = true := dtO
 have hR : Tryz.f8.results.toList = [.tmp 6] := rfl
 refine calE_tr Tryz.func8 rfl fun E hE hP => ?_
 exact mX
set_option maxHeartbeats 2000000 in
theorem hone_ask (e : Eng) (s : Bool) (c : Ask) (r : Resp) (h0 : decide ((200 : Int) < (c.vals.length : Int)) = false) (c1 : Cal Tryz.prog 10 [e.av] (.bool true)) (c2 : Cal Tryz.prog 21 [e.av, e.av] (.bool true)) (hk : decide (c.kind < 0) = true ∨ decide (c.kind < 0) = false ∧ decide (4 < c.kind) = true)
 (x2 : CalT Tryz.prog 0 tabV 12 [e.av, .bool s, c.av] (.tup [e.av, .bool s, r.av])) (x3 : CalT Tryz.prog 0 tabV 12 [e.av, .bool !s, c.av] (.tup [e.av, .bool !s, r.av])) : CalT Tryz.prog 0 tabV 8 [e.av, .bool s, c.av] (.bool true) := by
 have x1 := awake21_t
 have e1 : decide (s = s) = true := decide_eq_true rfl
 have e2 : decide (r = r) = true := decide_eq_true rfl
 rcases hk with hk | hk
 · have ff := And.intro h0 (And.intro hk (And.intro e1 e2))
   have hR : Tryz.f8.results.toList = [.tmp 6] := rfl
   refine calE_tr Tryz.func8 rfl fun E hE hP => ?_
   exact mX
 · have ff := And.intro h0 (And.intro hk (And.intro e1 e2))
   have hR : Tryz.f8.results.toList = [.tmp 6] := rfl
   refine calE_tr Tryz.func8 rfl fun E hE hP => ?_
   exact mX
set_option maxHeartbeats 4000000 in
theorem hone_do (e f : Eng) (s d : Bool) (c : Ask) (r : Resp) (h0 : decide ((200 : Int) < (c.vals.length : Int)) = false) (c1 : Cal Tryz.prog 10 [e.av] (.bool true)) (c2 : Cal Tryz.prog 21 [e.av, e.av] (.bool true)) (hk : decide (c.kind < 0) = false ∧ decide (4 < c.kind) = false)
 (x2 : CalT Tryz.prog 0 tabV 12 [e.av, .bool s, c.av] (.tup [f.av, .bool d, r.av])) (hr : decide (r.e = 0) = true ∨ decide (r.e = 0) = false ∧ f = e ∧ d = s) (hs : s = true → r = failR 11 ∧ d = true) (hd : d = s ∨ decide (d = s) = false ∧ decide (c.kind = 4) = true) : CalT Tryz.prog 0 tabV 8 [e.av, .bool s, c.av] (.bool true) := by
 have x1 := awake21_t
 cases s
 · cases d
   · rcases hr with hr | ⟨hr, rfl, _⟩
     · have ff := And.intro h0 (And.intro hk hr)
       have hR : Tryz.f8.results.toList = [.tmp 6] := rfl
       refine calE_tr Tryz.func8 rfl fun E hE hP => ?_
       exact mX
     · have ff := And.intro h0 (And.intro hk hr)
       have hR : Tryz.f8.results.toList = [.tmp 6] := rfl
       refine calE_tr Tryz.func8 rfl fun E hE hP => ?_
       exact mX
   · have hd := hd.resolve_left (by decide)
     rcases hr with hr | ⟨hr, rfl, h⟩
     · have ff := And.intro h0 (And.intro hk (And.intro hr hd.2))
       have hR : Tryz.f8.results.toList = [.tmp 6] := rfl
       refine calE_tr Tryz.func8 rfl fun E hE hP => ?_
       exact mX
     · cases h
 · obtain ⟨rfl, rfl⟩ := hs rfl
   have e2 : decide (failR 11 = failR 11) = true := decide_eq_true rfl
   rcases hr with hr | ⟨hr, rfl, _⟩
   · cases hr
   · have ff := And.intro h0 (And.intro hk (And.intro hr e2))
     have hR : Tryz.f8.results.toList = [.tmp 6] := rfl
     refine calE_tr Tryz.func8 rfl fun E hE hP => ?_
     exact mX
theorem hone_t (e : Eng) (hw : e.wf) (s : Bool) (c : Ask) : CalT Tryz.prog 0 tabV 8 [e.av, .bool s, c.av] (.bool true) := by
 cases h1 : fewE e
 · exact hone_no e s c (.inl h1)
 by_cases h2 : 200 < c.vals.length
 · exact hone_no e s c (.inr ⟨h1, h2⟩)
 have hK := keep_few h1 hw
 have c1 := few_c e
 rw [h1] at c1
 have c2 := esame_c e hK.few
 have x2 := one_k e s c hK
 have h0 : decide ((200 : Int) < (c.vals.length : Int)) = false := dfO
 cases hc : changesR c
 · have x3 := one_k e (!s) c hK
   have er : ∀ b, oneR e b c = (e, b, askR (ofR e 0) c) := fun b => by rw [oneR, if_pos hc]
   rw [er] at x2 x3
   refine hone_ask e s c _ h0 c1 c2 ?_ x2 x3
   unfold changesR at hc
   rw [Bool.and_eq_false_iff, decide_eq_false_iff_not, decide_eq_false_iff_not] at hc
   rcases hc with hc | hc
   · exact .inl (dtO)
   · by_cases h : c.kind < 0
     · exact .inl (decide_eq_true h)
     · exact .inr ⟨decide_eq_false h, dtO⟩
 · have hk : decide (c.kind < 0) = false ∧ decide (4 < c.kind) = false := by
    unfold changesR at hc
    rw [Bool.and_eq_true, decide_eq_true_eq, decide_eq_true_eq] at hc
    exact ⟨dfO, dfO⟩
   refine hone_do e _ s _ c _ h0 c1 c2 hk x2 ?_ ?_ ?_
   · unfold oneR
     rw [hc, if_neg (by simp)]
     split
     · exact .inr ⟨rfl, rfl, rfl⟩
     split
     · exact .inl rfl
     · by_cases h : (doR e c).2 = 0
       · exact .inl (decide_eq_true h)
       · exact .inr ⟨decide_eq_false h, doR_err h, rfl⟩
   · intro hs
     unfold oneR
     rw [hc, if_neg (by simp), if_pos hs]
     exact ⟨rfl, hs⟩
   · unfold oneR
     rw [hc, if_neg (by simp)]
     split
     · exact .inl rfl
     · next hs =>
       split
       · next h4 =>
         refine .inr ⟨?_, decide_eq_true h4⟩
         cases s
         · rfl
         · exact absurd rfl hs
       · exact .inl rfl
end Go.Proofs.YtekjdikofhdcpaaGreatDoor
