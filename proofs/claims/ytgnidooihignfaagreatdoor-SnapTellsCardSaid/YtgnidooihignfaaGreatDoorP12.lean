/- The law of pruning: its walk. -/
import Derived.Test.YtgnidooihignfaaGreatDoorP11
import Derived.Test.YtgnidooihignfaaGreatDoorP7
import Derived.Test.YtgnidooihignfaaGreatDoorP3
import Derived.Test.YtgnidooihignfaaGreatDoorP10
import Derived.Test.YtgnidooihignfaaGreatDoorSnEDec
import Derived.Test.YtgnidooihignfaaGreatDoorRows
import Derived.Test.YtgnidooihignfaaGreatDoorTie
import Derived.Test.YtgnidooihignfaaGreatDoorCards
set_option linter.unusedSimpArgs false
set_option maxRecDepth 10000
namespace Go.Proofs.YtgnidooihignfaaGreatDoor
open Go Go.Ab
theorem eng_of3 {m : Nat} {x : AV} (h : hasT Tryz.prog (m + 6) 38 x) : ∃ e : Eng, x = e.av ∧ e.wf ∧ inU e.o := by
 unfold hasT at h
 rw [Tryz.underlying38] at h
 obtain ⟨xs, rfl, hl, hf⟩ := h
 match xs, hl with
 | [t, b, v, w, a, k, j, f, n], _ =>
   obtain ⟨t, rfl, _⟩ := tree_of (hf 0 _ t rfl rfl)
   obtain ⟨b, rfl, hb⟩ := bal_of (hf 1 _ b rfl rfl)
   obtain ⟨vl, o, rfl, _, ho⟩ := votes_of (hf 2 _ v rfl rfl)
   obtain ⟨w, rfl, _⟩ := bal_of (hf 3 _ w rfl rfl)
   obtain ⟨a, rfl, ha⟩ := atts_of (hf 4 _ a rfl rfl)
   obtain ⟨k, rfl, hk⟩ := links_of (hf 5 _ k rfl rfl)
   obtain ⟨j, rfl⟩ := checks_of (hf 6 _ j rfl rfl)
   obtain ⟨f, rfl, _⟩ := check_of (hf 7 _ f rfl rfl)
   obtain ⟨n, rfl, hn⟩ := u64_of (hf 8 _ n rfl rfl)
   exact ⟨⟨t, b, vl, o, w, a, k, j, f, n⟩, rfl, ⟨⟨hb, hk.1, hk.2⟩, ho.1, ha, hn.1⟩, ho⟩
theorem stells_no (e : Eng) (ver : Int) (s o : Snap) (c : Ask) (h : fewE e = false ∨ fewE e = true ∧ (20 < s.t.length ∨ s.t.length ≤ 20 ∧ 20 < o.t.length)) : CalT Tryz.prog 0 tabV 3 [e.av, .int .i64 ver, s.av, o.av, c.av] (.bool true) := by
 have x1 := awake_t
 have c1 := few_c e
 rcases h with h | ⟨h, h2 | ⟨h2, h3⟩⟩
 · rw [h] at c1
   have hR : Tryz.f3.results.toList = [.tmp 10] := rfl
   refine calE_tr Tryz.func3 rfl fun E hE hP => ?_
   exact mX
 · rw [h] at c1
   have e2 : decide (20 < (s.t.length : Int)) = true := dtO
   have ff := e2
   have hR : Tryz.f3.results.toList = [.tmp 10] := rfl
   refine calE_tr Tryz.func3 rfl fun E hE hP => ?_
   exact mX
 · rw [h] at c1
   have e2 : decide (20 < (s.t.length : Int)) = false := dfO
   have e3 : decide (20 < (o.t.length : Int)) = true := dtO
   have ff := And.intro e2 e3
   have hR : Tryz.f3.results.toList = [.tmp 10] := rfl
   refine calE_tr Tryz.func3 rfl fun E hE hP => ?_
   exact mX
theorem stells_t (e : Eng) (hw : e.wf ∧ inU e.o) (ver : Int) (s o : Snap) (c : Ask) : CalT Tryz.prog 0 tabV 3 [e.av, .int .i64 ver, s.av, o.av, c.av] (.bool true) := by
 cases h1 : fewE e
 · exact stells_no e ver s o c (.inl h1)
 by_cases h2 : s.t.length ≤ 20
 · by_cases h3 : o.t.length ≤ 20
   · have he := fewE_few h1
     have x1 := awake_t
     have c1 := few_c e
     rw [h1] at c1
     have x2 := of_t e he hw.1.ok ver
     have c2 := refof_c e he hw.1 hw.2 ver
     have hol : (ofR e ver).t.length ≤ 100 := by
      unfold ofR
      split
      · exact he.t
      · exact Nat.zero_le _
     generalize ofR e ver = p at x2 c2 hol
     have c3 := rsame_c p p (by omega)
     have ep : (decide (p.t = p.t) && decide (p.ver = p.ver) && decide (p.head = p.head) && decide (p.just = p.just) && decide (p.fin = p.fin)) = true := by simp
     rw [ep] at c3
     have c4 := refsmay_c s (by omega)
     have c5 := smay_c s
     have c6 := rsame_c s o (by omega)
     have c7 := ssame_c s o (by omega)
     have es : (decide (s.ver = o.ver) && decide (s.head = o.head) && decide (s.just = o.just) && decide (s.fin = o.fin) && decide (s.t = o.t)) = (decide (s.t = o.t) && decide (s.ver = o.ver) && decide (s.head = o.head) && decide (s.just = o.just) && decide (s.fin = o.fin)) := by
      cases decide (s.t = o.t) <;> cases decide (s.ver = o.ver) <;> cases decide (s.head = o.head) <;> cases decide (s.just = o.just) <;> cases decide (s.fin = o.fin) <;> rfl
     rw [es] at c7
     generalize (decide (s.t = o.t) && decide (s.ver = o.ver) && decide (s.head = o.head) && decide (s.just = o.just) && decide (s.fin = o.fin)) = q at c6 c7
     generalize smayR s = m at c4 c5
     have c8 := ask_c s c
     have c9 := refask_c s c (by omega)
     generalize askR s c = a at c8 c9
     have e2 : decide (20 < (s.t.length : Int)) = false := dfO
     have e3 : decide (20 < (o.t.length : Int)) = false := dfO
     have e4 : decide (m = m) = true := decide_eq_true rfl
     have e5 : decide (q = q) = true := decide_eq_true rfl
     have e6 : decide (a = a) = true := decide_eq_true rfl
     have ff := And.intro e2 (And.intro e3 (And.intro e4 (And.intro e5 e6)))
     have hR : Tryz.f3.results.toList = [.tmp 10] := rfl
     refine calE_tr Tryz.func3 rfl fun E hE hP => ?_
     refine mW ?_
     have c1 := snote_c s
     exact mX
   · exact stells_no e ver s o c (.inr ⟨h1, .inr ⟨h2, by omega⟩⟩)
 · exact stells_no e ver s o c (.inr ⟨h1, .inl (by omega)⟩)
end Go.Proofs.YtgnidooihignfaaGreatDoor
set_option linter.unusedSimpArgs false
namespace Go.Proofs.YtgnidooihignfaaGreatDoor
open Go Go.Ab Go.ChangeShapes Go.WideShapes Go.ChangeAt Go.RowKit
set_option maxRecDepth 100000 in
theorem snapTells_lifted (os : Os) (started : os.Started) (H : Type) (enc : TypeId × Value → H) :
 ReturnsInHanded {} Tryz.checked os 3 .any (fun w args => (Rows.snapTellsSpec.pre enc Tryz.prog Tryz.f3 [] false w args ∧ laidMet Tryz.prog theLaid w) ∧ sizedMet enc Tryz.prog Tryz.f3 (OpenSpec.ofChange Rows.snapTellsSpec) false w args)
  (Rows.snapTellsSpec.post enc Tryz.prog Tryz.f3 false true false false) := by
 refine lifted_laid (C := Tryz.checked) (m := 8) (g := 0) (x := tabV) started own kR Tryz.func3
  (ChangeSpec.witness_shaped (enc := enc) (C := Tryz.checked) (os := os) (X := fun w _ => laidMet Tryz.prog theLaid w) false (World.laidAll Tryz.prog os theLaid) #[.agg (#[.slice none 0 0, .slice none 0 0, .slice none 0 0, .int .u64 0, .slice none 0 0, .slice none 0 0, .slice none 0 0, .slice none 0 0, .int .u64 0] ++ Array.replicate 32 (.int .u8 0) ++ #[.int .u64 0]), .int .i64 0, .agg (#[.int .i64 0, .slice none 0 0] ++ Array.replicate 32 (.int .u8 0) ++ #[.int .u64 0] ++ Array.replicate 32 (.int .u8 0) ++ #[.int .u64 0] ++ Array.replicate 32 (.int .u8 0)), .agg (#[.int .i64 0, .slice none 0 0] ++ Array.replicate 32 (.int .u8 0) ++ #[.int .u64 0] ++ Array.replicate 32 (.int .u8 0) ++ #[.int .u64 0] ++ Array.replicate 32 (.int .u8 0)), .agg (#[.int .i64 0, .slice none 0 0] ++ Array.replicate 32 (.int .u8 0) ++ Array.replicate 32 (.int .u8 0) ++ #[.int .u64 0])] 8 (World.laidAll_os _ _ _)
   (World.shaped_of_ZipB kR kR) kR kR kR (laidMet_laidAll _ kR kR))
  htab laidOut rfl kR rfl Tryz.underlying4 ?_ ?_
 · intro ds hds
   match ds, hds with
   | [d1, d2, d3, d4, d5], _ => rfl
 · intro xs hx
   rw [show Tryz.f3.params.toList = [38, 3, 40, 40, 43] from rfl] at hx
   obtain ⟨z1, s1, rfl, d1, z2, s2, rfl, d2, z3, s3, rfl, d3, z4, s4, rfl, d4, z5, s5, rfl, d5, rfl⟩ := hx
   obtain ⟨x1, rfl, h1⟩ := eng_of3 d1
   obtain ⟨x2, rfl⟩ := int_of d2
   obtain ⟨x3, rfl, _⟩ := snap_of d3
   obtain ⟨x4, rfl, _⟩ := snap_of d4
   obtain ⟨x5, rfl, _⟩ := call_of d5
   exact (stells_t x1 h1 x2 x3 x4 x5).2
end Go.Proofs.YtgnidooihignfaaGreatDoor
