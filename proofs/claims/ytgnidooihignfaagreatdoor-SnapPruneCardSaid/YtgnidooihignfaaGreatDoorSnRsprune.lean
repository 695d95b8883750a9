/- For all arguments the law SnapPrune of the given program answers true, and changes none of them; the tied card says so of a run in which the listed table reads as the program's text lays it. There are no other conditions. -/
import Derived.Test.YtgnidooihignfaaGreatDoorP11
import Derived.Test.YtgnidooihignfaaGreatDoorSnEDec
import Derived.Test.YtgnidooihignfaaGreatDoorRows
import Derived.Test.YtgnidooihignfaaGreatDoorTie
import Derived.Test.YtgnidooihignfaaGreatDoorCards
set_option linter.unusedSimpArgs false
namespace Go.Proofs.YtgnidooihignfaaGreatDoor
open Go Go.Ab Go.ChangeShapes Go.WideShapes Go.ChangeAt Go.RowKit

set_option maxRecDepth 100000 in
theorem snapPrune_lifted (os : Os) (started : os.Started) (H : Type) (enc : TypeId × Value → H) :
    ReturnsInHanded {} Tryz.checked os 5 .any (fun w args => (Rows.snapPruneSpec.pre enc Tryz.prog Tryz.f5 [] false w args ∧ laidMet Tryz.prog theLaid w) ∧ sizedMet enc Tryz.prog Tryz.f5 (OpenSpec.ofChange Rows.snapPruneSpec) false w args)
      (Rows.snapPruneSpec.post enc Tryz.prog Tryz.f5 false true false false) := by
  refine lifted_laid (C := Tryz.checked) (m := 8) (g := 0) (x := tabV) started own (by kernel_rfl) Tryz.func5
    (ChangeSpec.witness_shaped (enc := enc) (C := Tryz.checked) (os := os) (X := fun w _ => laidMet Tryz.prog theLaid w) false (World.laidAll Tryz.prog os theLaid) #[.agg (#[.slice none 0 0, .slice none 0 0, .slice none 0 0, .int .u64 0, .slice none 0 0, .slice none 0 0, .slice none 0 0, .slice none 0 0, .int .u64 0] ++ Array.replicate 32 (.int .u8 0) ++ #[.int .u64 0]), .agg (#[.int .i64 0, .slice none 0 0] ++ Array.replicate 32 (.int .u8 0) ++ Array.replicate 32 (.int .u8 0) ++ #[.int .u64 0])] 8 (World.laidAll_os _ _ _)
      (World.shaped_of_ZipB (by kernel_rfl) (by kernel_rfl)) (by kernel_rfl) (by kernel_rfl) (by kernel_rfl) (laidMet_laidAll _ (by kernel_rfl) (by kernel_rfl)))
    htab laidOut rfl (by kernel_rfl) rfl Tryz.underlying4 ?_ ?_
  · intro ds hds
    match ds, hds with
    | [d1, d2], _ => rfl
  · intro xs hx
    rw [show Tryz.f5.params.toList = [38, 43] from rfl] at hx
    obtain ⟨z1, s1, rfl, d1, z2, s2, rfl, d2, rfl⟩ := hx
    obtain ⟨x1, rfl, h1⟩ := eng_of2 d1
    obtain ⟨x2, rfl, _⟩ := call_of d2
    exact (sprune_t x1 h1 x2).2

set_option maxRecDepth 100000 in
theorem snapPrune_row : Rows.SnapPruneSaid :=
  OpenClaim.holds_of_wide 5 Tryz.f5 rfl rfl rfl rfl rfl rfl rfl ⟨rfl, rfl, rfl, rfl, rfl⟩ rfl rfl rfl rfl rfl (by kernel_rfl) Tryz.func5 (by kernel_rfl)
    (of_decide_eq_true (by kernel_rfl)) (by unfold Func.isWrapper; first | (rw [if_pos (by decide +kernel)]; kernel_rfl) | (rw [if_neg (by decide +kernel)]; exact ⟨rfl, rfl⟩))
    (fun os started H enc _ => snapPrune_lifted os started H enc)

set_option maxRecDepth 100000 in
theorem snapPrune_holds : Rows.SnapPruneCardSaid :=
  Claim7.holds_tied_plain_at .later [] [.data] true (true, "0f6c58fbd34454627b03dc5aa3f72d77f520a83c0acdbe20467a7ed831b66302") false
    snapPrune_row (fun _ h => by cases h) (by kernel_rfl) (fun _ h => by cases h) snapPrune_row_tie rfl ⟨rfl, rfl⟩ (by kernel_rfl) rfl
    (fun f fn hf hfn => by
      obtain rfl : f = 5 := Option.some.inj ((show Tryz.prog.funcNamed "areopagus/areopaguslaw18.SnapPrune" = some 5 by kernel_rfl).symm.trans hf) |>.symm
      obtain rfl : fn = Tryz.f5 := (Option.some.inj (Tryz.func5.symm.trans hfn)).symm
      exact ⟨by kernel_rfl, fun j t ht => by
        have hm : t ∈ [38, 43] := by
          have := Array.mem_of_getElem? ht
          rw [show Tryz.f5.params = #[38, 43] from rfl] at this
          simpa using this
        have hall : ([38, 43].all fun u => !Tryz.prog.wantsStandIn u) = true := by kernel_rfl
        exact (show Tryz.prog.wantsStandIn t = false by simpa using List.all_eq_true.1 hall t hm)⟩)
    (by kernel_rfl)
#print axioms snapPrune_holds

end Go.Proofs.YtgnidooihignfaaGreatDoor
