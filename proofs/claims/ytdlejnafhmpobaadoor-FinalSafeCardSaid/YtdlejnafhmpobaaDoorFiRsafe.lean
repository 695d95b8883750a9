/- For all arguments the law FinalSafe of the given program answers true, and changes none of them; the tied card says so of a run in which the listed table reads as the program's text lays it. There are no other conditions. -/
import Derived.Test.YtdlejnafhmpobaaDoorP6
import Derived.Test.YtdlejnafhmpobaaDoorFiDec
import Derived.Test.YtdlejnafhmpobaaDoorRows
import Derived.Test.YtdlejnafhmpobaaDoorTie
import Derived.Test.YtdlejnafhmpobaaDoorCards
set_option linter.unusedSimpArgs false
namespace Go.Proofs.YtdlejnafhmpobaaDoor
open Go Go.Ab Go.ChangeShapes Go.WideShapes Go.ChangeAt Go.RowKit

set_option maxRecDepth 100000 in
theorem finalSafe_lifted (os : Os) (started : os.Started) (H : Type) (enc : TypeId × Value → H) :
    ReturnsInHanded {} Tryd.checked os 8 .any (fun w args => (Rows.finalSafeSpec.pre enc Tryd.prog Tryd.f8 [] false w args ∧ laidMet Tryd.prog theLaid w) ∧ sizedMet enc Tryd.prog Tryd.f8 (OpenSpec.ofChange Rows.finalSafeSpec) false w args)
      (Rows.finalSafeSpec.post enc Tryd.prog Tryd.f8 false true false false) := by
  refine lifted_laid (C := Tryd.checked) (m := 8) (g := 0) (x := tabV) started own (by kernel_rfl) Tryd.func8
    (ChangeSpec.witness_shaped (enc := enc) (C := Tryd.checked) (os := os) (X := fun w _ => laidMet Tryd.prog theLaid w) false (World.laidAll Tryd.prog os theLaid) #[.agg #[.slice none 0 0], .slice none 0 0, .slice none 0 0, .agg (#[.int .u64 0] ++ Array.replicate 32 (.int .u8 0))] 8 (World.laidAll_os _ _ _)
      (World.shaped_of_ZipB (by kernel_rfl) (by kernel_rfl)) (by kernel_rfl) (by kernel_rfl) (by kernel_rfl) (laidMet_laidAll _ (by kernel_rfl) (by kernel_rfl)))
    htab laidOut rfl (by kernel_rfl) rfl Tryd.underlying4 ?_ ?_
  · intro ds hds
    match ds, hds with
    | [d1, d2, d3, d4], _ => rfl
  · intro xs hx
    rw [show Tryd.f8.params.toList = [24, 25, 26, 32] from rfl] at hx
    obtain ⟨z1, s1, rfl, d1, z2, s2, rfl, d2, z3, s3, rfl, d3, z4, s4, rfl, d4, rfl⟩ := hx
    obtain ⟨x1, rfl⟩ := tree_of d1
    obtain ⟨x2, rfl, h2⟩ := links_of d2
    obtain ⟨x3, rfl, h3⟩ := bal_of d3
    obtain ⟨x4, rfl, _⟩ := check_of d4
    exact FinalSafe_T x1 x2 x3 x4 h3.1 h2.1 h2.2

set_option maxRecDepth 100000 in
theorem finalSafe_row : Rows.FinalSafeSaid :=
  OpenClaim.holds_of_wide 8 Tryd.f8 rfl rfl rfl rfl rfl rfl rfl ⟨rfl, rfl, rfl, rfl, rfl⟩ rfl rfl rfl rfl rfl (by kernel_rfl) Tryd.func8 (by kernel_rfl)
    (of_decide_eq_true (by kernel_rfl)) (by unfold Func.isWrapper; first | (rw [if_pos (by decide +kernel)]; kernel_rfl) | (rw [if_neg (by decide +kernel)]; exact ⟨rfl, rfl⟩))
    (fun os started H enc _ => finalSafe_lifted os started H enc)

set_option maxRecDepth 100000 in
theorem finalSafe_holds : Rows.FinalSafeCardSaid :=
  Claim7.holds_tied_plain_at .later [] [.data] true (true, "0698de0faabdddb88f8bf30a1b125b4a7f83b72d35178fbca20ab35a23ec96bf") false
    finalSafe_row (fun _ h => by cases h) (by kernel_rfl) (fun _ h => by cases h) finalSafe_row_tie rfl ⟨rfl, rfl⟩ (by kernel_rfl) rfl
    (fun f fn hf hfn => by
      obtain rfl : f = 8 := Option.some.inj ((show Tryd.prog.funcNamed "areopagus/areopaguslaw16.FinalSafe" = some 8 by kernel_rfl).symm.trans hf) |>.symm
      obtain rfl : fn = Tryd.f8 := (Option.some.inj (Tryd.func8.symm.trans hfn)).symm
      exact ⟨by kernel_rfl, fun j t ht => by
        have hm : t ∈ [24, 25, 26, 32] := by
          have := Array.mem_of_getElem? ht
          rw [show Tryd.f8.params = #[24, 25, 26, 32] from rfl] at this
          simpa using this
        have hall : ([24, 25, 26, 32].all fun u => !Tryd.prog.wantsStandIn u) = true := by kernel_rfl
        exact (show Tryd.prog.wantsStandIn t = false by simpa using List.all_eq_true.1 hall t hm)⟩)
    (by kernel_rfl)
#print axioms finalSafe_holds

end Go.Proofs.YtdlejnafhmpobaaDoor
