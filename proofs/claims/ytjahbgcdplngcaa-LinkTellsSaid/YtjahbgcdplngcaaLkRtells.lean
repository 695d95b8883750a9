/- For any two lists of links, any two checkpoints and any number the law LinkTells of the given program answers true, and changes none of them. There are no conditions. -/
import Derived.Test.YtjahbgcdplngcaaLkS
import Derived.Test.YtjahbgcdplngcaaLkDec
import Derived.Test.YtjahbgcdplngcaaRows
set_option linter.unusedSimpArgs false
namespace Go.Proofs.Ytjahbgcdplngcaa
open Go Go.Ab Go.ChangeShapes Go.WideShapes Go.ChangeAt Go.RowKit

set_option maxRecDepth 100000 in
theorem linkTells_lifted (os : Os) (started : os.Started) (H : Type) (enc : TypeId × Value → H) :
    ReturnsInHanded {} Try.checked os 3 .any (Rows.linkTellsSpec.pre6 enc Try.prog Try.f3 Rows.linkTellsRow.domain false) (Rows.linkTellsSpec.post enc Try.prog Try.f3 false true false false) := by
  refine lifted_of_pure (C := Try.checked) (m := 8) started own (by kernel_rfl) Try.func3
    (ChangeSpec.witness6 (enc := enc) (C := Try.checked) false ⟨#[], #[.slice none 0 0, .slice none 0 0, .agg (#[.int .u64 0] ++ Array.replicate 32 (.int .u8 0)), .agg (#[.int .u64 0] ++ Array.replicate 32 (.int .u8 0)), .int .i64 0], []⟩ 8 (by kernel_rfl) (by kernel_rfl) (by kernel_rfl) (by kernel_rfl)) laidOut rfl (by kernel_rfl) rfl Try.underlying4 ?_ ?_
  · intro ds hds
    match ds, hds with
    | [d1, d2, d3, d4, d5], _ => rfl
  · intro xs hx
    rw [show Try.f3.params.toList = [22, 22, 27, 27, 3] from rfl] at hx
    obtain ⟨z1, s1, rfl, d1, z2, s2, rfl, d2, z3, s3, rfl, d3, z4, s4, rfl, d4, z5, s5, rfl, d5, rfl⟩ := hx
    obtain ⟨x1, rfl, h1⟩ := links_of d1
    obtain ⟨x2, rfl, h2⟩ := links_of d2
    obtain ⟨x3, rfl, h3⟩ := check_of d3
    obtain ⟨x4, rfl, h4⟩ := check_of d4
    obtain ⟨x5, rfl⟩ := int_of d5
    exact LinkTells_pure x1 x2 x3 x4 x5 (fun a ha => (h1 a ha).2.2.1)

theorem linkTells_holds : Rows.LinkTellsSaid :=
  OpenClaim.holds_of_wide 3 Try.f3 rfl rfl rfl rfl rfl rfl rfl ⟨rfl, rfl, rfl, rfl, rfl⟩ rfl rfl rfl rfl rfl (by kernel_rfl) Try.func3 (by kernel_rfl)
    (of_decide_eq_true (by kernel_rfl)) (by unfold Func.isWrapper; first | (rw [if_pos (by decide +kernel)]; kernel_rfl) | (rw [if_neg (by decide +kernel)]; exact ⟨rfl, rfl⟩))
    (fun os started H enc _ => linkTells_lifted os started H enc)
#print axioms linkTells_holds
