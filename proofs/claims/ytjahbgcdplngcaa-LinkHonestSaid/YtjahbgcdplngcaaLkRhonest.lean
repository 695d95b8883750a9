/- For any checkpoints and any number the law LinkHonest of the given program answers true, and changes neither. There are no conditions. -/
import Derived.Test.YtjahbgcdplngcaaLkM
import Derived.Test.YtjahbgcdplngcaaLkDecC
import Derived.Test.YtjahbgcdplngcaaRows
set_option linter.unusedSimpArgs false
namespace Go.Proofs.Ytjahbgcdplngcaa
open Go Go.Ab Go.ChangeShapes Go.WideShapes Go.ChangeAt Go.RowKit

set_option maxRecDepth 100000 in
theorem linkHonest_lifted (os : Os) (started : os.Started) (H : Type) (enc : TypeId × Value → H) :
    ReturnsInHanded {} Try.checked os 8 .any (Rows.linkHonestSpec.pre6 enc Try.prog Try.f8 Rows.linkHonestRow.domain false) (Rows.linkHonestSpec.post enc Try.prog Try.f8 false true false false) := by
  refine lifted_of_pure (C := Try.checked) (m := 8) started own (by kernel_rfl) Try.func8
    (ChangeSpec.witness6 (enc := enc) (C := Try.checked) false ⟨#[], #[.slice none 0 0, .int .i64 0], []⟩ 8 (by kernel_rfl) (by kernel_rfl) (by kernel_rfl) (by kernel_rfl)) laidOut rfl (by kernel_rfl) rfl Try.underlying4 ?_ ?_
  · intro ds hds
    match ds, hds with
    | [d1, d2], _ => rfl
  · intro xs hx
    rw [show Try.f8.params.toList = [43, 3] from rfl] at hx
    obtain ⟨z1, s1, rfl, d1, z2, s2, rfl, d2, rfl⟩ := hx
    obtain ⟨x1, rfl, h1⟩ := checks_of d1
    obtain ⟨x2, rfl⟩ := int_of d2
    exact LinkHonest_pure x1 x2

theorem linkHonest_holds : Rows.LinkHonestSaid :=
  OpenClaim.holds_of_wide 8 Try.f8 rfl rfl rfl rfl rfl rfl rfl ⟨rfl, rfl, rfl, rfl, rfl⟩ rfl rfl rfl rfl rfl (by kernel_rfl) Try.func8 (by kernel_rfl)
    (of_decide_eq_true (by kernel_rfl)) (by unfold Func.isWrapper; first | (rw [if_pos (by decide +kernel)]; kernel_rfl) | (rw [if_neg (by decide +kernel)]; exact ⟨rfl, rfl⟩))
    (fun os started H enc _ => linkHonest_lifted os started H enc)
#print axioms linkHonest_holds
