/- For any links the law LinkTurned of the given program answers true, and changes none of them. There are no conditions. -/
import Derived.Test.YtjahbgcdplngcaaLkJ
import Derived.Test.YtjahbgcdplngcaaLkDec
import Derived.Test.YtjahbgcdplngcaaRows
set_option linter.unusedSimpArgs false
namespace Go.Proofs.Ytjahbgcdplngcaa
open Go Go.Ab Go.ChangeShapes Go.WideShapes Go.ChangeAt Go.RowKit

set_option maxRecDepth 100000 in
theorem linkTurned_lifted (os : Os) (started : os.Started) (H : Type) (enc : TypeId × Value → H) :
    ReturnsInHanded {} Try.checked os 7 .any (Rows.linkTurnedSpec.pre6 enc Try.prog Try.f7 Rows.linkTurnedRow.domain false) (Rows.linkTurnedSpec.post enc Try.prog Try.f7 false true false false) := by
  refine lifted_of_pure (C := Try.checked) (m := 8) started own (by kernel_rfl) Try.func7
    (ChangeSpec.witness6 (enc := enc) (C := Try.checked) false ⟨#[], #[.slice none 0 0], []⟩ 8 (by kernel_rfl) (by kernel_rfl) (by kernel_rfl) (by kernel_rfl)) laidOut rfl (by kernel_rfl) rfl Try.underlying4 ?_ ?_
  · intro ds hds
    match ds, hds with
    | [d1], _ => rfl
  · intro xs hx
    rw [show Try.f7.params.toList = [22] from rfl] at hx
    obtain ⟨z1, s1, rfl, d1, rfl⟩ := hx
    obtain ⟨x1, rfl, h1⟩ := links_of d1
    exact LinkTurned_pure x1

theorem linkTurned_holds : Rows.LinkTurnedSaid :=
  OpenClaim.holds_of_wide 7 Try.f7 rfl rfl rfl rfl rfl rfl rfl ⟨rfl, rfl, rfl, rfl, rfl⟩ rfl rfl rfl rfl rfl (by kernel_rfl) Try.func7 (by kernel_rfl)
    (of_decide_eq_true (by kernel_rfl)) (by unfold Func.isWrapper; first | (rw [if_pos (by decide +kernel)]; kernel_rfl) | (rw [if_neg (by decide +kernel)]; exact ⟨rfl, rfl⟩))
    (fun os started H enc _ => linkTurned_lifted os started H enc)
#print axioms linkTurned_holds
