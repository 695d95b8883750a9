/- For any two links the law LinkClash of the given program answers true, and changes neither. There are no conditions. -/
import Derived.Test.YtjahbgcdplngcaaLkI
import Derived.Test.YtjahbgcdplngcaaLkDec
import Derived.Test.YtjahbgcdplngcaaRows
set_option linter.unusedSimpArgs false
namespace Go.Proofs.Ytjahbgcdplngcaa
open Go Go.Ab Go.ChangeShapes Go.WideShapes Go.ChangeAt Go.RowKit

set_option maxRecDepth 100000 in
theorem linkClash_lifted (os : Os) (started : os.Started) (H : Type) (enc : TypeId × Value → H) :
    ReturnsInHanded {} Try.checked os 6 .any (Rows.linkClashSpec.pre6 enc Try.prog Try.f6 Rows.linkClashRow.domain false) (Rows.linkClashSpec.post enc Try.prog Try.f6 false true false false) := by
  refine lifted_of_pure (C := Try.checked) (m := 8) started own (by kernel_rfl) Try.func6
    (ChangeSpec.witness6 (enc := enc) (C := Try.checked) false ⟨#[], #[.agg (#[.int .u64 0] ++ Array.replicate 32 (.int .u8 0) ++ #[.int .u64 0] ++ Array.replicate 32 (.int .u8 0) ++ #[.int .u64 0]), .agg (#[.int .u64 0] ++ Array.replicate 32 (.int .u8 0) ++ #[.int .u64 0] ++ Array.replicate 32 (.int .u8 0) ++ #[.int .u64 0])], []⟩ 8 (by kernel_rfl) (by kernel_rfl) (by kernel_rfl) (by kernel_rfl)) laidOut rfl (by kernel_rfl) rfl Try.underlying4 ?_ ?_
  · intro ds hds
    match ds, hds with
    | [d1, d2], _ => rfl
  · intro xs hx
    rw [show Try.f6.params.toList = [36, 36] from rfl] at hx
    obtain ⟨z1, s1, rfl, d1, z2, s2, rfl, d2, rfl⟩ := hx
    obtain ⟨x1, rfl, h1⟩ := link_of d1
    obtain ⟨x2, rfl, h2⟩ := link_of d2
    exact LinkClash_pure x1 x2

theorem linkClash_holds : Rows.LinkClashSaid :=
  OpenClaim.holds_of_wide 6 Try.f6 rfl rfl rfl rfl rfl rfl rfl ⟨rfl, rfl, rfl, rfl, rfl⟩ rfl rfl rfl rfl rfl (by kernel_rfl) Try.func6 (by kernel_rfl)
    (of_decide_eq_true (by kernel_rfl)) (by unfold Func.isWrapper; first | (rw [if_pos (by decide +kernel)]; kernel_rfl) | (rw [if_neg (by decide +kernel)]; exact ⟨rfl, rfl⟩))
    (fun os started H enc _ => linkClash_lifted os started H enc)
#print axioms linkClash_holds
