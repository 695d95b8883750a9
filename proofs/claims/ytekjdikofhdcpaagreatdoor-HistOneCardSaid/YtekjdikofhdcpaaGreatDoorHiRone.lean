/- For all arguments the law HistOne of the given program answers true, and changes none of them; the tied card says so of a run in which the listed table reads as the program's text lays it. There are no other conditions. -/
import Derived.Test.YtekjdikofhdcpaaGreatDoorP12
import Derived.Test.YtekjdikofhdcpaaGreatDoorHiDec
import Derived.Test.YtekjdikofhdcpaaGreatDoorRows
import Derived.Test.YtekjdikofhdcpaaGreatDoorTie
import Derived.Test.YtekjdikofhdcpaaGreatDoorCards
set_option linter.unusedSimpArgs false
namespace Go.Proofs.YtekjdikofhdcpaaGreatDoor
open Go Go.Ab Go.ChangeShapes Go.WideShapes Go.ChangeAt Go.RowKit
set_option maxRecDepth 100000 in
theorem histOne_lifted (os : Os) (started : os.Started) (H : Type) (enc : TypeId × Value → H) :
 ReturnsInHanded {} Tryz.checked os 8 .any (fun w args => (Rows.histOneSpec.pre enc Tryz.prog Tryz.f8 [] false w args ∧ laidMet Tryz.prog theLaid w) ∧ sizedMet enc Tryz.prog Tryz.f8 (OpenSpec.ofChange Rows.histOneSpec) false w args)
  (Rows.histOneSpec.post enc Tryz.prog Tryz.f8 false true false false) := by
 refine lifted_laid (C := Tryz.checked) (m := 8) (g := 0) (x := tabV) started own (by kernel_rfl) Tryz.func8
  (ChangeSpec.witness_shaped (enc := enc) (C := Tryz.checked) (os := os) (X := fun w _ => laidMet Tryz.prog theLaid w) false (World.laidAll Tryz.prog os theLaid) #[.agg (#[.slice none 0 0, .slice none 0 0, .slice none 0 0, .int .u64 0, .slice none 0 0, .slice none 0 0, .slice none 0 0, .slice none 0 0, .int .u64 0] ++ Array.replicate 32 (.int .u8 0) ++ #[.int .u64 0]), .bool false, .agg (#[.int .i64 0, .slice none 0 0] ++ Array.replicate 32 (.int .u8 0) ++ Array.replicate 32 (.int .u8 0) ++ #[.int .u64 0])] 8 (World.laidAll_os _ _ _)
   (World.shaped_of_ZipB (by kernel_rfl) (by kernel_rfl)) (by kernel_rfl) (by kernel_rfl) (by kernel_rfl) (laidMet_laidAll _ (by kernel_rfl) (by kernel_rfl)))
  htab laidOut rfl (by kernel_rfl) rfl Tryz.underlying4 ?_ ?_
 · intro ds hds
   match ds, hds with
   | [d1, d2, d3], _ => rfl
 · intro xs hx
   rw [show Tryz.f8.params.toList = [38, 4, 43] from rfl] at hx
   obtain ⟨z1, s1, rfl, d1, z2, s2, rfl, d2, z3, s3, rfl, d3, rfl⟩ := hx
   obtain ⟨x1, rfl, h1⟩ := eng_of2 d1
   obtain ⟨x2, rfl⟩ := bool_of d2
   obtain ⟨x3, rfl, _⟩ := call_of d3
   exact (hone_t x1 h1 x2 x3).2
set_option maxRecDepth 100000 in
theorem histOne_row : Rows.HistOneSaid :=
 OpenClaim.holds_of_wide 8 Tryz.f8 rfl rfl rfl rfl rfl rfl rfl ⟨rfl, rfl, rfl, rfl, rfl⟩ rfl rfl rfl rfl rfl (by kernel_rfl) Tryz.func8 (by kernel_rfl)
  (of_decide_eq_true (by kernel_rfl)) (by unfold Func.isWrapper; first | (rw [if_pos (by decide +kernel)]; kernel_rfl) | (rw [if_neg (by decide +kernel)]; exact ⟨rfl, rfl⟩))
  (fun os started H enc _ => histOne_lifted os started H enc)
set_option maxRecDepth 100000 in
theorem histOne_holds : Rows.HistOneCardSaid :=
 Claim7.holds_tied_plain_at .later [] [.data] true (true, "75313ae37f2bf438211c16e2f0c83fd347e93202d89a6cbea126968164662503") false
  histOne_row (fun _ h => by cases h) (by kernel_rfl) (fun _ h => by cases h) histOne_row_tie rfl ⟨rfl, rfl⟩ (by kernel_rfl) rfl
  (fun f fn hf hfn => by
   obtain rfl : f = 8 := Option.some.inj ((show Tryz.prog.funcNamed "areopagus/areopaguslaw21.HistOne" = some 8 by kernel_rfl).symm.trans hf) |>.symm
   obtain rfl : fn = Tryz.f8 := (Option.some.inj (Tryz.func8.symm.trans hfn)).symm
   exact ⟨by kernel_rfl, fun j t ht => by
    have hm : t ∈ [38, 4, 43] := by
     have := Array.mem_of_getElem? ht
     rw [show Tryz.f8.params = #[38, 4, 43] from rfl] at this
     simpa using this
    have hall : ([38, 4, 43].all fun u => !Tryz.prog.wantsStandIn u) = true := by kernel_rfl
    exact (show Tryz.prog.wantsStandIn t = false by simpa using List.all_eq_true.1 hall t hm)⟩)
  (by kernel_rfl)
#print axioms histOne_holds
end Go.Proofs.YtekjdikofhdcpaaGreatDoor
