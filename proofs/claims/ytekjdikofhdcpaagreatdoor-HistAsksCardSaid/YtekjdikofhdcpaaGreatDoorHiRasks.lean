/- For all arguments the law HistAsks of the given program answers true, and changes none of them; the tied card says so of a run in which the listed table reads as the program's text lays it. There are no other conditions. -/
import Derived.Test.YtekjdikofhdcpaaGreatDoorP11
import Derived.Test.YtekjdikofhdcpaaGreatDoorHiDec
import Derived.Test.YtekjdikofhdcpaaGreatDoorRows
import Derived.Test.YtekjdikofhdcpaaGreatDoorTie
import Derived.Test.YtekjdikofhdcpaaGreatDoorCards
set_option linter.unusedSimpArgs false
namespace Go.Proofs.YtekjdikofhdcpaaGreatDoor
open Go Go.Ab Go.ChangeShapes Go.WideShapes Go.ChangeAt Go.RowKit
set_option maxRecDepth 100000 in
theorem histAsks_lifted (os : Os) (started : os.Started) (H : Type) (enc : TypeId × Value → H) :
 ReturnsInHanded {} Tryz.checked os 6 .any (fun w args => (Rows.histAsksSpec.pre enc Tryz.prog Tryz.f6 [] false w args ∧ laidMet Tryz.prog theLaid w) ∧ sizedMet enc Tryz.prog Tryz.f6 (OpenSpec.ofChange Rows.histAsksSpec) false w args)
  (Rows.histAsksSpec.post enc Tryz.prog Tryz.f6 false true false false) := by
 refine lifted_laid (C := Tryz.checked) (m := 8) (g := 0) (x := tabV) started own (by kernel_rfl) Tryz.func6
  (ChangeSpec.witness_shaped (enc := enc) (C := Tryz.checked) (os := os) (X := fun w _ => laidMet Tryz.prog theLaid w) false (World.laidAll Tryz.prog os theLaid) #[.agg (#[.slice none 0 0, .slice none 0 0, .slice none 0 0, .int .u64 0, .slice none 0 0, .slice none 0 0, .slice none 0 0, .slice none 0 0, .int .u64 0] ++ Array.replicate 32 (.int .u8 0) ++ #[.int .u64 0]), .slice none 0 0, .slice none 0 0, .int .i64 0] 8 (World.laidAll_os _ _ _)
   (World.shaped_of_ZipB (by kernel_rfl) (by kernel_rfl)) (by kernel_rfl) (by kernel_rfl) (by kernel_rfl) (laidMet_laidAll _ (by kernel_rfl) (by kernel_rfl)))
  htab laidOut rfl (by kernel_rfl) rfl Tryz.underlying4 ?_ ?_
 · intro ds hds
   match ds, hds with
   | [d1, d2, d3, d4], _ => rfl
 · intro xs hx
   rw [show Tryz.f6.params.toList = [38, 39, 40, 3] from rfl] at hx
   obtain ⟨z1, s1, rfl, d1, z2, s2, rfl, d2, z3, s3, rfl, d3, z4, s4, rfl, d4, rfl⟩ := hx
   obtain ⟨x1, rfl, h1⟩ := eng_of2 d1
   obtain ⟨x2, rfl⟩ := ticks_of d2
   obtain ⟨x3, rfl⟩ := ints_of d3
   obtain ⟨x4, rfl⟩ := int_of d4
   exact (hasks_t x1 h1 x2 x3 x4).2
set_option maxRecDepth 100000 in
theorem histAsks_row : Rows.HistAsksSaid :=
 OpenClaim.holds_of_wide 6 Tryz.f6 rfl rfl rfl rfl rfl rfl rfl ⟨rfl, rfl, rfl, rfl, rfl⟩ rfl rfl rfl rfl rfl (by kernel_rfl) Tryz.func6 (by kernel_rfl)
  (of_decide_eq_true (by kernel_rfl)) (by unfold Func.isWrapper; first | (rw [if_pos (by decide +kernel)]; kernel_rfl) | (rw [if_neg (by decide +kernel)]; exact ⟨rfl, rfl⟩))
  (fun os started H enc _ => histAsks_lifted os started H enc)
set_option maxRecDepth 100000 in
theorem histAsks_holds : Rows.HistAsksCardSaid :=
 Claim7.holds_tied_plain_at .later [] [.data] true (true, "75313ae37f2bf438211c16e2f0c83fd347e93202d89a6cbea126968164662503") false
  histAsks_row (fun _ h => by cases h) (by kernel_rfl) (fun _ h => by cases h) histAsks_row_tie rfl ⟨rfl, rfl⟩ (by kernel_rfl) rfl
  (fun f fn hf hfn => by
   obtain rfl : f = 6 := Option.some.inj ((show Tryz.prog.funcNamed "areopagus/areopaguslaw21.HistAsks" = some 6 by kernel_rfl).symm.trans hf) |>.symm
   obtain rfl : fn = Tryz.f6 := (Option.some.inj (Tryz.func6.symm.trans hfn)).symm
   exact ⟨by kernel_rfl, fun j t ht => by
    have hm : t ∈ [38, 39, 40, 3] := by
     have := Array.mem_of_getElem? ht
     rw [show Tryz.f6.params = #[38, 39, 40, 3] from rfl] at this
     simpa using this
    have hall : ([38, 39, 40, 3].all fun u => !Tryz.prog.wantsStandIn u) = true := by kernel_rfl
    exact (show Tryz.prog.wantsStandIn t = false by simpa using List.all_eq_true.1 hall t hm)⟩)
  (by kernel_rfl)
#print axioms histAsks_holds
end Go.Proofs.YtekjdikofhdcpaaGreatDoor
