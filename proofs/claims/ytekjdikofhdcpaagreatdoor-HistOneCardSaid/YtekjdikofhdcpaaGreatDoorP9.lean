/- Engines: an attestation that counts. -/
import Derived.Test.YtekjdikofhdcpaaGreatDoorP8
set_option linter.unusedSimpArgs false
set_option maxRecDepth 10000
namespace Go.Proofs.YtekjdikofhdcpaaGreatDoor
open Go Go.Ab
theorem count_no (e : Eng) (b : Block) (x : Att) (c : Ask) (a : Att) (K : List Link) (i : Int) (c1 : Cal Tryz.prog 189 [links e.k, a.source.av, a.target.av, .int .i64 a.val] (.tup [links K, .int .i64 i])) (hi : decide (i = 0) = false) : CalE Tryz.prog 122 [.ptr 1 [] 0, a.av] 2 (wH e b x c) (.int .i64 i) (wH e b x c) := by
 have ff := hi
 unfold wH
 have hR : Tryz.f122.results.toList = [.tmp 4] := rfl
 refine calE_tr Tryz.func122 rfl fun E hE hP => ?_
 exact mX
def eV (e : Eng) (W : List Int) (K : List Link) (vl : List Latest) (o : Int) (J : List Check) (F : Check) : Eng := ⟨e.t, e.b, vl, o, W, e.late, K, J, F, e.now⟩
set_option maxHeartbeats 1000000 in
theorem count_w (e : Eng) (b : Block) (x : Att) (c : Ask) (a : Att) (K : List Link) (vl : List Latest) (o h : Int) (P M W : List Int) (J : List Check) (F : Check)
 (c1 : Cal Tryz.prog 189 [links e.k, a.source.av, a.target.av, .int .i64 a.val] (.tup [links K, .int .i64 0]))
 (d2 : Cal Tryz.prog 190 [vav e.vl e.o, .int .i64 a.val, .root a.head, .int .u64 a.target.epoch] (.tup [vav vl o, .int .i64 h, .int .i64 0]))
 (d3 : Cal Tryz.prog 191 [tav e.t, vav e.vl e.o, vav vl o, u64s e.b] (.tup [u64s P, u64s M, .bool true]))
 (d4 : Cal Tryz.prog 192 [tav e.t, u64s e.w, u64s P, u64s M] (.tup [u64s W, .bool true]))
 (d5 : CalT Tryz.prog 0 tabV 107 [tav e.t, links K, u64s e.b, checks e.j] (checks J))
 (d6 : CalT Tryz.prog 0 tabV 108 [tav e.t, links K, u64s e.b, checks J, e.fin.av] F.av) : CalE Tryz.prog 122 [.ptr 1 [] 0, a.av] 2 (wH e b x c) (.int .i64 0) (wH (eV e W K vl o J F) b x c) := by
 unfold wH
 have hR : Tryz.f122.results.toList = [.tmp 4] := rfl
 refine calE_tr Tryz.func122 rfl fun E hE hP => ?_
 refine mr ?_
 refine mr ?_
 refine mr ?_
 refine mC ?_
 refine mC ?_
 refine tr_seq_plan mixed _ (.one 0 (.one 1 (.one 2 (.one 3 (.one 4 (.one 5 (.one 6 (.one 7 (.one 8 (.one 9 (.one 10 (.one 11 (.two 12 (.one 13 (.one 14 (.one 15 (.one 16 (.one 17 (.one 18 (.one 19 (.one 20 .done)))))))) 17 (.one 12 (.one 13 (.one 14 (.one 15 (.one 16 (.one 18 (.one 19 (.one 20 .done))))))))))))))))))))) (⟨[(0, .ptr 1 [] 0), (3, .ptr 2 [] 0), (5, links K), (7, .ptr 3 [] 0)], [(0, .tab 0 tabV), (1, .var (workA e b x c)), (2, .var a.av), (3, .var (vav vl o))], 4, []⟩) (keepAll _) xE kR ?_ ?_
 · simp only [List.map_cons, List.map_nil]
   iterate 12 refine pQ ?_
   apply pl_two; exact rfl; exact rfl
   · refine sX ?_
     refine call_fn rfl rfl rfl rfl (en Tryz.func190) (d2.2) rfl rfl rfl ?_
     refine mS ?_
     iterate 4 refine pQ ?_
     refine pX ?_
     refine pX ?_
     iterate 2 refine pQ ?_
     refine pl_done (st := _) ?_ rfl
     refine wk_ren (fun | 3 => 610 | n => n) mB mB rfl rfl rfl
   · refine sX ?_
     refine pX ?_
     refine call_fn rfl rfl rfl rfl (en Tryz.func190) (d2.2) rfl rfl rfl ?_
     refine mS ?_
     iterate 4 refine pQ ?_
     refine pX ?_
     iterate 2 refine pQ ?_
     refine pl_done (st := _) ?_ rfl
     refine wk_ren (fun | 3 => 610 | n => n) mB mB rfl rfl rfl
 refine tr_seq_plan mixed _ (.one 0 (.one 1 (.one 2 (.one 3 (.one 4 (.one 5 (.one 6 (.one 7 (.one 8 (.one 9 (.one 10 (.one 11 (.one 12 (.one 13 (.one 14 (.one 15 (.one 16 (.one 17 (.one 18 (.one 19 (.one 20 (.one 21 (.one 22 (.one 23 .done)))))))))))))))))))))))) (⟨[(0, .ptr 1 [] 0), (5, links K), (7, .ptr 3 [] 0), (10, u64s P), (11, u64s M)], [(0, .tab 0 tabV), (1, .var (workA e b x c)), (3, .var (vav vl o))], 4, []⟩) (keepAll _) xE kR ?_ ?_
 · simp only [List.map_cons, List.map_nil]
   iterate 16 refine pQ ?_
   refine pX ?_
   refine call_fn rfl rfl rfl rfl (en Tryz.func191) (d3.2) rfl rfl rfl ?_
   refine mS ?_
   iterate 7 refine pQ ?_
   refine pl_done (st := _) ?_ rfl
   exact mK
 refine tr_seq_plan mixed [1, 3] (.one 0 (.one 1 (.one 2 (.one 3 (.one 4 (.one 5 (.one 6 (.one 7 (.one 8 (.one 9 (.one 10 (.one 11 (.one 12 (.one 13 (.one 14 (.one 15 (.one 16 (.one 17 (.one 18 (.one 19 (.one 20 .done))))))))))))))))))))) (⟨[(0, .ptr 1 [] 0), (5, links K), (7, .ptr 3 [] 0)], [(0, .tab 0 tabV), (1, .var (workA (eV e W e.k e.vl e.o e.j e.fin) b x c)), (3, .var (vav vl o))], 4, []⟩) rfl xE kR ?_ ?_
 · simp only [List.map_cons, List.map_nil]
   iterate 13 refine pQ ?_
   refine pX ?_
   refine call_fn rfl rfl rfl rfl (en Tryz.func192) (d4.2) rfl rfl rfl ?_
   refine mS ?_
   iterate 6 refine pQ ?_
   apply pl_x; exact rfl
   refine st_w rfl rfl kR ?_; simp only [gA, go_sem, seval]
   refine pl_done (st := _) ?_ rfl
   exact mK
 refine tr_seq_plan mixed [3] (.one 0 (.one 1 (.one 2 (.one 3 (.one 4 (.one 5 (.one 6 (.one 7 (.one 8 (.one 9 (.one 10 (.one 11 .done)))))))))))) (⟨[(0, .ptr 1 [] 0), (5, links K)], [(0, .tab 0 tabV), (1, .var (workA (eV e W K vl o e.j e.fin) b x c))], 4, []⟩) rfl xE kR ?_ ?_
 · simp only [List.map_cons, List.map_nil]
   iterate 7 refine pQ ?_
   refine pX ?_
   iterate 3 refine pQ ?_
   refine pX ?_
   refine pl_done (st := _) ?_ rfl
   exact mK
 refine tr_seq_plan mixed [1] (.one 0 (.one 1 (.one 2 (.one 3 (.one 4 (.one 5 (.one 6 (.one 7 (.one 8 (.one 9 (.one 10 (.one 11 (.one 12 (.one 13 (.one 14 (.one 15 (.one 16 (.one 17 (.one 18 (.one 19 (.one 20 (.one 21 .done)))))))))))))))))))))) (⟨[(0, .ptr 1 [] 0), (5, links K)], [(0, .tab 0 tabV), (1, .var (workA (eV e W K vl o J e.fin) b x c))], 4, []⟩) rfl xE kR ?_ ?_
 · simp only [List.map_cons, List.map_nil]
   iterate 17 refine pQ ?_
   refine pX ?_
   refine call_eff (fun n => n) [true, true, true, true] [] rfl rfl rfl rfl (en Tryz.func107) (d5.2) rfl rfl mB rfl rfl rfl ?_
   refine mR ?_
   iterate 3 refine pQ ?_
   apply pl_x; exact rfl
   refine st_w rfl rfl kR ?_; simp only [gA, go_sem, seval]
   refine pl_done (st := _) ?_ rfl
   exact mK
 refine tr_seq_plan mixed [1] (.one 0 (.one 1 (.one 2 (.one 3 (.one 4 (.one 5 (.one 6 (.one 7 (.one 8 (.one 9 (.one 10 (.one 11 (.one 12 (.one 13 (.one 14 (.one 15 (.one 16 (.one 17 (.one 18 (.one 19 (.one 20 (.one 21 (.one 22 (.one 23 (.one 24 (.one 25 (.one 26 .done))))))))))))))))))))))))))) (⟨[(0, .ptr 1 [] 0)], [(0, .tab 0 tabV), (1, .var (workA (eV e W K vl o J F) b x c))], 4, []⟩) rfl xE kR ?_ ?_
 · simp only [List.map_cons, List.map_nil]
   iterate 22 refine pQ ?_
   refine pX ?_
   refine call_eff (fun n => n) [true, true, true, true, true] [] rfl rfl rfl rfl (en Tryz.func108) (d6.2) rfl rfl mB rfl rfl rfl ?_
   refine mR ?_
   iterate 3 refine pQ ?_
   apply pl_x; exact rfl
   refine st_w rfl rfl kR ?_; simp only [gA, go_sem, seval]
   refine pl_done (st := _) ?_ rfl
   exact mK
 exact mX
end Go.Proofs.YtekjdikofhdcpaaGreatDoor
