/- The reference's Arm. No condition. -/
import Derived.Test.YtehodgcfejkomaaSeen
namespace Go.Proofs.Ytehodgcfejkomaa.Disk
set_option linter.unusedVariables false
set_option linter.unusedSimpArgs false
open Go.RowKit Go.Proofs.Ytehodgcfejkomaa.Q Go.Proofs.YtehodgcfejkomaaW.PrintWords Go.Proofs.YtehodgcfejkomaaW.PrintLast Go.Proofs.YtehodgcfejkomaaW.PrintMore
theorem blk3 (w : World) (a b c : Obj) : (((w.alloc a).alloc b).alloc c).heap[w.heap.size + 1 + 1]? = some c := by
  rw [show w.heap.size + 1 + 1 = ((w.alloc a).alloc b).heap.size by simp]
  exact blk_new _ _
set_option maxHeartbeats 4000000 in
theorem rarm_calls (u v : Value) (a k c : Int) (o : Bool) (ca ck : Int) (w : World) (A B : Option Addr) (n n' m m' : Nat) (hu : u = .slice A n n') (hv : v = .slice B m m') :
    Calls Try.prog 22 #[.agg #[u, v, .int .i64 a, .int .u64 k, .int .i64 c, .bool o], .agg #[.int .i64 ca, .int .u64 ck]] w fun e w' => e = .returned (.agg #[u, v, .int .i64 (if ca < 1 then 0 else ca), .int .u64 (if ca < 1 then 0 else ck), .int .i64 0, .bool o]) ∧ Below w.heap.size w w' := by
  have hu49 := Try.underlying49
  have hu31 := Try.underlying31
  subst hu hv
  by_cases h : ca < 1
  · have d1 : decide (ca < 1) = true := decide_eq_true h
    rw [if_pos h, if_pos h]
    clear h
    go_enter Try.func22, Try.ntmps22
    go_wp2_with fail
    refine bodyPost_ret (results_cell_row rfl _ _ (w.heap.size + 1 + 1) 49 #[.slice A n n', .slice B m m', .int .i64 0, .int .u64 0, .int .i64 0, .bool o] (0, 0) _ rfl (blk3 w _ _ _) Try.underlying49 rfl (by kernel_rfl)) rfl ?_
    exact ⟨rfl, below_alloc (below_alloc (below_alloc (Below.refl _ _) _) _) _⟩
  · have d1 : decide (ca < 1) = false := decide_eq_false h
    rw [if_neg h, if_neg h]
    clear h
    go_enter Try.func22, Try.ntmps22
    go_wp2_with fail
    refine bodyPost_ret (results_cell_row rfl _ _ (w.heap.size + 1 + 1) 49 #[.slice A n n', .slice B m m', .int .i64 ca, .int .u64 ck, .int .i64 0, .bool o] (0, 0) _ rfl (blk3 w _ _ _) Try.underlying49 rfl (by kernel_rfl)) rfl ?_
    exact ⟨rfl, below_alloc (below_alloc (below_alloc (Below.refl _ _) _) _) _⟩
end Go.Proofs.Ytehodgcfejkomaa.Disk
