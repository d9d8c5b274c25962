/- The functions that this claim reaches, as plain Lean functions, and the proofs that the program comes to them: written by a program of this session out of the translation. Each contract stands under its own function answering. -/
import Derived.Test.YtehodgcfejkomaaQx0
import Derived.Test.YtehodgcfejkomaaQx1
import Derived.Test.YtehodgcfejkomaaQx2
namespace Go.Proofs.Ytehodgcfejkomaa.Q
open Go.RowKit Go.Proofs.YtehodgcfejkomaaW.PrintWords Go.Proofs.YtehodgcfejkomaaW.PrintLast Go.Proofs.YtehodgcfejkomaaW.PrintMore
attribute [local go_sem] max2_int min2_int max_two min_two max_three min_three max_four min_four   -- for this text's walks alone
set_option linter.unusedVariables false
set_option linter.unusedSimpArgs false

/-! ### snapferryref03_Put: function 18 -/
def snapferryref03_Put.j0 : Nat → Int → ByteArray → Bool → List ByteArray → List (S75) → Int → Int → Int → Bool → Option (List ByteArray × (List (S75)) × Int × Int × Int × Bool × Int)
  | 0, _, _, _, _, _, _, _, _, _ => none
  | k + 1, x1, x2, x20, x132000, x132001, x132002, x132003, x132004, x132005 => if x20 = true then (some (x132000, x132001, x132002, x132003, x132004, x132005, 1)) else (if (x2.size : Int) > 32 then (some (x132000, x132001, x132002, x132003, x132004, x132005, 3)) else ((some (([] : List (S75)) : List (S75))).bind fun y133 => (if y133.length + x132001.length < 5864062014805 then ((some (y133 ++ x132001 : List (S75))).bind fun y136 => ((snapferryref03_fill.f k x2).bind fun t139 => (if y136.length < 5864062014805 then ((snapferryref03_counted.f k x132000 (y136 ++ [(⟨x1, t139⟩ : S75)]) x132002 x132003 x132004 x132005).bind fun bt143 => (if bt143.2.2.2.2.2.2 = true then (some (bt143.1, bt143.2.1, bt143.2.2.1, bt143.2.2.2.1, bt143.2.2.2.2.1, bt143.2.2.2.2.2.1, 7)) else (some (bt143.1, bt143.2.1, bt143.2.2.1, bt143.2.2.2.1, bt143.2.2.2.2.1, bt143.2.2.2.2.2.1, 0)))) else (none)))) else (none))))
def snapferryref03_Put.f (k : Nat) (l0_0 : List ByteArray) (l0_1 : List (S75)) (a0_2 : Int) (a0_3 : Int) (a0_4 : Int) (a0_5 : Bool) (a1 : Int) (a2 : ByteArray) : Option (List ByteArray × (List (S75)) × Int × Int × Int × Bool × Int) := if a0_5 = true then (some (l0_0, l0_1, a0_2, a0_3, a0_4, a0_5, 7)) else (if a1 < 0 then (snapferryref03_Put.j0 k a1 a2 true l0_0 l0_1 a0_2 a0_3 a0_4 a0_5) else (snapferryref03_Put.j0 k a1 a2 (decide (a1 ≥ (l0_0.length : Int))) l0_0 l0_1 a0_2 a0_3 a0_4 a0_5))
theorem snapferryref03_Put.mono_l : ∀ k, (∀ y0 y1 y2 y3 y4 y5 y6 y7 y8, LeO (snapferryref03_Put.j0 k y0 y1 y2 y3 y4 y5 y6 y7 y8) (snapferryref03_Put.j0 (k + 1) y0 y1 y2 y3 y4 y5 y6 y7 y8))
  | 0 => fun _ _ _ _ _ _ _ _ _ r h => by simp [snapferryref03_Put.j0] at h
  | k + 1 => by
    have ih0 := snapferryref03_Put.mono_l k
    · intro y0 y1 y2 y3 y4 y5 y6 y7 y8
      unfold snapferryref03_Put.j0
      repeat' first
      | (with_reducible exact ih0 _ _ _ _ _ _ _ _ _)
      | (with_reducible exact snapferryref03_counted.mono _ _ _ _ _ _ _)
      | (with_reducible exact snapferryref03_fill.mono _ _)
      | (with_reducible exact LeO.refl _)
      | (with_reducible exact LeO.none _)
      | (with_reducible refine LeO.ite ?_ ?_)
      | (with_reducible refine LeO.bind ?_ (fun _ => ?_))
      | exact ih0 _ _ _ _ _ _ _ _ _
      | exact snapferryref03_counted.mono _ _ _ _ _ _ _
      | exact snapferryref03_fill.mono _ _
      | exact LeO.none _
      | refine LeO.ite ?_ ?_
      | refine LeO.bind ?_ (fun _ => ?_)
theorem snapferryref03_Put.mono : ∀ a0 a1 a2 a3 a4 a5 a6 a7 k, LeO (snapferryref03_Put.f k a0 a1 a2 a3 a4 a5 a6 a7) (snapferryref03_Put.f (k + 1) a0 a1 a2 a3 a4 a5 a6 a7) := by
  intro a0 a1 a2 a3 a4 a5 a6 a7 k
  have ih0 := snapferryref03_Put.mono_l k
  unfold snapferryref03_Put.f
  repeat' first
      | (with_reducible exact ih0 _ _ _ _ _ _ _ _ _)
      | (with_reducible exact snapferryref03_counted.mono _ _ _ _ _ _ _)
      | (with_reducible exact snapferryref03_fill.mono _ _)
      | (with_reducible exact LeO.refl _)
      | (with_reducible exact LeO.none _)
      | (with_reducible refine LeO.ite ?_ ?_)
      | (with_reducible refine LeO.bind ?_ (fun _ => ?_))
      | exact ih0 _ _ _ _ _ _ _ _ _
      | exact snapferryref03_counted.mono _ _ _ _ _ _ _
      | exact snapferryref03_fill.mono _ _
      | exact LeO.none _
      | refine LeO.ite ?_ ?_
      | refine LeO.bind ?_ (fun _ => ?_)
set_option maxHeartbeats 8000000 in
set_option maxRecDepth 100000 in
theorem snapferryref03_Put.calls (k : Nat) (P0_0_ : Nat → Prop) (u9000_ : Value) (l0_0 : List ByteArray) (P0_1_ : Nat → Prop) (u9001_ : Value) (l0_1 : List (S75)) (a0_2 : Int) (a0_3 : Int) (a0_4 : Int) (a0_5 : Bool) (a1 : Int) (a2 : ByteArray) (r1 : List ByteArray) (r2 : List (S75)) (r3 : Int) (r4 : Int) (r5 : Int) (r6 : Bool) (r7 : Int) (w0 w : World) (hB : Below w0.heap.size w0 w) (ho0_0 : Kd.R Kd.string 9 w w0.heap.size P0_0_ u9000_ l0_0) (ho0_1 : Kd.R k75 75 w w0.heap.size P0_1_ u9001_ l0_1) (h : snapferryref03_Put.f k l0_0 l0_1 a0_2 a0_3 a0_4 a0_5 a1 a2 = some (r1, r2, r3, r4, r5, r6, r7)) :
    Calls Try.prog 18 #[.agg #[u9000_, u9001_, .int .i64 a0_2, .int .u64 a0_3, .int .i64 a0_4, .bool a0_5], .int .i64 a1, .string a2] w fun e w' => ∃ v0_ v1_ : Value, e = .returned (.tuple #[.agg #[v0_, v1_, .int .i64 r3, .int .u64 r4, .int .i64 r5, .bool r6], .int .i64 r7]) ∧ Kd.R Kd.string 9 w' w0.heap.size (fun k_ => ((P0_0_ k_ ∨ P0_1_ k_) ∨ w.heap.size ≤ k_)) v0_ r1 ∧ Kd.R k75 75 w' w0.heap.size (fun k_ => ((P0_0_ k_ ∨ P0_1_ k_) ∨ w.heap.size ≤ k_)) v1_ r2 ∧ Below w0.heap.size w0 w' ∧ Kept w w' (fun k_ => P0_0_ k_ ∨ P0_1_ k_) := by
  have hu49 := Try.underlying49
  have hu75 := Try.underlying75
  have HO0_0 := Aside0.mk (show Kd.R Kd.string 9 w w0.heap.size (fun k_ => ((P0_0_ k_ ∨ P0_1_ k_) ∨ w.heap.size ≤ k_)) u9000_ l0_0 from Kd.R_mono ho0_0 (fun k_ hk => (.inl (.inl hk))))
  have HO0_1 := Aside0.mk (show Kd.R k75 75 w w0.heap.size (fun k_ => ((P0_0_ k_ ∨ P0_1_ k_) ∨ w.heap.size ≤ k_)) u9001_ l0_1 from Kd.R_mono ho0_1 (fun k_ hk => (.inl (.inr hk))))
  have HK := Aside0.mk (Kept.refl w (fun k_ => P0_0_ k_ ∨ P0_1_ k_))
  have HW0 := Aside0.mk hB.size
  have HB := Aside0.mk hB
  clear hB
  have H : (if a0_5 = true then (some (l0_0, l0_1, a0_2, a0_3, a0_4, a0_5, 7)) else (if a1 < 0 then (snapferryref03_Put.j0 k a1 a2 true l0_0 l0_1 a0_2 a0_3 a0_4 a0_5) else (snapferryref03_Put.j0 k a1 a2 (decide (a1 ≥ (l0_0.length : Int))) l0_0 l0_1 a0_2 a0_3 a0_4 a0_5))) = some (r1, r2, r3, r4, r5, r6, r7) := h
  clear h
  by_cases c4 : a0_5 = true
  · subst c4
    have H1 : (some (l0_0, l0_1, a0_2, a0_3, a0_4, true, 7)) = some (r1, r2, r3, r4, r5, r6, r7) := by rw [if_pos rfl] at H; exact H
    clear H
    have H := H1
    clear H1
    simp only [Option.some.injEq, Prod.mk.injEq] at H
    obtain ⟨rfl, rfl, rfl, rfl, rfl, rfl, rfl⟩ := H
    obtain ⟨Ao5, co5, eo5⟩ := Kd.R_slice HO0_0.out
    subst eo5
    obtain ⟨Ao6, co6, eo6⟩ := Kd.R_slice HO0_1.out
    subst eo6
    go_enter Try.func18, Try.ntmps18
    go_wp2_with (first | ((with_reducible refine gate_dst (N := 3) rfl ?_); (try (refine gate_guard (by rfl) ?_; dsimp only)); refine box_event ?hg (N := 3) ?hd (cs := #[.slice Ao5 l0_0.length co5, .slice Ao6 l0_1.length co6, .int .i64 a0_2, .int .u64 a0_3, .int .i64 a0_4, .bool true]) (t := 49) ?hr ?_; (case hd => rfl); (case hg => rfl); (case hr => first | (go_simp; done) | (go_simp; rfl)); intro gb131 hg w7 hbox hb; have n0_ := Aside0.mk (Kd.R_below (by (with_reducible repeat (first | apply Kd.R_alloc | apply Kd.R_drewN | apply Kd.R_drew)); exact HO0_0.out) hb); have n1_ := Aside0.mk (Kd.R_below (by (with_reducible repeat (first | apply Kd.R_alloc | apply Kd.R_drewN | apply Kd.R_drew)); exact HO0_1.out) hb); have n2_ := Aside0.mk (Kept.below (S := (fun k_ => P0_0_ k_ ∨ P0_1_ k_)) (by repeat (first | (with_reducible first | exact HK.out | apply Kept.alloc | apply Kept.drewN | apply Kept.drew) | exact HK.out)) hb); have n3_ := Aside0.mk (below_step (by repeat (first | (with_reducible first | exact HB.out | apply below_alloc | apply pw_below_drewN | apply below_drew1) | exact HB.out)) hb); have n4_ := Aside0.mk (hbox); have n5_ := Aside0.mk ((by rw [hg]; exact (by first | exact HK.out.1 | exact (show Kept w _ (fun k_ => P0_0_ k_ ∨ P0_1_ k_) from by repeat (first | (with_reducible first | exact HK.out | apply Kept.alloc | apply Kept.drewN | apply Kept.drew) | exact HK.out)).1) : w.heap.size ≤ gb131)); have n6_ := Aside0.mk ((by rw [hg]; exact (below_size (by repeat (first | (with_reducible first | exact HB.out | apply below_alloc | apply pw_below_drewN | apply below_drew1) | exact HB.out))) : w0.heap.size ≤ gb131)); clear HO0_0; clear HO0_1; clear HK; clear HB; have HO0_0 := n0_; have HO0_1 := n1_; have HK := n2_; have HB := n3_; have BK131 := n4_; have GW131 := n5_; have GE131 := n6_; clear n0_ n1_ n2_ n3_ n4_ n5_ n6_; clear hb hbox hg) | ((with_reducible refine gate_dst (N := 6) rfl ?_); (try (refine gate_guard (by rfl) ?_; dsimp only)); refine box_event ?hg (N := 6) ?hd (cs := #[.slice none 0 0, .slice none 0 0, .int .i64 0, .int .u64 0, .int .i64 0, .bool false]) (t := 49) ?hr ?_; (case hd => rfl); (case hg => rfl); (case hr => first | (go_simp; done) | (go_simp; rfl)); intro gb132 hg w8 hbox hb; have n0_ := Aside0.mk (Kd.R_below (by (with_reducible repeat (first | apply Kd.R_alloc | apply Kd.R_drewN | apply Kd.R_drew)); exact HO0_0.out) hb); have n1_ := Aside0.mk (Kd.R_below (by (with_reducible repeat (first | apply Kd.R_alloc | apply Kd.R_drewN | apply Kd.R_drew)); exact HO0_1.out) hb); have n2_ := Aside0.mk (blk_below (g := gb131) (o := .cells #[.slice Ao5 l0_0.length co5, .slice Ao6 l0_1.length co6, .int .i64 a0_2, .int .u64 a0_3, .int .i64 a0_4, .bool true] 49 (0, 0)) (by (with_reducible repeat (first | refine blk_drewN ?_ _ | refine blk_drew ?_ | refine blk_alloc ?_ _)); exact BK131.out) hb); have n3_ := Aside0.mk (Kept.below (S := (fun k_ => P0_0_ k_ ∨ P0_1_ k_)) (by repeat (first | (with_reducible first | exact HK.out | apply Kept.alloc | apply Kept.drewN | apply Kept.drew | refine Kept.setCell ?_ (.inr GW131.out) _) | exact HK.out)) hb); have n4_ := Aside0.mk (below_step (by repeat (first | (with_reducible first | exact HB.out | apply below_alloc | apply pw_below_drewN | apply below_drew1 | refine below_set ?_ GE131.out) | exact HB.out)) hb); have n5_ := Aside0.mk (hbox); have n6_ := Aside0.mk ((by rw [hg]; exact (by first | exact HK.out.1 | exact (show Kept w _ (fun k_ => P0_0_ k_ ∨ P0_1_ k_) from by repeat (first | (with_reducible first | exact HK.out | apply Kept.alloc | apply Kept.drewN | apply Kept.drew | refine Kept.setCell ?_ (.inr GW131.out) _) | exact HK.out)).1) : w.heap.size ≤ gb132)); have n7_ := Aside0.mk ((by rw [hg]; exact (below_size (by repeat (first | (with_reducible first | exact HB.out | apply below_alloc | apply pw_below_drewN | apply below_drew1 | refine below_set ?_ GE131.out) | exact HB.out))) : w0.heap.size ≤ gb132)); have n8_ := Aside0.mk ((by rw [hg]; exact Nat.ne_of_lt (blk_lt (g := gb131) (o := .cells #[.slice Ao5 l0_0.length co5, .slice Ao6 l0_1.length co6, .int .i64 a0_2, .int .u64 a0_3, .int .i64 a0_4, .bool true] 49 (0, 0)) (by (with_reducible repeat (first | refine blk_drewN ?_ _ | refine blk_drew ?_ | refine blk_alloc ?_ _)); exact BK131.out)) : gb131 ≠ gb132)); have n9_ := Aside0.mk ((by rw [hg]; exact Nat.ne_of_gt (blk_lt (g := gb131) (o := .cells #[.slice Ao5 l0_0.length co5, .slice Ao6 l0_1.length co6, .int .i64 a0_2, .int .u64 a0_3, .int .i64 a0_4, .bool true] 49 (0, 0)) (by (with_reducible repeat (first | refine blk_drewN ?_ _ | refine blk_drew ?_ | refine blk_alloc ?_ _)); exact BK131.out)) : gb132 ≠ gb131)); clear HO0_0; clear HO0_1; clear BK131; clear HK; clear HB; have HO0_0 := n0_; have HO0_1 := n1_; have BK131 := n2_; have HK := n3_; have HB := n4_; have BK132 := n5_; have GW132 := n6_; have GE132 := n7_; have NB131_132 := n8_; have NB132_131 := n9_; clear n0_ n1_ n2_ n3_ n4_ n5_ n6_ n7_ n8_ n9_; clear hb hbox hg; have hnb9 := NB131_132.out; have hnc9 := NB132_131.out; have hcz10_0 : w8.cell? ⟨gb131, 0, none⟩ = some (.slice Ao5 l0_0.length co5) := (blk_cell BK131.out 0).trans rfl; have hcz10_1 : w8.cell? ⟨gb131, 1, none⟩ = some (.slice Ao6 l0_1.length co6) := (blk_cell BK131.out 1).trans rfl; have hcz10_2 : w8.cell? ⟨gb131, 2, none⟩ = some (.int .i64 a0_2) := (blk_cell BK131.out 2).trans rfl; have hcz10_3 : w8.cell? ⟨gb131, 3, none⟩ = some (.int .u64 a0_3) := (blk_cell BK131.out 3).trans rfl; have hcz10_4 : w8.cell? ⟨gb131, 4, none⟩ = some (.int .i64 a0_4) := (blk_cell BK131.out 4).trans rfl; have hcz10_5 : w8.cell? ⟨gb131, 5, none⟩ = some (.bool true) := (blk_cell BK131.out 5).trans rfl; have hfz10_0 := blk_frozen BK131.out 0; have hfz10_1 := blk_frozen BK131.out 1; have hfz10_2 := blk_frozen BK131.out 2; have hfz10_3 := blk_frozen BK131.out 3; have hfz10_4 := blk_frozen BK131.out 4; have hfz10_5 := blk_frozen BK131.out 5; have hcz11_0 : w8.cell? ⟨gb132, 0, none⟩ = some (.slice none 0 0) := (blk_cell BK132.out 0).trans rfl; have hcz11_1 : w8.cell? ⟨gb132, 1, none⟩ = some (.slice none 0 0) := (blk_cell BK132.out 1).trans rfl; have hcz11_2 : w8.cell? ⟨gb132, 2, none⟩ = some (.int .i64 0) := (blk_cell BK132.out 2).trans rfl; have hcz11_3 : w8.cell? ⟨gb132, 3, none⟩ = some (.int .u64 0) := (blk_cell BK132.out 3).trans rfl; have hcz11_4 : w8.cell? ⟨gb132, 4, none⟩ = some (.int .i64 0) := (blk_cell BK132.out 4).trans rfl; have hcz11_5 : w8.cell? ⟨gb132, 5, none⟩ = some (.bool false) := (blk_cell BK132.out 5).trans rfl; have hfz11_0 := blk_frozen BK132.out 0; have hfz11_1 := blk_frozen BK132.out 1; have hfz11_2 := blk_frozen BK132.out 2; have hfz11_3 := blk_frozen BK132.out 3; have hfz11_4 := blk_frozen BK132.out 4; have hfz11_5 := blk_frozen BK132.out 5))
    refine bodyPost_ret (results_ct rfl _ _ gb132 49 #[.slice Ao5 l0_0.length co5, .slice Ao6 l0_1.length co6, .int .i64 a0_2, .int .u64 a0_3, .int .i64 a0_4, .bool true] (0, 0) _ rfl (by (with_reducible repeat (first | refine blk_drewN ?_ _ | refine blk_drew ?_ | refine blk_alloc ?_ _)); refine blk_put (cs := #[.slice Ao5 l0_0.length co5, .slice Ao6 l0_1.length co6, .int .i64 a0_2, .int .u64 a0_3, .int .i64 a0_4, .bool false]) ?_ 5 _ rfl; (with_reducible repeat (first | refine blk_drewN ?_ _ | refine blk_drew ?_ | refine blk_alloc ?_ _)); refine blk_put (cs := #[.slice Ao5 l0_0.length co5, .slice Ao6 l0_1.length co6, .int .i64 a0_2, .int .u64 a0_3, .int .i64 0, .bool false]) ?_ 4 _ rfl; (with_reducible repeat (first | refine blk_drewN ?_ _ | refine blk_drew ?_ | refine blk_alloc ?_ _)); refine blk_put (cs := #[.slice Ao5 l0_0.length co5, .slice Ao6 l0_1.length co6, .int .i64 a0_2, .int .u64 0, .int .i64 0, .bool false]) ?_ 3 _ rfl; (with_reducible repeat (first | refine blk_drewN ?_ _ | refine blk_drew ?_ | refine blk_alloc ?_ _)); refine blk_put (cs := #[.slice Ao5 l0_0.length co5, .slice Ao6 l0_1.length co6, .int .i64 0, .int .u64 0, .int .i64 0, .bool false]) ?_ 2 _ rfl; (with_reducible repeat (first | refine blk_drewN ?_ _ | refine blk_drew ?_ | refine blk_alloc ?_ _)); refine blk_put (cs := #[.slice Ao5 l0_0.length co5, .slice none 0 0, .int .i64 0, .int .u64 0, .int .i64 0, .bool false]) ?_ 1 _ rfl; (with_reducible repeat (first | refine blk_drewN ?_ _ | refine blk_drew ?_ | refine blk_alloc ?_ _)); refine blk_put (cs := #[.slice none 0 0, .slice none 0 0, .int .i64 0, .int .u64 0, .int .i64 0, .bool false]) ?_ 0 _ rfl; (with_reducible repeat (first | refine blk_drewN ?_ _ | refine blk_drew ?_ | refine blk_alloc ?_ _)); exact BK132.out) Try.underlying49 rfl (by kernel_rfl)) rfl ?_
    exact ⟨_, _, by first | rfl | (simp [errW_none, errW_some] <;> rfl) | (simp [*, errW_none, errW_some] <;> rfl), by (with_reducible repeat (first | apply Kd.R_alloc | apply Kd.R_drewN | apply Kd.R_drew)); exact Kd.R_mono (Kd.R_far (p := ⟨gb132, 5, none⟩) (Kd.R_far (p := ⟨gb132, 4, none⟩) (Kd.R_far (p := ⟨gb132, 3, none⟩) (Kd.R_far (p := ⟨gb132, 2, none⟩) (Kd.R_far (p := ⟨gb132, 1, none⟩) (Kd.R_far (p := ⟨gb132, 0, none⟩) (Kd.R_types HO0_0.out BK132.out (by decide)) (fun _ hk => hk.2) (.slice Ao5 l0_0.length co5)) (fun _ hk => hk.2) (.slice Ao6 l0_1.length co6)) (fun _ hk => hk.2) (.int .i64 a0_2)) (fun _ hk => hk.2) (.int .u64 a0_3)) (fun _ hk => hk.2) (.int .i64 a0_4)) (fun _ hk => hk.2) (.bool true)) (fun _ hk => hk.1), by (with_reducible repeat (first | apply Kd.R_alloc | apply Kd.R_drewN | apply Kd.R_drew)); exact Kd.R_mono (Kd.R_far (p := ⟨gb132, 5, none⟩) (Kd.R_far (p := ⟨gb132, 4, none⟩) (Kd.R_far (p := ⟨gb132, 3, none⟩) (Kd.R_far (p := ⟨gb132, 2, none⟩) (Kd.R_far (p := ⟨gb132, 1, none⟩) (Kd.R_far (p := ⟨gb132, 0, none⟩) (Kd.R_types HO0_1.out BK132.out (by decide)) (fun _ hk => hk.2) (.slice Ao5 l0_0.length co5)) (fun _ hk => hk.2) (.slice Ao6 l0_1.length co6)) (fun _ hk => hk.2) (.int .i64 a0_2)) (fun _ hk => hk.2) (.int .u64 a0_3)) (fun _ hk => hk.2) (.int .i64 a0_4)) (fun _ hk => hk.2) (.bool true)) (fun _ hk => hk.1), by repeat (first | (with_reducible first | exact HB.out | apply below_alloc | apply pw_below_drewN | apply below_drew1 | refine below_set ?_ GE131.out | refine below_set ?_ GE132.out) | exact HB.out), by repeat (first | (with_reducible first | exact HK.out | apply Kept.alloc | apply Kept.drewN | apply Kept.drew | refine Kept.setCell ?_ (.inr GW131.out) _ | refine Kept.setCell ?_ (.inr GW132.out) _) | exact HK.out)⟩
  · replace c4 := Bool.eq_false_iff.mpr c4
    subst c4
    have H1 : (if a1 < 0 then (snapferryref03_Put.j0 k a1 a2 true l0_0 l0_1 a0_2 a0_3 a0_4 false) else (snapferryref03_Put.j0 k a1 a2 (decide (a1 ≥ (l0_0.length : Int))) l0_0 l0_1 a0_2 a0_3 a0_4 false)) = some (r1, r2, r3, r4, r5, r6, r7) := by rw [if_neg (show ¬ (false = true) by decide)] at H; exact H
    clear H
    have H := H1
    clear H1
    have HC12 := Aside0.mk H
    clear H
    obtain ⟨Ao13, co13, eo13⟩ := Kd.R_slice HO0_0.out
    subst eo13
    obtain ⟨Ao14, co14, eo14⟩ := Kd.R_slice HO0_1.out
    subst eo14
    go_enter Try.func18, Try.ntmps18
    go_upto_region 3 with (first | ((with_reducible refine gate_dst (N := 3) rfl ?_); (try (refine gate_guard (by rfl) ?_; dsimp only)); refine box_event ?hg (N := 3) ?hd (cs := #[.slice Ao13 l0_0.length co13, .slice Ao14 l0_1.length co14, .int .i64 a0_2, .int .u64 a0_3, .int .i64 a0_4, .bool false]) (t := 49) ?hr ?_; (case hd => rfl); (case hg => rfl); (case hr => first | (go_simp; done) | (go_simp; rfl)); intro gb131 hg w15 hbox hb; have n0_ := Aside0.mk (Kd.R_below (by (with_reducible repeat (first | apply Kd.R_alloc | apply Kd.R_drewN | apply Kd.R_drew)); exact HO0_0.out) hb); have n1_ := Aside0.mk (Kd.R_below (by (with_reducible repeat (first | apply Kd.R_alloc | apply Kd.R_drewN | apply Kd.R_drew)); exact HO0_1.out) hb); have n2_ := Aside0.mk (Kept.below (S := (fun k_ => P0_0_ k_ ∨ P0_1_ k_)) (by repeat (first | (with_reducible first | exact HK.out | apply Kept.alloc | apply Kept.drewN | apply Kept.drew) | exact HK.out)) hb); have n3_ := Aside0.mk (below_step (by repeat (first | (with_reducible first | exact HB.out | apply below_alloc | apply pw_below_drewN | apply below_drew1) | exact HB.out)) hb); have n4_ := Aside0.mk (hbox); have n5_ := Aside0.mk ((by rw [hg]; exact (by first | exact HK.out.1 | exact (show Kept w _ (fun k_ => P0_0_ k_ ∨ P0_1_ k_) from by repeat (first | (with_reducible first | exact HK.out | apply Kept.alloc | apply Kept.drewN | apply Kept.drew) | exact HK.out)).1) : w.heap.size ≤ gb131)); have n6_ := Aside0.mk ((by rw [hg]; exact (below_size (by repeat (first | (with_reducible first | exact HB.out | apply below_alloc | apply pw_below_drewN | apply below_drew1) | exact HB.out))) : w0.heap.size ≤ gb131)); clear HO0_0; clear HO0_1; clear HK; clear HB; have HO0_0 := n0_; have HO0_1 := n1_; have HK := n2_; have HB := n3_; have BK131 := n4_; have GW131 := n5_; have GE131 := n6_; clear n0_ n1_ n2_ n3_ n4_ n5_ n6_; clear hb hbox hg) | ((with_reducible refine gate_dst (N := 6) rfl ?_); (try (refine gate_guard (by rfl) ?_; dsimp only)); refine box_event ?hg (N := 6) ?hd (cs := #[.slice none 0 0, .slice none 0 0, .int .i64 0, .int .u64 0, .int .i64 0, .bool false]) (t := 49) ?hr ?_; (case hd => rfl); (case hg => rfl); (case hr => first | (go_simp; done) | (go_simp; rfl)); intro gb132 hg w16 hbox hb; have n0_ := Aside0.mk (Kd.R_below (by (with_reducible repeat (first | apply Kd.R_alloc | apply Kd.R_drewN | apply Kd.R_drew)); exact HO0_0.out) hb); have n1_ := Aside0.mk (Kd.R_below (by (with_reducible repeat (first | apply Kd.R_alloc | apply Kd.R_drewN | apply Kd.R_drew)); exact HO0_1.out) hb); have n2_ := Aside0.mk (blk_below (g := gb131) (o := .cells #[.slice Ao13 l0_0.length co13, .slice Ao14 l0_1.length co14, .int .i64 a0_2, .int .u64 a0_3, .int .i64 a0_4, .bool false] 49 (0, 0)) (by (with_reducible repeat (first | refine blk_drewN ?_ _ | refine blk_drew ?_ | refine blk_alloc ?_ _)); exact BK131.out) hb); have n3_ := Aside0.mk (Kept.below (S := (fun k_ => P0_0_ k_ ∨ P0_1_ k_)) (by repeat (first | (with_reducible first | exact HK.out | apply Kept.alloc | apply Kept.drewN | apply Kept.drew | refine Kept.setCell ?_ (.inr GW131.out) _) | exact HK.out)) hb); have n4_ := Aside0.mk (below_step (by repeat (first | (with_reducible first | exact HB.out | apply below_alloc | apply pw_below_drewN | apply below_drew1 | refine below_set ?_ GE131.out) | exact HB.out)) hb); have n5_ := Aside0.mk (hbox); have n6_ := Aside0.mk ((by rw [hg]; exact (by first | exact HK.out.1 | exact (show Kept w _ (fun k_ => P0_0_ k_ ∨ P0_1_ k_) from by repeat (first | (with_reducible first | exact HK.out | apply Kept.alloc | apply Kept.drewN | apply Kept.drew | refine Kept.setCell ?_ (.inr GW131.out) _) | exact HK.out)).1) : w.heap.size ≤ gb132)); have n7_ := Aside0.mk ((by rw [hg]; exact (below_size (by repeat (first | (with_reducible first | exact HB.out | apply below_alloc | apply pw_below_drewN | apply below_drew1 | refine below_set ?_ GE131.out) | exact HB.out))) : w0.heap.size ≤ gb132)); have n8_ := Aside0.mk ((by rw [hg]; exact Nat.ne_of_lt (blk_lt (g := gb131) (o := .cells #[.slice Ao13 l0_0.length co13, .slice Ao14 l0_1.length co14, .int .i64 a0_2, .int .u64 a0_3, .int .i64 a0_4, .bool false] 49 (0, 0)) (by (with_reducible repeat (first | refine blk_drewN ?_ _ | refine blk_drew ?_ | refine blk_alloc ?_ _)); exact BK131.out)) : gb131 ≠ gb132)); have n9_ := Aside0.mk ((by rw [hg]; exact Nat.ne_of_gt (blk_lt (g := gb131) (o := .cells #[.slice Ao13 l0_0.length co13, .slice Ao14 l0_1.length co14, .int .i64 a0_2, .int .u64 a0_3, .int .i64 a0_4, .bool false] 49 (0, 0)) (by (with_reducible repeat (first | refine blk_drewN ?_ _ | refine blk_drew ?_ | refine blk_alloc ?_ _)); exact BK131.out)) : gb132 ≠ gb131)); clear HO0_0; clear HO0_1; clear BK131; clear HK; clear HB; have HO0_0 := n0_; have HO0_1 := n1_; have BK131 := n2_; have HK := n3_; have HB := n4_; have BK132 := n5_; have GW132 := n6_; have GE132 := n7_; have NB131_132 := n8_; have NB132_131 := n9_; clear n0_ n1_ n2_ n3_ n4_ n5_ n6_ n7_ n8_ n9_; clear hb hbox hg; have hnb17 := NB131_132.out; have hnc17 := NB132_131.out; have hcz18_0 : w16.cell? ⟨gb131, 0, none⟩ = some (.slice Ao13 l0_0.length co13) := (blk_cell BK131.out 0).trans rfl; have hcz18_1 : w16.cell? ⟨gb131, 1, none⟩ = some (.slice Ao14 l0_1.length co14) := (blk_cell BK131.out 1).trans rfl; have hcz18_2 : w16.cell? ⟨gb131, 2, none⟩ = some (.int .i64 a0_2) := (blk_cell BK131.out 2).trans rfl; have hcz18_3 : w16.cell? ⟨gb131, 3, none⟩ = some (.int .u64 a0_3) := (blk_cell BK131.out 3).trans rfl; have hcz18_4 : w16.cell? ⟨gb131, 4, none⟩ = some (.int .i64 a0_4) := (blk_cell BK131.out 4).trans rfl; have hcz18_5 : w16.cell? ⟨gb131, 5, none⟩ = some (.bool false) := (blk_cell BK131.out 5).trans rfl; have hfz18_0 := blk_frozen BK131.out 0; have hfz18_1 := blk_frozen BK131.out 1; have hfz18_2 := blk_frozen BK131.out 2; have hfz18_3 := blk_frozen BK131.out 3; have hfz18_4 := blk_frozen BK131.out 4; have hfz18_5 := blk_frozen BK131.out 5))
    (try simp only [Act.put, List.setIfInBounds_toArray, List.set_cons_zero, List.set_cons_succ])
    go_cut [20] (fun v20 wc => ∃ (kq : Nat) (x20_11 : Bool), v20 = .bool x20_11 ∧ Aside0 (snapferryref03_Put.j0 kq a1 a2 x20_11 l0_0 l0_1 a0_2 a0_3 a0_4 false = some (r1, r2, r3, r4, r5, r6, r7)) ∧ Aside0 (kq ≤ k) ∧ Aside0 (Kd.R Kd.string 9 wc w0.heap.size (fun k_ => ((P0_0_ k_ ∨ P0_1_ k_) ∨ w.heap.size ≤ k_)) (.slice Ao13 l0_0.length co13) l0_0) ∧ Aside0 (Kd.R k75 75 wc w0.heap.size (fun k_ => ((P0_0_ k_ ∨ P0_1_ k_) ∨ w.heap.size ≤ k_)) (.slice Ao14 l0_1.length co14) l0_1) ∧ Aside0 (wc.heap[gb131]? = some (.cells #[(.slice Ao13 l0_0.length co13), (.slice Ao14 l0_1.length co14), .int .i64 a0_2, .int .u64 a0_3, .int .i64 a0_4, .bool false] 49 (0, 0))) ∧ Aside0 (wc.heap[gb132]? = some (.cells #[(.slice none 0 0), (.slice none 0 0), .int .i64 0, .int .u64 0, .int .i64 0, .bool false] 49 (0, 0))) ∧ Aside0 (Kept w wc (fun k_ => P0_0_ k_ ∨ P0_1_ k_)) ∧ Aside0 (Below w0.heap.size w0 wc))
    case first =>
      have H := HC12.out
      clear HC12
      by_cases c19 : a1 < 0
      · rw [if_pos c19] at H
        have c19b0 : decide (a1 < 0) = true := decide_eq_true c19
        clear c19
        (first | rw [c19b0] | (simp only [i64_w, i32_w]; rw [c19b0]) | skip)
        have H' := Aside0.mk H
        clear H
        go_wp2
        go_meet
        case rel => exact ⟨_, (true), (by first | rfl | (simp; done) | (simp [*]; done)), H', ⟨by first | omega | exact Nat.le_refl _⟩, ⟨by (with_reducible repeat (first | apply Kd.R_alloc | apply Kd.R_drewN | apply Kd.R_drew)); exact HO0_0.out⟩, ⟨by (with_reducible repeat (first | apply Kd.R_alloc | apply Kd.R_drewN | apply Kd.R_drew)); exact HO0_1.out⟩, ⟨by (with_reducible repeat (first | refine blk_drewN ?_ _ | refine blk_drew ?_ | refine blk_alloc ?_ _)); exact BK131.out⟩, ⟨by (with_reducible repeat (first | refine blk_drewN ?_ _ | refine blk_drew ?_ | refine blk_alloc ?_ _)); exact BK132.out⟩, ⟨by repeat (first | (with_reducible first | exact HK.out | apply Kept.alloc | apply Kept.drewN | apply Kept.drew | refine Kept.setCell ?_ (.inr GW131.out) _ | refine Kept.setCell ?_ (.inr GW132.out) _) | exact HK.out)⟩, ⟨by repeat (first | (with_reducible first | exact HB.out | apply below_alloc | apply pw_below_drewN | apply below_drew1 | refine below_set ?_ GE131.out | refine below_set ?_ GE132.out) | exact HB.out)⟩⟩
      · rw [if_neg c19] at H
        have c19b0 : decide (a1 < 0) = false := decide_eq_false c19
        clear c19
        (first | rw [c19b0] | (simp only [i64_w, i32_w]; rw [c19b0]) | skip)
        have H' := Aside0.mk H
        clear H
        have hnb20 := NB131_132.out
        have hnc20 := NB132_131.out
        have hcz21_0 : w16.cell? ⟨gb131, 0, none⟩ = some (.slice Ao13 l0_0.length co13) := (blk_cell BK131.out 0).trans rfl
        have hcz21_1 : w16.cell? ⟨gb131, 1, none⟩ = some (.slice Ao14 l0_1.length co14) := (blk_cell BK131.out 1).trans rfl
        have hcz21_2 : w16.cell? ⟨gb131, 2, none⟩ = some (.int .i64 a0_2) := (blk_cell BK131.out 2).trans rfl
        have hcz21_3 : w16.cell? ⟨gb131, 3, none⟩ = some (.int .u64 a0_3) := (blk_cell BK131.out 3).trans rfl
        have hcz21_4 : w16.cell? ⟨gb131, 4, none⟩ = some (.int .i64 a0_4) := (blk_cell BK131.out 4).trans rfl
        have hcz21_5 : w16.cell? ⟨gb131, 5, none⟩ = some (.bool false) := (blk_cell BK131.out 5).trans rfl
        have hfz21_0 := blk_frozen BK131.out 0
        have hfz21_1 := blk_frozen BK131.out 1
        have hfz21_2 := blk_frozen BK131.out 2
        have hfz21_3 := blk_frozen BK131.out 3
        have hfz21_4 := blk_frozen BK131.out 4
        have hfz21_5 := blk_frozen BK131.out 5
        go_wp2
        go_meet
        case rel => exact ⟨_, (decide (a1 ≥ (l0_0.length : Int))), (by first | rfl | (simp; done) | (simp [*]; done)), H', ⟨by first | omega | exact Nat.le_refl _⟩, ⟨by (with_reducible repeat (first | apply Kd.R_alloc | apply Kd.R_drewN | apply Kd.R_drew)); exact HO0_0.out⟩, ⟨by (with_reducible repeat (first | apply Kd.R_alloc | apply Kd.R_drewN | apply Kd.R_drew)); exact HO0_1.out⟩, ⟨by (with_reducible repeat (first | refine blk_drewN ?_ _ | refine blk_drew ?_ | refine blk_alloc ?_ _)); exact BK131.out⟩, ⟨by (with_reducible repeat (first | refine blk_drewN ?_ _ | refine blk_drew ?_ | refine blk_alloc ?_ _)); exact BK132.out⟩, ⟨by repeat (first | (with_reducible first | exact HK.out | apply Kept.alloc | apply Kept.drewN | apply Kept.drew | refine Kept.setCell ?_ (.inr GW131.out) _ | refine Kept.setCell ?_ (.inr GW132.out) _) | exact HK.out)⟩, ⟨by repeat (first | (with_reducible first | exact HB.out | apply below_alloc | apply pw_below_drewN | apply below_drew1 | refine below_set ?_ GE131.out | refine below_set ?_ GE132.out) | exact HB.out)⟩⟩
    case rest =>
      clear HC12
      try clear c1
      try clear c2
      try clear p2
      try clear c4
      try clear c9
      try clear c17
      try clear c18
      try clear c19
      try clear c19b0
      try clear c20
      try clear hcz10_0
      try clear hcz10_1
      try clear hcz10_2
      try clear hcz10_3
      try clear hcz10_4
      try clear hcz10_5
      try clear hcz11_0
      try clear hcz11_1
      try clear hcz11_2
      try clear hcz11_3
      try clear hcz11_4
      try clear hcz11_5
      try clear hcz18_0
      try clear hcz18_1
      try clear hcz18_2
      try clear hcz18_3
      try clear hcz18_4
      try clear hcz18_5
      try clear hcz21_0
      try clear hcz21_1
      try clear hcz21_2
      try clear hcz21_3
      try clear hcz21_4
      try clear hcz21_5
      try clear hfz10_0
      try clear hfz10_1
      try clear hfz10_2
      try clear hfz10_3
      try clear hfz10_4
      try clear hfz10_5
      try clear hfz11_0
      try clear hfz11_1
      try clear hfz11_2
      try clear hfz11_3
      try clear hfz11_4
      try clear hfz11_5
      try clear hfz18_0
      try clear hfz18_1
      try clear hfz18_2
      try clear hfz18_3
      try clear hfz18_4
      try clear hfz18_5
      try clear hfz21_0
      try clear hfz21_1
      try clear hfz21_2
      try clear hfz21_3
      try clear hfz21_4
      try clear hfz21_5
      obtain ⟨kq, x20_11, rfl, HA, HJ11, HO_132000, HO_132001, BK131, BK132, HK, HB⟩ := hcut
      cases kq with
      | zero => exact absurd HA.out (by simp [snapferryref03_Put.j0])
      | succ kj11 =>
        have H := HA.out
        clear HA
        simp only [snapferryref03_Put.j0] at H
        by_cases c22 : x20_11 = true
        · subst c22
          have H1 : (some (l0_0, l0_1, a0_2, a0_3, a0_4, false, 1)) = some (r1, r2, r3, r4, r5, r6, r7) := by rw [if_pos rfl] at H; exact H
          clear H
          have H := H1
          clear H1
          simp only [Option.some.injEq, Prod.mk.injEq] at H
          obtain ⟨rfl, rfl, rfl, rfl, rfl, rfl, rfl⟩ := H
          have hnb23 := NB131_132.out
          have hnc23 := NB132_131.out
          have hcz24_0 : wc.cell? ⟨gb131, 0, none⟩ = some (.slice Ao13 l0_0.length co13) := (blk_cell BK131.out 0).trans rfl
          have hcz24_1 : wc.cell? ⟨gb131, 1, none⟩ = some (.slice Ao14 l0_1.length co14) := (blk_cell BK131.out 1).trans rfl
          have hcz24_2 : wc.cell? ⟨gb131, 2, none⟩ = some (.int .i64 a0_2) := (blk_cell BK131.out 2).trans rfl
          have hcz24_3 : wc.cell? ⟨gb131, 3, none⟩ = some (.int .u64 a0_3) := (blk_cell BK131.out 3).trans rfl
          have hcz24_4 : wc.cell? ⟨gb131, 4, none⟩ = some (.int .i64 a0_4) := (blk_cell BK131.out 4).trans rfl
          have hcz24_5 : wc.cell? ⟨gb131, 5, none⟩ = some (.bool false) := (blk_cell BK131.out 5).trans rfl
          have hfz24_0 := blk_frozen BK131.out 0
          have hfz24_1 := blk_frozen BK131.out 1
          have hfz24_2 := blk_frozen BK131.out 2
          have hfz24_3 := blk_frozen BK131.out 3
          have hfz24_4 := blk_frozen BK131.out 4
          have hfz24_5 := blk_frozen BK131.out 5
          have hcz25_0 : wc.cell? ⟨gb132, 0, none⟩ = some (.slice none 0 0) := (blk_cell BK132.out 0).trans rfl
          have hcz25_1 : wc.cell? ⟨gb132, 1, none⟩ = some (.slice none 0 0) := (blk_cell BK132.out 1).trans rfl
          have hcz25_2 : wc.cell? ⟨gb132, 2, none⟩ = some (.int .i64 0) := (blk_cell BK132.out 2).trans rfl
          have hcz25_3 : wc.cell? ⟨gb132, 3, none⟩ = some (.int .u64 0) := (blk_cell BK132.out 3).trans rfl
          have hcz25_4 : wc.cell? ⟨gb132, 4, none⟩ = some (.int .i64 0) := (blk_cell BK132.out 4).trans rfl
          have hcz25_5 : wc.cell? ⟨gb132, 5, none⟩ = some (.bool false) := (blk_cell BK132.out 5).trans rfl
          have hfz25_0 := blk_frozen BK132.out 0
          have hfz25_1 := blk_frozen BK132.out 1
          have hfz25_2 := blk_frozen BK132.out 2
          have hfz25_3 := blk_frozen BK132.out 3
          have hfz25_4 := blk_frozen BK132.out 4
          have hfz25_5 := blk_frozen BK132.out 5
          go_wp2
          refine bodyPost_ret (results_ct rfl _ _ gb132 49 #[.slice Ao13 l0_0.length co13, .slice Ao14 l0_1.length co14, .int .i64 a0_2, .int .u64 a0_3, .int .i64 a0_4, .bool false] (0, 0) _ rfl (by (with_reducible repeat (first | refine blk_drewN ?_ _ | refine blk_drew ?_ | refine blk_alloc ?_ _)); refine blk_put (cs := #[.slice Ao13 l0_0.length co13, .slice Ao14 l0_1.length co14, .int .i64 a0_2, .int .u64 a0_3, .int .i64 a0_4, .bool false]) ?_ 5 _ rfl; (with_reducible repeat (first | refine blk_drewN ?_ _ | refine blk_drew ?_ | refine blk_alloc ?_ _)); refine blk_put (cs := #[.slice Ao13 l0_0.length co13, .slice Ao14 l0_1.length co14, .int .i64 a0_2, .int .u64 a0_3, .int .i64 0, .bool false]) ?_ 4 _ rfl; (with_reducible repeat (first | refine blk_drewN ?_ _ | refine blk_drew ?_ | refine blk_alloc ?_ _)); refine blk_put (cs := #[.slice Ao13 l0_0.length co13, .slice Ao14 l0_1.length co14, .int .i64 a0_2, .int .u64 0, .int .i64 0, .bool false]) ?_ 3 _ rfl; (with_reducible repeat (first | refine blk_drewN ?_ _ | refine blk_drew ?_ | refine blk_alloc ?_ _)); refine blk_put (cs := #[.slice Ao13 l0_0.length co13, .slice Ao14 l0_1.length co14, .int .i64 0, .int .u64 0, .int .i64 0, .bool false]) ?_ 2 _ rfl; (with_reducible repeat (first | refine blk_drewN ?_ _ | refine blk_drew ?_ | refine blk_alloc ?_ _)); refine blk_put (cs := #[.slice Ao13 l0_0.length co13, .slice none 0 0, .int .i64 0, .int .u64 0, .int .i64 0, .bool false]) ?_ 1 _ rfl; (with_reducible repeat (first | refine blk_drewN ?_ _ | refine blk_drew ?_ | refine blk_alloc ?_ _)); refine blk_put (cs := #[.slice none 0 0, .slice none 0 0, .int .i64 0, .int .u64 0, .int .i64 0, .bool false]) ?_ 0 _ rfl; (with_reducible repeat (first | refine blk_drewN ?_ _ | refine blk_drew ?_ | refine blk_alloc ?_ _)); exact BK132.out) Try.underlying49 rfl (by kernel_rfl)) rfl ?_
          exact ⟨_, _, by first | rfl | (simp [errW_none, errW_some] <;> rfl) | (simp [*, errW_none, errW_some] <;> rfl), by (with_reducible repeat (first | apply Kd.R_alloc | apply Kd.R_drewN | apply Kd.R_drew)); exact Kd.R_mono (Kd.R_far (p := ⟨gb132, 5, none⟩) (Kd.R_far (p := ⟨gb132, 4, none⟩) (Kd.R_far (p := ⟨gb132, 3, none⟩) (Kd.R_far (p := ⟨gb132, 2, none⟩) (Kd.R_far (p := ⟨gb132, 1, none⟩) (Kd.R_far (p := ⟨gb132, 0, none⟩) (Kd.R_types HO_132000.out BK132.out (by decide)) (fun _ hk => hk.2) (.slice Ao13 l0_0.length co13)) (fun _ hk => hk.2) (.slice Ao14 l0_1.length co14)) (fun _ hk => hk.2) (.int .i64 a0_2)) (fun _ hk => hk.2) (.int .u64 a0_3)) (fun _ hk => hk.2) (.int .i64 a0_4)) (fun _ hk => hk.2) (.bool false)) (fun _ hk => hk.1), by (with_reducible repeat (first | apply Kd.R_alloc | apply Kd.R_drewN | apply Kd.R_drew)); exact Kd.R_mono (Kd.R_far (p := ⟨gb132, 5, none⟩) (Kd.R_far (p := ⟨gb132, 4, none⟩) (Kd.R_far (p := ⟨gb132, 3, none⟩) (Kd.R_far (p := ⟨gb132, 2, none⟩) (Kd.R_far (p := ⟨gb132, 1, none⟩) (Kd.R_far (p := ⟨gb132, 0, none⟩) (Kd.R_types HO_132001.out BK132.out (by decide)) (fun _ hk => hk.2) (.slice Ao13 l0_0.length co13)) (fun _ hk => hk.2) (.slice Ao14 l0_1.length co14)) (fun _ hk => hk.2) (.int .i64 a0_2)) (fun _ hk => hk.2) (.int .u64 a0_3)) (fun _ hk => hk.2) (.int .i64 a0_4)) (fun _ hk => hk.2) (.bool false)) (fun _ hk => hk.1), by repeat (first | (with_reducible first | exact HB.out | apply below_alloc | apply pw_below_drewN | apply below_drew1 | refine below_set ?_ GE131.out | refine below_set ?_ GE132.out) | exact HB.out), by repeat (first | (with_reducible first | exact HK.out | apply Kept.alloc | apply Kept.drewN | apply Kept.drew | refine Kept.setCell ?_ (.inr GW131.out) _ | refine Kept.setCell ?_ (.inr GW132.out) _) | exact HK.out)⟩
        · replace c22 := Bool.eq_false_iff.mpr c22
          subst c22
          have H1 : (if (a2.size : Int) > 32 then (some (l0_0, l0_1, a0_2, a0_3, a0_4, false, 3)) else ((some (([] : List (S75)) : List (S75))).bind fun y133 => (if y133.length + l0_1.length < 5864062014805 then ((some (y133 ++ l0_1 : List (S75))).bind fun y136 => ((snapferryref03_fill.f kj11 a2).bind fun t139 => (if y136.length < 5864062014805 then ((snapferryref03_counted.f kj11 l0_0 (y136 ++ [(⟨a1, t139⟩ : S75)]) a0_2 a0_3 a0_4 false).bind fun bt143 => (if bt143.2.2.2.2.2.2 = true then (some (bt143.1, bt143.2.1, bt143.2.2.1, bt143.2.2.2.1, bt143.2.2.2.2.1, bt143.2.2.2.2.2.1, 7)) else (some (bt143.1, bt143.2.1, bt143.2.2.1, bt143.2.2.2.1, bt143.2.2.2.2.1, bt143.2.2.2.2.2.1, 0)))) else (none)))) else (none)))) = some (r1, r2, r3, r4, r5, r6, r7) := by rw [if_neg (show ¬ (false = true) by decide)] at H; exact H
          clear H
          have H := H1
          clear H1
          by_cases c26 : (a2.size : Int) > 32
          · rw [if_pos c26] at H
            have c26b0 : decide (32 < (a2.size : Int)) = true := decide_eq_true c26
            have c26b1 : decide (32 < a2.size) = true := decide_eq_true (by omega)
            clear c26
            simp only [Option.some.injEq, Prod.mk.injEq] at H
            obtain ⟨rfl, rfl, rfl, rfl, rfl, rfl, rfl⟩ := H
            have hnb27 := NB131_132.out
            have hnc27 := NB132_131.out
            have hcz28_0 : wc.cell? ⟨gb131, 0, none⟩ = some (.slice Ao13 l0_0.length co13) := (blk_cell BK131.out 0).trans rfl
            have hcz28_1 : wc.cell? ⟨gb131, 1, none⟩ = some (.slice Ao14 l0_1.length co14) := (blk_cell BK131.out 1).trans rfl
            have hcz28_2 : wc.cell? ⟨gb131, 2, none⟩ = some (.int .i64 a0_2) := (blk_cell BK131.out 2).trans rfl
            have hcz28_3 : wc.cell? ⟨gb131, 3, none⟩ = some (.int .u64 a0_3) := (blk_cell BK131.out 3).trans rfl
            have hcz28_4 : wc.cell? ⟨gb131, 4, none⟩ = some (.int .i64 a0_4) := (blk_cell BK131.out 4).trans rfl
            have hcz28_5 : wc.cell? ⟨gb131, 5, none⟩ = some (.bool false) := (blk_cell BK131.out 5).trans rfl
            have hfz28_0 := blk_frozen BK131.out 0
            have hfz28_1 := blk_frozen BK131.out 1
            have hfz28_2 := blk_frozen BK131.out 2
            have hfz28_3 := blk_frozen BK131.out 3
            have hfz28_4 := blk_frozen BK131.out 4
            have hfz28_5 := blk_frozen BK131.out 5
            have hcz29_0 : wc.cell? ⟨gb132, 0, none⟩ = some (.slice none 0 0) := (blk_cell BK132.out 0).trans rfl
            have hcz29_1 : wc.cell? ⟨gb132, 1, none⟩ = some (.slice none 0 0) := (blk_cell BK132.out 1).trans rfl
            have hcz29_2 : wc.cell? ⟨gb132, 2, none⟩ = some (.int .i64 0) := (blk_cell BK132.out 2).trans rfl
            have hcz29_3 : wc.cell? ⟨gb132, 3, none⟩ = some (.int .u64 0) := (blk_cell BK132.out 3).trans rfl
            have hcz29_4 : wc.cell? ⟨gb132, 4, none⟩ = some (.int .i64 0) := (blk_cell BK132.out 4).trans rfl
            have hcz29_5 : wc.cell? ⟨gb132, 5, none⟩ = some (.bool false) := (blk_cell BK132.out 5).trans rfl
            have hfz29_0 := blk_frozen BK132.out 0
            have hfz29_1 := blk_frozen BK132.out 1
            have hfz29_2 := blk_frozen BK132.out 2
            have hfz29_3 := blk_frozen BK132.out 3
            have hfz29_4 := blk_frozen BK132.out 4
            have hfz29_5 := blk_frozen BK132.out 5
            go_wp2
            refine bodyPost_ret (results_ct rfl _ _ gb132 49 #[.slice Ao13 l0_0.length co13, .slice Ao14 l0_1.length co14, .int .i64 a0_2, .int .u64 a0_3, .int .i64 a0_4, .bool false] (0, 0) _ rfl (by (with_reducible repeat (first | refine blk_drewN ?_ _ | refine blk_drew ?_ | refine blk_alloc ?_ _)); refine blk_put (cs := #[.slice Ao13 l0_0.length co13, .slice Ao14 l0_1.length co14, .int .i64 a0_2, .int .u64 a0_3, .int .i64 a0_4, .bool false]) ?_ 5 _ rfl; (with_reducible repeat (first | refine blk_drewN ?_ _ | refine blk_drew ?_ | refine blk_alloc ?_ _)); refine blk_put (cs := #[.slice Ao13 l0_0.length co13, .slice Ao14 l0_1.length co14, .int .i64 a0_2, .int .u64 a0_3, .int .i64 0, .bool false]) ?_ 4 _ rfl; (with_reducible repeat (first | refine blk_drewN ?_ _ | refine blk_drew ?_ | refine blk_alloc ?_ _)); refine blk_put (cs := #[.slice Ao13 l0_0.length co13, .slice Ao14 l0_1.length co14, .int .i64 a0_2, .int .u64 0, .int .i64 0, .bool false]) ?_ 3 _ rfl; (with_reducible repeat (first | refine blk_drewN ?_ _ | refine blk_drew ?_ | refine blk_alloc ?_ _)); refine blk_put (cs := #[.slice Ao13 l0_0.length co13, .slice Ao14 l0_1.length co14, .int .i64 0, .int .u64 0, .int .i64 0, .bool false]) ?_ 2 _ rfl; (with_reducible repeat (first | refine blk_drewN ?_ _ | refine blk_drew ?_ | refine blk_alloc ?_ _)); refine blk_put (cs := #[.slice Ao13 l0_0.length co13, .slice none 0 0, .int .i64 0, .int .u64 0, .int .i64 0, .bool false]) ?_ 1 _ rfl; (with_reducible repeat (first | refine blk_drewN ?_ _ | refine blk_drew ?_ | refine blk_alloc ?_ _)); refine blk_put (cs := #[.slice none 0 0, .slice none 0 0, .int .i64 0, .int .u64 0, .int .i64 0, .bool false]) ?_ 0 _ rfl; (with_reducible repeat (first | refine blk_drewN ?_ _ | refine blk_drew ?_ | refine blk_alloc ?_ _)); exact BK132.out) Try.underlying49 rfl (by kernel_rfl)) rfl ?_
            exact ⟨_, _, by first | rfl | (simp [errW_none, errW_some] <;> rfl) | (simp [*, errW_none, errW_some] <;> rfl), by (with_reducible repeat (first | apply Kd.R_alloc | apply Kd.R_drewN | apply Kd.R_drew)); exact Kd.R_mono (Kd.R_far (p := ⟨gb132, 5, none⟩) (Kd.R_far (p := ⟨gb132, 4, none⟩) (Kd.R_far (p := ⟨gb132, 3, none⟩) (Kd.R_far (p := ⟨gb132, 2, none⟩) (Kd.R_far (p := ⟨gb132, 1, none⟩) (Kd.R_far (p := ⟨gb132, 0, none⟩) (Kd.R_types HO_132000.out BK132.out (by decide)) (fun _ hk => hk.2) (.slice Ao13 l0_0.length co13)) (fun _ hk => hk.2) (.slice Ao14 l0_1.length co14)) (fun _ hk => hk.2) (.int .i64 a0_2)) (fun _ hk => hk.2) (.int .u64 a0_3)) (fun _ hk => hk.2) (.int .i64 a0_4)) (fun _ hk => hk.2) (.bool false)) (fun _ hk => hk.1), by (with_reducible repeat (first | apply Kd.R_alloc | apply Kd.R_drewN | apply Kd.R_drew)); exact Kd.R_mono (Kd.R_far (p := ⟨gb132, 5, none⟩) (Kd.R_far (p := ⟨gb132, 4, none⟩) (Kd.R_far (p := ⟨gb132, 3, none⟩) (Kd.R_far (p := ⟨gb132, 2, none⟩) (Kd.R_far (p := ⟨gb132, 1, none⟩) (Kd.R_far (p := ⟨gb132, 0, none⟩) (Kd.R_types HO_132001.out BK132.out (by decide)) (fun _ hk => hk.2) (.slice Ao13 l0_0.length co13)) (fun _ hk => hk.2) (.slice Ao14 l0_1.length co14)) (fun _ hk => hk.2) (.int .i64 a0_2)) (fun _ hk => hk.2) (.int .u64 a0_3)) (fun _ hk => hk.2) (.int .i64 a0_4)) (fun _ hk => hk.2) (.bool false)) (fun _ hk => hk.1), by repeat (first | (with_reducible first | exact HB.out | apply below_alloc | apply pw_below_drewN | apply below_drew1 | refine below_set ?_ GE131.out | refine below_set ?_ GE132.out) | exact HB.out), by repeat (first | (with_reducible first | exact HK.out | apply Kept.alloc | apply Kept.drewN | apply Kept.drew | refine Kept.setCell ?_ (.inr GW131.out) _ | refine Kept.setCell ?_ (.inr GW132.out) _) | exact HK.out)⟩
          · rw [if_neg c26] at H
            have c26b0 : decide (32 < (a2.size : Int)) = false := decide_eq_false c26
            have c26b1 : decide (32 < a2.size) = false := decide_eq_false (by omega)
            clear c26
            obtain ⟨y133, hy133⟩ : ∃ y_ : List (S75), y_ = (([] : List (S75))) := ⟨_, rfl⟩
            replace H : (if y133.length + l0_1.length < 5864062014805 then ((some (y133 ++ l0_1 : List (S75))).bind fun y136 => ((snapferryref03_fill.f kj11 a2).bind fun t139 => (if y136.length < 5864062014805 then ((snapferryref03_counted.f kj11 l0_0 (y136 ++ [(⟨a1, t139⟩ : S75)]) a0_2 a0_3 a0_4 false).bind fun bt143 => (if bt143.2.2.2.2.2.2 = true then (some (bt143.1, bt143.2.1, bt143.2.2.1, bt143.2.2.2.1, bt143.2.2.2.2.1, bt143.2.2.2.2.2.1, 7)) else (some (bt143.1, bt143.2.1, bt143.2.2.1, bt143.2.2.2.1, bt143.2.2.2.2.1, bt143.2.2.2.2.2.1, 0)))) else (none)))) else (none)) = some (r1, r2, r3, r4, r5, r6, r7) := by first | (rw [hy133]; with_reducible exact H) | (have H2_ := (Option.bind_some _ _).symm.trans H; rw [hy133]; with_reducible exact H2_) | (have H2_ := (Option.bind_some _ _).symm.trans H; with_reducible exact H2_) | with_reducible exact H | (rw [hy133]; exact H) | exact H
            have Ny133 := Aside0.mk hy133
            clear hy133
            by_cases c30 : y133.length + l0_1.length < 5864062014805
            · rw [if_pos c30] at H
              have LMc30 := Aside0.mk c30
              clear c30
              obtain ⟨y136, hy136⟩ : ∃ y_ : List (S75), y_ = (y133 ++ l0_1) := ⟨_, rfl⟩
              replace H : ((snapferryref03_fill.f kj11 a2).bind fun t139 => (if y136.length < 5864062014805 then ((snapferryref03_counted.f kj11 l0_0 (y136 ++ [(⟨a1, t139⟩ : S75)]) a0_2 a0_3 a0_4 false).bind fun bt143 => (if bt143.2.2.2.2.2.2 = true then (some (bt143.1, bt143.2.1, bt143.2.2.1, bt143.2.2.2.1, bt143.2.2.2.2.1, bt143.2.2.2.2.2.1, 7)) else (some (bt143.1, bt143.2.1, bt143.2.2.1, bt143.2.2.2.1, bt143.2.2.2.2.1, bt143.2.2.2.2.2.1, 0)))) else (none))) = some (r1, r2, r3, r4, r5, r6, r7) := by first | (rw [hy136]; with_reducible exact H) | (have H2_ := (Option.bind_some _ _).symm.trans H; rw [hy136]; with_reducible exact H2_) | (have H2_ := (Option.bind_some _ _).symm.trans H; with_reducible exact H2_) | with_reducible exact H | (rw [hy136]; exact H) | exact H
              have Ny136 := Aside0.mk hy136
              clear hy136
              replace H := Option.bind_eq_some_iff.mp H
              obtain ⟨t139, A310, H⟩ := H
              replace H : (if y136.length < 5864062014805 then ((snapferryref03_counted.f kj11 l0_0 (y136 ++ [(⟨a1, t139⟩ : S75)]) a0_2 a0_3 a0_4 false).bind fun bt143 => (if bt143.2.2.2.2.2.2 = true then (some (bt143.1, bt143.2.1, bt143.2.2.1, bt143.2.2.2.1, bt143.2.2.2.2.1, bt143.2.2.2.2.2.1, 7)) else (some (bt143.1, bt143.2.1, bt143.2.2.1, bt143.2.2.2.1, bt143.2.2.2.2.1, bt143.2.2.2.2.2.1, 0)))) else (none)) = some (r1, r2, r3, r4, r5, r6, r7) := H
              have A31 := Aside0.mk A310
              clear A310
              by_cases c32 : y136.length < 5864062014805
              · rw [if_pos c32] at H
                have LMc32 := Aside0.mk c32
                clear c32
                obtain ⟨y140, hy140⟩ : ∃ y_ : List (S75), y_ = (y136 ++ [(⟨a1, t139⟩ : S75)]) := ⟨_, rfl⟩
                replace H : ((snapferryref03_counted.f kj11 l0_0 y140 a0_2 a0_3 a0_4 false).bind fun bt143 => (if bt143.2.2.2.2.2.2 = true then (some (bt143.1, bt143.2.1, bt143.2.2.1, bt143.2.2.2.1, bt143.2.2.2.2.1, bt143.2.2.2.2.2.1, 7)) else (some (bt143.1, bt143.2.1, bt143.2.2.1, bt143.2.2.2.1, bt143.2.2.2.2.1, bt143.2.2.2.2.2.1, 0)))) = some (r1, r2, r3, r4, r5, r6, r7) := by first | (rw [hy140]; with_reducible exact H) | (have H2_ := (Option.bind_some _ _).symm.trans H; rw [hy140]; with_reducible exact H2_) | (have H2_ := (Option.bind_some _ _).symm.trans H; with_reducible exact H2_) | with_reducible exact H | (rw [hy140]; exact H) | exact H
                have Ny140 := Aside0.mk hy140
                clear hy140
                replace H := Option.bind_eq_some_iff.mp H
                obtain ⟨⟨t143, t146, t149, t150, t151, t152, t153⟩, A330, H⟩ := H
                replace H : (if t153 = true then (some (t143, t146, t149, t150, t151, t152, 7)) else (some (t143, t146, t149, t150, t151, t152, 0))) = some (r1, r2, r3, r4, r5, r6, r7) := H
                have A33 := Aside0.mk A330
                clear A330
                by_cases c34 : t153 = true
                · subst c34
                  have H1 : (some (t143, t146, t149, t150, t151, t152, 7)) = some (r1, r2, r3, r4, r5, r6, r7) := by rw [if_pos rfl] at H; exact H
                  clear H
                  have H := H1
                  clear H1
                  simp only [Option.some.injEq, Prod.mk.injEq] at H
                  obtain ⟨rfl, rfl, rfl, rfl, rfl, rfl, rfl⟩ := H
                  go_wp2_with (first | ((with_reducible refine gate_dst (N := 26) rfl ?_); (try (refine gate_guard (by rfl) ?_; dsimp only)); refine Kd.R_lit k75 _ 75 ?hg (N := 26) ?hd (xs := ([] : List (S75))) (inner := []) (ok := fun _ => True) (okp := fun _ => True) ?hr ?hp (fun _ hk => hk) trivial (Below.refl _ _) (Nat.le_refl _) (by simp) ?_; (case hd => rfl); (case hg => rfl); (case hr => first | (go_simp; done) | (go_simp; rfl)); (case hp => exact (Reps.none _ _)); intro v134 w35 ho36 hb hg_ hnew_; clear hg_ hnew_; (first | rw [← Ny133.out] at ho36 | (simp only [Int.reduceToNat] at ho36; rw [← Ny133.out] at ho36)); have n0_ := Aside0.mk (Kd.R_below (by (with_reducible repeat (first | apply Kd.R_alloc | apply Kd.R_drewN | apply Kd.R_drew)); exact HO_132000.out) hb); have n1_ := Aside0.mk (Kd.R_elder' (by (with_reducible repeat (first | apply Kd.R_alloc | apply Kd.R_drewN | apply Kd.R_drew)); exact HO_132001.out) (Kd.R_base ho36) hb); have n2_ := Aside0.mk (Kd.R_lower (Kd.R_new' (Kd.R_newM (M := fun k_ => ((P0_0_ k_ ∨ P0_1_ k_) ∨ w.heap.size ≤ k_)) ho36 (by first | exact HK.out.1 | exact (show Kept w _ (fun k_ => P0_0_ k_ ∨ P0_1_ k_) from by repeat (first | (with_reducible first | exact HK.out | apply Kept.alloc | apply Kept.drewN | apply Kept.drew | refine Kept.setCell ?_ (.inr GW131.out) _ | refine Kept.setCell ?_ (.inr GW132.out) _) | exact HK.out)).1) (fun k_ h_ => .inr h_)) (Kd.R_lt (by (with_reducible repeat (first | apply Kd.R_alloc | apply Kd.R_drewN | apply Kd.R_drew)); exact HO_132001.out))) (below_size (by repeat (first | (with_reducible first | exact HB.out | apply below_alloc | apply pw_below_drewN | apply below_drew1 | refine below_set ?_ GE131.out | refine below_set ?_ GE132.out) | exact HB.out)))); have n3_ := Aside0.mk (blk_below (g := gb131) (o := .cells #[.slice Ao13 l0_0.length co13, .slice Ao14 l0_1.length co14, .int .i64 a0_2, .int .u64 a0_3, .int .i64 a0_4, .bool false] 49 (0, 0)) (by (with_reducible repeat (first | refine blk_drewN ?_ _ | refine blk_drew ?_ | refine blk_alloc ?_ _)); exact BK131.out) hb); have n4_ := Aside0.mk (blk_below (g := gb132) (o := .cells #[.slice none 0 0, .slice none 0 0, .int .i64 0, .int .u64 0, .int .i64 0, .bool false] 49 (0, 0)) (by (with_reducible repeat (first | refine blk_drewN ?_ _ | refine blk_drew ?_ | refine blk_alloc ?_ _)); exact BK132.out) hb); have n5_ := Aside0.mk (Kept.below (S := (fun k_ => P0_0_ k_ ∨ P0_1_ k_)) (by repeat (first | (with_reducible first | exact HK.out | apply Kept.alloc | apply Kept.drewN | apply Kept.drew | refine Kept.setCell ?_ (.inr GW131.out) _ | refine Kept.setCell ?_ (.inr GW132.out) _) | exact HK.out)) hb); have n6_ := Aside0.mk (below_step (by repeat (first | (with_reducible first | exact HB.out | apply below_alloc | apply pw_below_drewN | apply below_drew1 | refine below_set ?_ GE131.out | refine below_set ?_ GE132.out) | exact HB.out)) hb); clear HO_132000; clear HO_132001; clear BK131; clear BK132; clear HK; clear HB; have HO_132000 := n0_; have HO_132001 := n1_; have HO135 := n2_; have BK131 := n3_; have BK132 := n4_; have HK := n5_; have HB := n6_; clear n0_ n1_ n2_ n3_ n4_ n5_ n6_; clear hb ho36; have hnb37 := NB131_132.out; have hnc37 := NB132_131.out; have hcz38_0 : w35.cell? ⟨gb131, 0, none⟩ = some (.slice Ao13 l0_0.length co13) := (blk_cell BK131.out 0).trans rfl; have hcz38_1 : w35.cell? ⟨gb131, 1, none⟩ = some (.slice Ao14 l0_1.length co14) := (blk_cell BK131.out 1).trans rfl; have hcz38_2 : w35.cell? ⟨gb131, 2, none⟩ = some (.int .i64 a0_2) := (blk_cell BK131.out 2).trans rfl; have hcz38_3 : w35.cell? ⟨gb131, 3, none⟩ = some (.int .u64 a0_3) := (blk_cell BK131.out 3).trans rfl; have hcz38_4 : w35.cell? ⟨gb131, 4, none⟩ = some (.int .i64 a0_4) := (blk_cell BK131.out 4).trans rfl; have hcz38_5 : w35.cell? ⟨gb131, 5, none⟩ = some (.bool false) := (blk_cell BK131.out 5).trans rfl; have hfz38_0 := blk_frozen BK131.out 0; have hfz38_1 := blk_frozen BK131.out 1; have hfz38_2 := blk_frozen BK131.out 2; have hfz38_3 := blk_frozen BK131.out 3; have hfz38_4 := blk_frozen BK131.out 4; have hfz38_5 := blk_frozen BK131.out 5) | ((with_reducible refine gate_builtin (b := .append) (xs := #[.tmp 26, .tmp 28]) rfl ?_); (try (refine gate_guard (by rfl) ?_; dsimp only)); at_builtin; refine Kd.R_append_rows k75 (w0 := w0) w0.heap.size rfl (.tmp 26) (.tmp 28) 47 75 (.agg #[(.int .i64 0), (.string ⟨#[]⟩)]) 24 rfl Try.underlying47 info75 rfl (by decide) (by omega) v134 y133 l0_1 _ _ _ (fun k_ => ((P0_0_ k_ ∨ P0_1_ k_) ∨ w.heap.size ≤ k_) ∧ some k_ ≠ (.slice Ao14 l0_1.length co14 : Value).ownBlock) (fun _ => False) rfl rfl ?aO ?aR (fun _ _ h => h) (fun _ h => h.elim) ?aF ?aB ?aS ?aL ?_; (case aR => repeat (first | exact (Kd.R_reads' HO_132001.out).2.2 | (with_reducible refine Kd.C_alloc ?_ _) | (with_reducible refine Kd.C_drewN ?_ _) | (with_reducible refine Kd.C_drew ?_))); (case aB => exact (by repeat (first | (with_reducible first | exact HB.out | apply below_alloc | apply pw_below_drewN | apply below_drew1 | refine below_set ?_ GE131.out | refine below_set ?_ GE132.out) | exact HB.out))); (case aF => exact (fun k_ hk => ⟨(.inr (Nat.le_trans (by first | exact HK.out.1 | exact (show Kept w _ (fun k_ => P0_0_ k_ ∨ P0_1_ k_) from by repeat (first | (with_reducible first | exact HK.out | apply Kept.alloc | apply Kept.drewN | apply Kept.drew | refine Kept.setCell ?_ (.inr GW131.out) _ | refine Kept.setCell ?_ (.inr GW132.out) _) | exact HK.out)).1) hk)), Kd.fresh' (Kd.R_lt (by (with_reducible repeat (first | apply Kd.R_alloc | apply Kd.R_drewN | apply Kd.R_drew)); exact HO_132001.out)) k_ hk⟩)); (case aO => exact (by (with_reducible repeat (first | apply Kd.R_alloc | apply Kd.R_drewN | apply Kd.R_drew)); exact Kd.R_mono HO135.out (fun _ hk => ⟨hk.1.1, hk.2⟩))); (case aS => exact (below_size (by repeat (first | (with_reducible first | exact HB.out | apply below_alloc | apply pw_below_drewN | apply below_drew1 | refine below_set ?_ GE131.out | refine below_set ?_ GE132.out) | exact HB.out)))); (case aL => have := LMc30.out; omega); intro v137 w39 ho hb hg hat; rw [← Ny136.out] at ho; have n0_ := Aside0.mk (Kd.R_over' (by (with_reducible repeat (first | apply Kd.R_alloc | apply Kd.R_drewN | apply Kd.R_drew)); exact HO_132000.out) (Kd.R_typed (by (with_reducible repeat (first | apply Kd.R_alloc | apply Kd.R_drewN | apply Kd.R_drew)); exact HO135.out)) (by decide) hg); have n1_ := Aside0.mk (Kd.R_after (ok := (fun k_ => ((P0_0_ k_ ∨ P0_1_ k_) ∨ w.heap.size ≤ k_))) (by (with_reducible repeat (first | apply Kd.R_alloc | apply Kd.R_drewN | apply Kd.R_drew)); exact HO_132001.out) hg hat); have n2_ := Aside0.mk (blk_grown (g := gb131) (o := .cells #[.slice Ao13 l0_0.length co13, .slice Ao14 l0_1.length co14, .int .i64 a0_2, .int .u64 a0_3, .int .i64 a0_4, .bool false] 49 (0, 0)) (by (with_reducible repeat (first | refine blk_drewN ?_ _ | refine blk_drew ?_ | refine blk_alloc ?_ _)); exact BK131.out) hg (Kd.R_ne HO135.out BK131.out (by decide))); have n3_ := Aside0.mk (blk_grown (g := gb132) (o := .cells #[.slice none 0 0, .slice none 0 0, .int .i64 0, .int .u64 0, .int .i64 0, .bool false] 49 (0, 0)) (by (with_reducible repeat (first | refine blk_drewN ?_ _ | refine blk_drew ?_ | refine blk_alloc ?_ _)); exact BK132.out) hg (Kd.R_ne HO135.out BK132.out (by decide))); have n4_ := Aside0.mk (hb); have n5_ := Aside0.mk (Kept.of_grown (S := (fun k_ => P0_0_ k_ ∨ P0_1_ k_)) hg (by repeat (first | (with_reducible first | exact HK.out | apply Kept.alloc | apply Kept.drewN | apply Kept.drew | refine Kept.setCell ?_ (.inr GW131.out) _ | refine Kept.setCell ?_ (.inr GW132.out) _) | exact HK.out)) (fun k_ e_ => (HO135.out.1 k_ e_).1.1)); have n6_ := Aside0.mk (ho); clear HO_132000; clear HO_132001; clear BK131; clear BK132; clear HB; clear HK; clear HO135; have HO_132000 := n0_; have HO_132001 := n1_; have BK131 := n2_; have BK132 := n3_; have HB := n4_; have HK := n5_; have HO138 := n6_; clear n0_ n1_ n2_ n3_ n4_ n5_ n6_; clear ho hb hg hat) | ((with_reducible refine gate_callee (f := 31) rfl ?_); refine goesL_ (some 32) rfl rfl Try.func31 (by kernel_rfl) rfl #[.string a2] rfl (by (try simp only [List.map_toArray, List.map_cons, List.map_nil]); first | done | rfl | (simp only [List.length_drop, List.length_take]; rfl)) ?_; (with_reducible refine (snapferryref03_fill.calls kj11 a2 t139 _ A31.out).mono ?_); rintro e w' ⟨rfl, ⟨nd, rfl⟩⟩; refine ⟨_, rfl, ?_⟩; (try (rw [drewN_self w39]; generalize hq_ : World.drewN w39 _ = w39; have n0_ : Aside0 (Kd.R k75 75 w39 w0.heap.size (fun k_ => ((P0_0_ k_ ∨ P0_1_ k_) ∨ w.heap.size ≤ k_) ∧ some k_ ≠ (.slice Ao14 l0_1.length co14 : Value).ownBlock) v137 y136) := ⟨by rw [← hq_]; exact (by (with_reducible repeat (first | apply Kd.R_alloc | apply Kd.R_drewN | apply Kd.R_drew)); exact HO138.out)⟩; have n1_ : Aside0 (Kd.R Kd.string 9 w39 w0.heap.size (fun k_ => ((P0_0_ k_ ∨ P0_1_ k_) ∨ w.heap.size ≤ k_)) (.slice Ao13 l0_0.length co13) l0_0) := ⟨by rw [← hq_]; exact (by (with_reducible repeat (first | apply Kd.R_alloc | apply Kd.R_drewN | apply Kd.R_drew)); exact HO_132000.out)⟩; have n2_ : Aside0 (Kd.R k75 75 w39 w0.heap.size (fun k_ => ((P0_0_ k_ ∨ P0_1_ k_) ∨ w.heap.size ≤ k_) ∧ some k_ ≠ (v137 : Value).ownBlock) (.slice Ao14 l0_1.length co14) l0_1) := ⟨by rw [← hq_]; exact (by (with_reducible repeat (first | apply Kd.R_alloc | apply Kd.R_drewN | apply Kd.R_drew)); exact HO_132001.out)⟩; have n3_ : Aside0 (w39.heap[gb131]? = some (.cells #[.slice Ao13 l0_0.length co13, .slice Ao14 l0_1.length co14, .int .i64 a0_2, .int .u64 a0_3, .int .i64 a0_4, .bool false] 49 (0, 0))) := ⟨by rw [← hq_]; exact (by (with_reducible repeat (first | refine blk_drewN ?_ _ | refine blk_drew ?_ | refine blk_alloc ?_ _)); exact BK131.out)⟩; have n4_ : Aside0 (w39.heap[gb132]? = some (.cells #[.slice none 0 0, .slice none 0 0, .int .i64 0, .int .u64 0, .int .i64 0, .bool false] 49 (0, 0))) := ⟨by rw [← hq_]; exact (by (with_reducible repeat (first | refine blk_drewN ?_ _ | refine blk_drew ?_ | refine blk_alloc ?_ _)); exact BK132.out)⟩; have n5_ : Aside0 (Kept w w39 (fun k_ => P0_0_ k_ ∨ P0_1_ k_)) := ⟨by rw [← hq_]; exact (by repeat (first | (with_reducible first | exact HK.out | apply Kept.alloc | apply Kept.drewN | apply Kept.drew | refine Kept.setCell ?_ (.inr GW131.out) _ | refine Kept.setCell ?_ (.inr GW132.out) _) | exact HK.out))⟩; have n6_ : Aside0 (Below w0.heap.size w0 w39) := ⟨by rw [← hq_]; exact (by repeat (first | (with_reducible first | exact HB.out | apply below_alloc | apply pw_below_drewN | apply below_drew1 | refine below_set ?_ GE131.out | refine below_set ?_ GE132.out) | exact HB.out))⟩; clear HO138 HO_132000 HO_132001 BK131 BK132 HK HB hq_; have HO138 := n0_; have HO_132000 := n1_; have HO_132001 := n2_; have BK131 := n3_; have BK132 := n4_; have HK := n5_; have HB := n6_; clear n0_ n1_ n2_ n3_ n4_ n5_ n6_))) | ((with_reducible refine gate_builtin (b := .append) (xs := #[.tmp 29, .tmp 34]) rfl ?_); (try (refine gate_guard (by rfl) ?_; dsimp only)); at_builtin; refine Kd.R_append k75 (w0 := w0) w0.heap.size rfl (.tmp 29) (.tmp 34) 47 75 (.agg #[(.int .i64 0), (.string ⟨#[]⟩)]) 24 rfl Try.underlying47 info75 rfl (by decide) (by omega) v137 y136 (⟨a1, t139⟩ : S75) [.int .i64 a1, .string t139] (fun k_ => ((P0_0_ k_ ∨ P0_1_ k_) ∨ w.heap.size ≤ k_) ∧ some k_ ≠ (.slice Ao14 l0_1.length co14 : Value).ownBlock) (fun _ => False) rfl rfl ?aP (fun _ hk => hk.elim) ?aF ?aO ?aB ?aS ?aL ?_; (case aP => exact k75_mkM _ _ _ (⟨a1, t139⟩ : S75)); (case aB => exact (by repeat (first | (with_reducible first | exact HB.out | apply below_alloc | apply pw_below_drewN | apply below_drew1 | refine below_set ?_ GE131.out | refine below_set ?_ GE132.out) | exact HB.out))); (case aF => exact (fun k_ hk => ⟨(.inr (Nat.le_trans (by first | exact HK.out.1 | exact (show Kept w _ (fun k_ => P0_0_ k_ ∨ P0_1_ k_) from by repeat (first | (with_reducible first | exact HK.out | apply Kept.alloc | apply Kept.drewN | apply Kept.drew | refine Kept.setCell ?_ (.inr GW131.out) _ | refine Kept.setCell ?_ (.inr GW132.out) _) | exact HK.out)).1) hk)), Kd.fresh' (Kd.R_lt (by (with_reducible repeat (first | apply Kd.R_alloc | apply Kd.R_drewN | apply Kd.R_drew)); exact HO_132001.out)) k_ hk⟩)); (case aO => exact (by (with_reducible repeat (first | apply Kd.R_alloc | apply Kd.R_drewN | apply Kd.R_drew)); exact HO138.out)); (case aS => exact (below_size (by repeat (first | (with_reducible first | exact HB.out | apply below_alloc | apply pw_below_drewN | apply below_drew1 | refine below_set ?_ GE131.out | refine below_set ?_ GE132.out) | exact HB.out)))); (case aL => have := LMc32.out; omega); intro v141 w40 ho hb hg hat; rw [← Ny140.out] at ho; have n0_ := Aside0.mk (Kd.R_over' (by (with_reducible repeat (first | apply Kd.R_alloc | apply Kd.R_drewN | apply Kd.R_drew)); exact HO_132000.out) (Kd.R_typed (by (with_reducible repeat (first | apply Kd.R_alloc | apply Kd.R_drewN | apply Kd.R_drew)); exact HO138.out)) (by decide) hg); have n1_ := Aside0.mk (Kd.R_after (ok := (fun k_ => ((P0_0_ k_ ∨ P0_1_ k_) ∨ w.heap.size ≤ k_))) (by (with_reducible repeat (first | apply Kd.R_alloc | apply Kd.R_drewN | apply Kd.R_drew)); exact HO_132001.out) hg hat); have n2_ := Aside0.mk (blk_grown (g := gb131) (o := .cells #[.slice Ao13 l0_0.length co13, .slice Ao14 l0_1.length co14, .int .i64 a0_2, .int .u64 a0_3, .int .i64 a0_4, .bool false] 49 (0, 0)) (by (with_reducible repeat (first | refine blk_drewN ?_ _ | refine blk_drew ?_ | refine blk_alloc ?_ _)); exact BK131.out) hg (Kd.R_ne HO138.out BK131.out (by decide))); have n3_ := Aside0.mk (blk_grown (g := gb132) (o := .cells #[.slice none 0 0, .slice none 0 0, .int .i64 0, .int .u64 0, .int .i64 0, .bool false] 49 (0, 0)) (by (with_reducible repeat (first | refine blk_drewN ?_ _ | refine blk_drew ?_ | refine blk_alloc ?_ _)); exact BK132.out) hg (Kd.R_ne HO138.out BK132.out (by decide))); have n4_ := Aside0.mk (hb); have n5_ := Aside0.mk (Kept.of_grown (S := (fun k_ => P0_0_ k_ ∨ P0_1_ k_)) hg (by repeat (first | (with_reducible first | exact HK.out | apply Kept.alloc | apply Kept.drewN | apply Kept.drew | refine Kept.setCell ?_ (.inr GW131.out) _ | refine Kept.setCell ?_ (.inr GW132.out) _) | exact HK.out)) (fun k_ e_ => (HO138.out.1 k_ e_).1)); have n6_ := Aside0.mk (ho); clear HO_132000; clear HO_132001; clear BK131; clear BK132; clear HB; clear HK; clear HO138; have HO_132000 := n0_; have HO_132001 := n1_; have BK131 := n2_; have BK132 := n3_; have HB := n4_; have HK := n5_; have HO142 := n6_; clear n0_ n1_ n2_ n3_ n4_ n5_ n6_; clear ho hb hg hat; obtain ⟨Ao41, co41, eo41⟩ := Kd.R_slice HO142.out; subst eo41; have hcz42_0 : w40.cell? ⟨gb131, 0, none⟩ = some (.slice Ao13 l0_0.length co13) := (blk_cell BK131.out 0).trans rfl; have hcz42_1 : w40.cell? ⟨gb131, 1, none⟩ = some (.slice Ao14 l0_1.length co14) := (blk_cell BK131.out 1).trans rfl; have hcz42_2 : w40.cell? ⟨gb131, 2, none⟩ = some (.int .i64 a0_2) := (blk_cell BK131.out 2).trans rfl; have hcz42_3 : w40.cell? ⟨gb131, 3, none⟩ = some (.int .u64 a0_3) := (blk_cell BK131.out 3).trans rfl; have hcz42_4 : w40.cell? ⟨gb131, 4, none⟩ = some (.int .i64 a0_4) := (blk_cell BK131.out 4).trans rfl; have hcz42_5 : w40.cell? ⟨gb131, 5, none⟩ = some (.bool false) := (blk_cell BK131.out 5).trans rfl; have hfz42_0 := blk_frozen BK131.out 0; have hfz42_1 := blk_frozen BK131.out 1; have hfz42_2 := blk_frozen BK131.out 2; have hfz42_3 := blk_frozen BK131.out 3; have hfz42_4 := blk_frozen BK131.out 4; have hfz42_5 := blk_frozen BK131.out 5) | ((with_reducible refine gate_store (t := 47) (p := 36) rfl ?_); refine store_event (t := 47) (p := 36) (v := ?vo_w43) (w1 := (w40.setCell ⟨gb131, 1, none⟩ (.slice Ao41 y140.length co41))) ?hg ?ho ?hn ?hr ?_; (case ho => rfl); (case hg => rfl); (case hn => rfl); (case hr => first | (go_simp; done) | (go_simp; rfl)); intro w43 hw; have n0_ : Aside0 (Kd.R Kd.string 9 w43 w0.heap.size (fun k_ => ((P0_0_ k_ ∨ P0_1_ k_) ∨ w.heap.size ≤ k_)) (.slice Ao13 l0_0.length co13) l0_0) := ⟨(by rw [hw]; exact (by (with_reducible repeat (first | apply Kd.R_alloc | apply Kd.R_drewN | apply Kd.R_drew)); exact Kd.R_mono (Kd.R_far (p := ⟨gb131, 1, none⟩) (Kd.R_types HO_132000.out BK131.out (by decide)) (fun _ hk => hk.2) (.slice Ao41 y140.length co41)) (fun _ hk => hk.1)))⟩; have n1_ : Aside0 (Kd.R k75 75 w43 w0.heap.size (fun k_ => ((P0_0_ k_ ∨ P0_1_ k_) ∨ w.heap.size ≤ k_) ∧ some k_ ≠ (.slice Ao41 y140.length co41 : Value).ownBlock) (.slice Ao14 l0_1.length co14) l0_1) := ⟨(by rw [hw]; exact (by (with_reducible repeat (first | apply Kd.R_alloc | apply Kd.R_drewN | apply Kd.R_drew)); exact Kd.R_mono (Kd.R_far (p := ⟨gb131, 1, none⟩) (Kd.R_types HO_132001.out BK131.out (by decide)) (fun _ hk => hk.2) (.slice Ao41 y140.length co41)) (fun _ hk => ⟨hk.1.1, hk.1.2⟩)))⟩; have n2_ : Aside0 (Kd.R k75 75 w43 w0.heap.size (fun k_ => ((P0_0_ k_ ∨ P0_1_ k_) ∨ w.heap.size ≤ k_) ∧ some k_ ≠ (.slice Ao14 l0_1.length co14 : Value).ownBlock) (.slice Ao41 y140.length co41) y140) := ⟨(by rw [hw]; exact (by (with_reducible repeat (first | apply Kd.R_alloc | apply Kd.R_drewN | apply Kd.R_drew)); exact Kd.R_mono (Kd.R_far (p := ⟨gb131, 1, none⟩) (Kd.R_types HO142.out BK131.out (by decide)) (fun _ hk => hk.2) (.slice Ao41 y140.length co41)) (fun _ hk => ⟨hk.1.1, hk.1.2⟩)))⟩; have n3_ : Aside0 (w43.heap[gb131]? = some (.cells #[.slice Ao13 l0_0.length co13, .slice Ao41 y140.length co41, .int .i64 a0_2, .int .u64 a0_3, .int .i64 a0_4, .bool false] 49 (0, 0))) := ⟨(by rw [hw]; exact (by (with_reducible repeat (first | refine blk_drewN ?_ _ | refine blk_drew ?_ | refine blk_alloc ?_ _)); refine blk_put (cs := #[.slice Ao13 l0_0.length co13, .slice Ao14 l0_1.length co14, .int .i64 a0_2, .int .u64 a0_3, .int .i64 a0_4, .bool false]) ?_ 1 _ rfl; (with_reducible repeat (first | refine blk_drewN ?_ _ | refine blk_drew ?_ | refine blk_alloc ?_ _)); exact BK131.out))⟩; have n4_ : Aside0 (w43.heap[gb132]? = some (.cells #[.slice none 0 0, .slice none 0 0, .int .i64 0, .int .u64 0, .int .i64 0, .bool false] 49 (0, 0))) := ⟨(by rw [hw]; exact (by (with_reducible repeat (first | refine blk_drewN ?_ _ | refine blk_drew ?_ | refine blk_alloc ?_ _)); refine blk_far ?_ NB132_131.out _; (with_reducible repeat (first | refine blk_drewN ?_ _ | refine blk_drew ?_ | refine blk_alloc ?_ _)); exact BK132.out))⟩; have n5_ : Aside0 (Kept w w43 (fun k_ => P0_0_ k_ ∨ P0_1_ k_)) := ⟨(by rw [hw]; exact (by repeat (first | (with_reducible first | exact HK.out | apply Kept.alloc | apply Kept.drewN | apply Kept.drew | refine Kept.setCell ?_ (.inr GW131.out) _ | refine Kept.setCell ?_ (.inr GW132.out) _) | exact HK.out)))⟩; have n6_ : Aside0 (Below w0.heap.size w0 w43) := ⟨(by rw [hw]; exact (by repeat (first | (with_reducible first | exact HB.out | apply below_alloc | apply pw_below_drewN | apply below_drew1 | refine below_set ?_ GE131.out | refine below_set ?_ GE132.out) | exact HB.out)))⟩; clear hw; clear HO_132000; clear HO_132001; clear HO142; clear BK131; clear BK132; clear HK; clear HB; have HO_132000 := n0_; have HO_132001 := n1_; have HO142 := n2_; have BK131 := n3_; have BK132 := n4_; have HK := n5_; have HB := n6_; clear n0_ n1_ n2_ n3_ n4_ n5_ n6_; have hcz44_0 : w43.cell? ⟨gb131, 0, none⟩ = some (.slice Ao13 l0_0.length co13) := (blk_cell BK131.out 0).trans rfl; have hcz44_1 : w43.cell? ⟨gb131, 1, none⟩ = some (.slice Ao41 y140.length co41) := (blk_cell BK131.out 1).trans rfl; have hcz44_2 : w43.cell? ⟨gb131, 2, none⟩ = some (.int .i64 a0_2) := (blk_cell BK131.out 2).trans rfl; have hcz44_3 : w43.cell? ⟨gb131, 3, none⟩ = some (.int .u64 a0_3) := (blk_cell BK131.out 3).trans rfl; have hcz44_4 : w43.cell? ⟨gb131, 4, none⟩ = some (.int .i64 a0_4) := (blk_cell BK131.out 4).trans rfl; have hcz44_5 : w43.cell? ⟨gb131, 5, none⟩ = some (.bool false) := (blk_cell BK131.out 5).trans rfl; have hfz44_0 := blk_frozen BK131.out 0; have hfz44_1 := blk_frozen BK131.out 1; have hfz44_2 := blk_frozen BK131.out 2; have hfz44_3 := blk_frozen BK131.out 3; have hfz44_4 := blk_frozen BK131.out 4; have hfz44_5 := blk_frozen BK131.out 5) | ((with_reducible refine gate_callee (f := 32) rfl ?_); refine goesL_ (some 39) rfl rfl Try.func32 (by kernel_rfl) rfl #[.agg #[.slice Ao13 l0_0.length co13, .slice Ao41 y140.length co41, .int .i64 a0_2, .int .u64 a0_3, .int .i64 a0_4, .bool false]] rfl (by (try simp only [List.map_toArray, List.map_cons, List.map_nil]); first | done | rfl | (simp only [List.length_drop, List.length_take]; rfl)) ?_; (with_reducible refine (snapferryref03_counted.calls kj11 (fun k_ => some k_ = (.slice Ao13 l0_0.length co13 : Value).ownBlock) (.slice Ao13 l0_0.length co13) l0_0 (fun k_ => some k_ = (.slice Ao41 y140.length co41 : Value).ownBlock) (.slice Ao41 y140.length co41) y140 a0_2 a0_3 a0_4 false t143 t146 t149 t150 t151 t152 true w0 _ ?side1 ?side2 ?side3 A33.out).mono ?_); (case side1 => repeat (first | (with_reducible first | exact HB.out | apply below_alloc | apply pw_below_drewN | apply below_drew1 | refine below_set ?_ GE131.out | refine below_set ?_ GE132.out) | exact HB.out)); (case side2 => exact Kd.R_tight rfl HO_132000.out); (case side3 => exact Kd.R_tight rfl HO142.out); rintro e w45 ⟨v144, v147, rfl, ho0, ho1, hb, hkp⟩; refine ⟨_, rfl, ?_⟩; have n0_ := Aside0.mk (Kd.R_mono (ok' := fun k_ => ((P0_0_ k_ ∨ P0_1_ k_) ∨ w.heap.size ≤ k_) ∧ some k_ ≠ (v147 : Value).ownBlock) (Kd.R_keptB ((Kd.R_apart' HO_132001.out (Kd.R_typed HO_132000.out) (by decide))) hkp (fun k_ hk_ hs_ => Or.elim hs_ (fun e_ => (hk_.2) e_) (fun e_ => (hk_.1.2) e_))) (fun k_ hk_ => ⟨hk_.1.1.1, fun e_ => Or.elim (ho1.1 k_ e_.symm) (fun hs_ => hk_.2.1 hs_) (fun hn_ => Nat.not_le.2 hk_.2.2 hn_)⟩)); have n1_ := Aside0.mk (blk_kept (by (with_reducible repeat (first | refine blk_drewN ?_ _ | refine blk_drew ?_ | refine blk_alloc ?_ _)); exact BK131.out) hkp (fun hs_ => Or.elim hs_ (fun e_ => (fun e_ => (Kd.R_ne HO_132000.out BK131.out (by decide)) e_) e_) (fun e_ => (fun e_ => (Kd.R_ne HO142.out BK131.out (by decide)) e_) e_))); have n2_ := Aside0.mk (blk_kept (by (with_reducible repeat (first | refine blk_drewN ?_ _ | refine blk_drew ?_ | refine blk_alloc ?_ _)); exact BK132.out) hkp (fun hs_ => Or.elim hs_ (fun e_ => (fun e_ => (Kd.R_ne HO_132000.out BK132.out (by decide)) e_) e_) (fun e_ => (fun e_ => (Kd.R_ne HO142.out BK132.out (by decide)) e_) e_))); have n3_ := Aside0.mk (Kd.R_mono (ok' := fun k_ => ((P0_0_ k_ ∨ P0_1_ k_) ∨ w.heap.size ≤ k_)) ho0 (fun k_ hk_ => Or.elim hk_ (fun hs_ => Or.elim hs_ (fun hs_ => (HO_132000.out.1 k_ (hs_).symm)) (fun hs_ => (HO142.out.1 k_ (hs_).symm).1)) (fun hn_ => (.inr (Nat.le_trans (by first | exact HK.out.1 | exact (show Kept w _ (fun k_ => P0_0_ k_ ∨ P0_1_ k_) from by repeat (first | (with_reducible first | exact HK.out | apply Kept.alloc | apply Kept.drewN | apply Kept.drew | refine Kept.setCell ?_ (.inr GW131.out) _ | refine Kept.setCell ?_ (.inr GW132.out) _) | exact HK.out)).1) hn_))))); have n4_ := Aside0.mk (Kd.R_mono (ok' := fun k_ => ((P0_0_ k_ ∨ P0_1_ k_) ∨ w.heap.size ≤ k_) ∧ some k_ ≠ (.slice Ao14 l0_1.length co14 : Value).ownBlock) ho1 (fun k_ hk_ => ⟨Or.elim hk_ (fun hs_ => Or.elim hs_ (fun hs_ => (HO_132000.out.1 k_ (hs_).symm)) (fun hs_ => (HO142.out.1 k_ (hs_).symm).1)) (fun hn_ => (.inr (Nat.le_trans (by first | exact HK.out.1 | exact (show Kept w _ (fun k_ => P0_0_ k_ ∨ P0_1_ k_) from by repeat (first | (with_reducible first | exact HK.out | apply Kept.alloc | apply Kept.drewN | apply Kept.drew | refine Kept.setCell ?_ (.inr GW131.out) _ | refine Kept.setCell ?_ (.inr GW132.out) _) | exact HK.out)).1) hn_))), Or.elim hk_ (fun hs_ => Or.elim hs_ (fun hs_ => fun e_ => ((((Kd.R_apart' HO_132001.out (Kd.R_typed HO_132000.out) (by decide))).1 k_ e_.symm).2) hs_) (fun hs_ => fun e_ => ((((Kd.R_apart' HO_132001.out (Kd.R_typed HO_132000.out) (by decide))).1 k_ e_.symm).1.2) hs_)) (fun hn_ => (Kd.fresh' (Kd.R_lt (by (with_reducible repeat (first | apply Kd.R_alloc | apply Kd.R_drewN | apply Kd.R_drew)); exact HO_132001.out)) k_ hn_))⟩)); have n5_ := Aside0.mk (Kept.then_ (S := (fun k_ => P0_0_ k_ ∨ P0_1_ k_)) (by repeat (first | (with_reducible first | exact HK.out | apply Kept.alloc | apply Kept.drewN | apply Kept.drew | refine Kept.setCell ?_ (.inr GW131.out) _ | refine Kept.setCell ?_ (.inr GW132.out) _) | exact HK.out)) hkp (fun k_ hs_ => Or.elim hs_ (fun e_ => (fun e_ => (HO_132000.out.1 k_ e_.symm)) e_) (fun e_ => (fun e_ => (HO142.out.1 k_ e_.symm).1) e_))); have n6_ := Aside0.mk (hb); clear HO_132001; clear BK131; clear BK132; clear HK; clear HB; clear HO142; clear HO_132000; have HO_132001 := n0_; have BK131 := n1_; have BK132 := n2_; have HO145 := n3_; have HO148 := n4_; have HK := n5_; have HB := n6_; clear n0_ n1_ n2_ n3_ n4_ n5_ n6_; (try clear hb); (try clear hkp); (try clear ho0); (try clear ho1); obtain ⟨Ao46, co46, eo46⟩ := Kd.R_slice HO145.out; subst eo46; have hcz47_0 : w45.cell? ⟨gb131, 0, none⟩ = some (.slice Ao13 l0_0.length co13) := (blk_cell BK131.out 0).trans rfl; have hcz47_1 : w45.cell? ⟨gb131, 1, none⟩ = some (.slice Ao41 y140.length co41) := (blk_cell BK131.out 1).trans rfl; have hcz47_2 : w45.cell? ⟨gb131, 2, none⟩ = some (.int .i64 a0_2) := (blk_cell BK131.out 2).trans rfl; have hcz47_3 : w45.cell? ⟨gb131, 3, none⟩ = some (.int .u64 a0_3) := (blk_cell BK131.out 3).trans rfl; have hcz47_4 : w45.cell? ⟨gb131, 4, none⟩ = some (.int .i64 a0_4) := (blk_cell BK131.out 4).trans rfl; have hcz47_5 : w45.cell? ⟨gb131, 5, none⟩ = some (.bool false) := (blk_cell BK131.out 5).trans rfl; have hfz47_0 := blk_frozen BK131.out 0; have hfz47_1 := blk_frozen BK131.out 1; have hfz47_2 := blk_frozen BK131.out 2; have hfz47_3 := blk_frozen BK131.out 3; have hfz47_4 := blk_frozen BK131.out 4; have hfz47_5 := blk_frozen BK131.out 5; obtain ⟨Ao48, co48, eo48⟩ := Kd.R_slice HO148.out; subst eo48; have hcz49_0 : w45.cell? ⟨gb132, 0, none⟩ = some (.slice none 0 0) := (blk_cell BK132.out 0).trans rfl; have hcz49_1 : w45.cell? ⟨gb132, 1, none⟩ = some (.slice none 0 0) := (blk_cell BK132.out 1).trans rfl; have hcz49_2 : w45.cell? ⟨gb132, 2, none⟩ = some (.int .i64 0) := (blk_cell BK132.out 2).trans rfl; have hcz49_3 : w45.cell? ⟨gb132, 3, none⟩ = some (.int .u64 0) := (blk_cell BK132.out 3).trans rfl; have hcz49_4 : w45.cell? ⟨gb132, 4, none⟩ = some (.int .i64 0) := (blk_cell BK132.out 4).trans rfl; have hcz49_5 : w45.cell? ⟨gb132, 5, none⟩ = some (.bool false) := (blk_cell BK132.out 5).trans rfl; have hfz49_0 := blk_frozen BK132.out 0; have hfz49_1 := blk_frozen BK132.out 1; have hfz49_2 := blk_frozen BK132.out 2; have hfz49_3 := blk_frozen BK132.out 3; have hfz49_4 := blk_frozen BK132.out 4; have hfz49_5 := blk_frozen BK132.out 5))
                  refine bodyPost_ret (results_ct rfl _ _ gb132 49 #[.slice Ao46 t143.length co46, .slice Ao48 t146.length co48, .int .i64 t149, .int .u64 t150, .int .i64 t151, .bool t152] (0, 0) _ rfl (by (with_reducible repeat (first | refine blk_drewN ?_ _ | refine blk_drew ?_ | refine blk_alloc ?_ _)); refine blk_put (cs := #[.slice Ao46 t143.length co46, .slice Ao48 t146.length co48, .int .i64 t149, .int .u64 t150, .int .i64 t151, .bool false]) ?_ 5 _ rfl; (with_reducible repeat (first | refine blk_drewN ?_ _ | refine blk_drew ?_ | refine blk_alloc ?_ _)); refine blk_put (cs := #[.slice Ao46 t143.length co46, .slice Ao48 t146.length co48, .int .i64 t149, .int .u64 t150, .int .i64 0, .bool false]) ?_ 4 _ rfl; (with_reducible repeat (first | refine blk_drewN ?_ _ | refine blk_drew ?_ | refine blk_alloc ?_ _)); refine blk_put (cs := #[.slice Ao46 t143.length co46, .slice Ao48 t146.length co48, .int .i64 t149, .int .u64 0, .int .i64 0, .bool false]) ?_ 3 _ rfl; (with_reducible repeat (first | refine blk_drewN ?_ _ | refine blk_drew ?_ | refine blk_alloc ?_ _)); refine blk_put (cs := #[.slice Ao46 t143.length co46, .slice Ao48 t146.length co48, .int .i64 0, .int .u64 0, .int .i64 0, .bool false]) ?_ 2 _ rfl; (with_reducible repeat (first | refine blk_drewN ?_ _ | refine blk_drew ?_ | refine blk_alloc ?_ _)); refine blk_put (cs := #[.slice Ao46 t143.length co46, .slice none 0 0, .int .i64 0, .int .u64 0, .int .i64 0, .bool false]) ?_ 1 _ rfl; (with_reducible repeat (first | refine blk_drewN ?_ _ | refine blk_drew ?_ | refine blk_alloc ?_ _)); refine blk_put (cs := #[.slice none 0 0, .slice none 0 0, .int .i64 0, .int .u64 0, .int .i64 0, .bool false]) ?_ 0 _ rfl; (with_reducible repeat (first | refine blk_drewN ?_ _ | refine blk_drew ?_ | refine blk_alloc ?_ _)); refine blk_far ?_ NB132_131.out _; (with_reducible repeat (first | refine blk_drewN ?_ _ | refine blk_drew ?_ | refine blk_alloc ?_ _)); refine blk_far ?_ NB132_131.out _; (with_reducible repeat (first | refine blk_drewN ?_ _ | refine blk_drew ?_ | refine blk_alloc ?_ _)); refine blk_far ?_ NB132_131.out _; (with_reducible repeat (first | refine blk_drewN ?_ _ | refine blk_drew ?_ | refine blk_alloc ?_ _)); refine blk_far ?_ NB132_131.out _; (with_reducible repeat (first | refine blk_drewN ?_ _ | refine blk_drew ?_ | refine blk_alloc ?_ _)); refine blk_far ?_ NB132_131.out _; (with_reducible repeat (first | refine blk_drewN ?_ _ | refine blk_drew ?_ | refine blk_alloc ?_ _)); refine blk_far ?_ NB132_131.out _; (with_reducible repeat (first | refine blk_drewN ?_ _ | refine blk_drew ?_ | refine blk_alloc ?_ _)); exact BK132.out) Try.underlying49 rfl (by kernel_rfl)) rfl ?_
                  exact ⟨_, _, by first | rfl | (simp [errW_none, errW_some] <;> rfl) | (simp [*, errW_none, errW_some] <;> rfl), by (with_reducible repeat (first | apply Kd.R_alloc | apply Kd.R_drewN | apply Kd.R_drew)); exact Kd.R_mono (Kd.R_far (p := ⟨gb132, 5, none⟩) (Kd.R_far (p := ⟨gb132, 4, none⟩) (Kd.R_far (p := ⟨gb132, 3, none⟩) (Kd.R_far (p := ⟨gb132, 2, none⟩) (Kd.R_far (p := ⟨gb132, 1, none⟩) (Kd.R_far (p := ⟨gb132, 0, none⟩) (Kd.R_far (p := ⟨gb131, 5, none⟩) (Kd.R_far (p := ⟨gb131, 4, none⟩) (Kd.R_far (p := ⟨gb131, 3, none⟩) (Kd.R_far (p := ⟨gb131, 2, none⟩) (Kd.R_far (p := ⟨gb131, 1, none⟩) (Kd.R_far (p := ⟨gb131, 0, none⟩) (Kd.R_types (Kd.R_types HO145.out BK131.out (by decide)) BK132.out (by decide)) (fun _ hk => hk.1.2) (.slice Ao46 t143.length co46)) (fun _ hk => hk.1.2) (.slice Ao48 t146.length co48)) (fun _ hk => hk.1.2) (.int .i64 t149)) (fun _ hk => hk.1.2) (.int .u64 t150)) (fun _ hk => hk.1.2) (.int .i64 t151)) (fun _ hk => hk.1.2) (.bool t152)) (fun _ hk => hk.2) (.slice Ao46 t143.length co46)) (fun _ hk => hk.2) (.slice Ao48 t146.length co48)) (fun _ hk => hk.2) (.int .i64 t149)) (fun _ hk => hk.2) (.int .u64 t150)) (fun _ hk => hk.2) (.int .i64 t151)) (fun _ hk => hk.2) (.bool t152)) (fun _ hk => hk.1.1), by (with_reducible repeat (first | apply Kd.R_alloc | apply Kd.R_drewN | apply Kd.R_drew)); exact Kd.R_mono (Kd.R_far (p := ⟨gb132, 5, none⟩) (Kd.R_far (p := ⟨gb132, 4, none⟩) (Kd.R_far (p := ⟨gb132, 3, none⟩) (Kd.R_far (p := ⟨gb132, 2, none⟩) (Kd.R_far (p := ⟨gb132, 1, none⟩) (Kd.R_far (p := ⟨gb132, 0, none⟩) (Kd.R_far (p := ⟨gb131, 5, none⟩) (Kd.R_far (p := ⟨gb131, 4, none⟩) (Kd.R_far (p := ⟨gb131, 3, none⟩) (Kd.R_far (p := ⟨gb131, 2, none⟩) (Kd.R_far (p := ⟨gb131, 1, none⟩) (Kd.R_far (p := ⟨gb131, 0, none⟩) (Kd.R_types (Kd.R_types HO148.out BK131.out (by decide)) BK132.out (by decide)) (fun _ hk => hk.1.2) (.slice Ao46 t143.length co46)) (fun _ hk => hk.1.2) (.slice Ao48 t146.length co48)) (fun _ hk => hk.1.2) (.int .i64 t149)) (fun _ hk => hk.1.2) (.int .u64 t150)) (fun _ hk => hk.1.2) (.int .i64 t151)) (fun _ hk => hk.1.2) (.bool t152)) (fun _ hk => hk.2) (.slice Ao46 t143.length co46)) (fun _ hk => hk.2) (.slice Ao48 t146.length co48)) (fun _ hk => hk.2) (.int .i64 t149)) (fun _ hk => hk.2) (.int .u64 t150)) (fun _ hk => hk.2) (.int .i64 t151)) (fun _ hk => hk.2) (.bool t152)) (fun _ hk => hk.1.1.1), by repeat (first | (with_reducible first | exact HB.out | apply below_alloc | apply pw_below_drewN | apply below_drew1 | refine below_set ?_ GE131.out | refine below_set ?_ GE132.out) | exact HB.out), by repeat (first | (with_reducible first | exact HK.out | apply Kept.alloc | apply Kept.drewN | apply Kept.drew | refine Kept.setCell ?_ (.inr GW131.out) _ | refine Kept.setCell ?_ (.inr GW132.out) _) | exact HK.out)⟩
                · replace c34 := Bool.eq_false_iff.mpr c34
                  subst c34
                  have H1 : (some (t143, t146, t149, t150, t151, t152, 0)) = some (r1, r2, r3, r4, r5, r6, r7) := by rw [if_neg (show ¬ (false = true) by decide)] at H; exact H
                  clear H
                  have H := H1
                  clear H1
                  simp only [Option.some.injEq, Prod.mk.injEq] at H
                  obtain ⟨rfl, rfl, rfl, rfl, rfl, rfl, rfl⟩ := H
                  go_wp2_with (first | ((with_reducible refine gate_dst (N := 26) rfl ?_); (try (refine gate_guard (by rfl) ?_; dsimp only)); refine Kd.R_lit k75 _ 75 ?hg (N := 26) ?hd (xs := ([] : List (S75))) (inner := []) (ok := fun _ => True) (okp := fun _ => True) ?hr ?hp (fun _ hk => hk) trivial (Below.refl _ _) (Nat.le_refl _) (by simp) ?_; (case hd => rfl); (case hg => rfl); (case hr => first | (go_simp; done) | (go_simp; rfl)); (case hp => exact (Reps.none _ _)); intro v134 w50 ho51 hb hg_ hnew_; clear hg_ hnew_; (first | rw [← Ny133.out] at ho51 | (simp only [Int.reduceToNat] at ho51; rw [← Ny133.out] at ho51)); have n0_ := Aside0.mk (Kd.R_below (by (with_reducible repeat (first | apply Kd.R_alloc | apply Kd.R_drewN | apply Kd.R_drew)); exact HO_132000.out) hb); have n1_ := Aside0.mk (Kd.R_elder' (by (with_reducible repeat (first | apply Kd.R_alloc | apply Kd.R_drewN | apply Kd.R_drew)); exact HO_132001.out) (Kd.R_base ho51) hb); have n2_ := Aside0.mk (Kd.R_lower (Kd.R_new' (Kd.R_newM (M := fun k_ => ((P0_0_ k_ ∨ P0_1_ k_) ∨ w.heap.size ≤ k_)) ho51 (by first | exact HK.out.1 | exact (show Kept w _ (fun k_ => P0_0_ k_ ∨ P0_1_ k_) from by repeat (first | (with_reducible first | exact HK.out | apply Kept.alloc | apply Kept.drewN | apply Kept.drew | refine Kept.setCell ?_ (.inr GW131.out) _ | refine Kept.setCell ?_ (.inr GW132.out) _) | exact HK.out)).1) (fun k_ h_ => .inr h_)) (Kd.R_lt (by (with_reducible repeat (first | apply Kd.R_alloc | apply Kd.R_drewN | apply Kd.R_drew)); exact HO_132001.out))) (below_size (by repeat (first | (with_reducible first | exact HB.out | apply below_alloc | apply pw_below_drewN | apply below_drew1 | refine below_set ?_ GE131.out | refine below_set ?_ GE132.out) | exact HB.out)))); have n3_ := Aside0.mk (blk_below (g := gb131) (o := .cells #[.slice Ao13 l0_0.length co13, .slice Ao14 l0_1.length co14, .int .i64 a0_2, .int .u64 a0_3, .int .i64 a0_4, .bool false] 49 (0, 0)) (by (with_reducible repeat (first | refine blk_drewN ?_ _ | refine blk_drew ?_ | refine blk_alloc ?_ _)); exact BK131.out) hb); have n4_ := Aside0.mk (blk_below (g := gb132) (o := .cells #[.slice none 0 0, .slice none 0 0, .int .i64 0, .int .u64 0, .int .i64 0, .bool false] 49 (0, 0)) (by (with_reducible repeat (first | refine blk_drewN ?_ _ | refine blk_drew ?_ | refine blk_alloc ?_ _)); exact BK132.out) hb); have n5_ := Aside0.mk (Kept.below (S := (fun k_ => P0_0_ k_ ∨ P0_1_ k_)) (by repeat (first | (with_reducible first | exact HK.out | apply Kept.alloc | apply Kept.drewN | apply Kept.drew | refine Kept.setCell ?_ (.inr GW131.out) _ | refine Kept.setCell ?_ (.inr GW132.out) _) | exact HK.out)) hb); have n6_ := Aside0.mk (below_step (by repeat (first | (with_reducible first | exact HB.out | apply below_alloc | apply pw_below_drewN | apply below_drew1 | refine below_set ?_ GE131.out | refine below_set ?_ GE132.out) | exact HB.out)) hb); clear HO_132000; clear HO_132001; clear BK131; clear BK132; clear HK; clear HB; have HO_132000 := n0_; have HO_132001 := n1_; have HO135 := n2_; have BK131 := n3_; have BK132 := n4_; have HK := n5_; have HB := n6_; clear n0_ n1_ n2_ n3_ n4_ n5_ n6_; clear hb ho51; have hnb52 := NB131_132.out; have hnc52 := NB132_131.out; have hcz53_0 : w50.cell? ⟨gb131, 0, none⟩ = some (.slice Ao13 l0_0.length co13) := (blk_cell BK131.out 0).trans rfl; have hcz53_1 : w50.cell? ⟨gb131, 1, none⟩ = some (.slice Ao14 l0_1.length co14) := (blk_cell BK131.out 1).trans rfl; have hcz53_2 : w50.cell? ⟨gb131, 2, none⟩ = some (.int .i64 a0_2) := (blk_cell BK131.out 2).trans rfl; have hcz53_3 : w50.cell? ⟨gb131, 3, none⟩ = some (.int .u64 a0_3) := (blk_cell BK131.out 3).trans rfl; have hcz53_4 : w50.cell? ⟨gb131, 4, none⟩ = some (.int .i64 a0_4) := (blk_cell BK131.out 4).trans rfl; have hcz53_5 : w50.cell? ⟨gb131, 5, none⟩ = some (.bool false) := (blk_cell BK131.out 5).trans rfl; have hfz53_0 := blk_frozen BK131.out 0; have hfz53_1 := blk_frozen BK131.out 1; have hfz53_2 := blk_frozen BK131.out 2; have hfz53_3 := blk_frozen BK131.out 3; have hfz53_4 := blk_frozen BK131.out 4; have hfz53_5 := blk_frozen BK131.out 5) | ((with_reducible refine gate_builtin (b := .append) (xs := #[.tmp 26, .tmp 28]) rfl ?_); (try (refine gate_guard (by rfl) ?_; dsimp only)); at_builtin; refine Kd.R_append_rows k75 (w0 := w0) w0.heap.size rfl (.tmp 26) (.tmp 28) 47 75 (.agg #[(.int .i64 0), (.string ⟨#[]⟩)]) 24 rfl Try.underlying47 info75 rfl (by decide) (by omega) v134 y133 l0_1 _ _ _ (fun k_ => ((P0_0_ k_ ∨ P0_1_ k_) ∨ w.heap.size ≤ k_) ∧ some k_ ≠ (.slice Ao14 l0_1.length co14 : Value).ownBlock) (fun _ => False) rfl rfl ?aO ?aR (fun _ _ h => h) (fun _ h => h.elim) ?aF ?aB ?aS ?aL ?_; (case aR => repeat (first | exact (Kd.R_reads' HO_132001.out).2.2 | (with_reducible refine Kd.C_alloc ?_ _) | (with_reducible refine Kd.C_drewN ?_ _) | (with_reducible refine Kd.C_drew ?_))); (case aB => exact (by repeat (first | (with_reducible first | exact HB.out | apply below_alloc | apply pw_below_drewN | apply below_drew1 | refine below_set ?_ GE131.out | refine below_set ?_ GE132.out) | exact HB.out))); (case aF => exact (fun k_ hk => ⟨(.inr (Nat.le_trans (by first | exact HK.out.1 | exact (show Kept w _ (fun k_ => P0_0_ k_ ∨ P0_1_ k_) from by repeat (first | (with_reducible first | exact HK.out | apply Kept.alloc | apply Kept.drewN | apply Kept.drew | refine Kept.setCell ?_ (.inr GW131.out) _ | refine Kept.setCell ?_ (.inr GW132.out) _) | exact HK.out)).1) hk)), Kd.fresh' (Kd.R_lt (by (with_reducible repeat (first | apply Kd.R_alloc | apply Kd.R_drewN | apply Kd.R_drew)); exact HO_132001.out)) k_ hk⟩)); (case aO => exact (by (with_reducible repeat (first | apply Kd.R_alloc | apply Kd.R_drewN | apply Kd.R_drew)); exact Kd.R_mono HO135.out (fun _ hk => ⟨hk.1.1, hk.2⟩))); (case aS => exact (below_size (by repeat (first | (with_reducible first | exact HB.out | apply below_alloc | apply pw_below_drewN | apply below_drew1 | refine below_set ?_ GE131.out | refine below_set ?_ GE132.out) | exact HB.out)))); (case aL => have := LMc30.out; omega); intro v137 w54 ho hb hg hat; rw [← Ny136.out] at ho; have n0_ := Aside0.mk (Kd.R_over' (by (with_reducible repeat (first | apply Kd.R_alloc | apply Kd.R_drewN | apply Kd.R_drew)); exact HO_132000.out) (Kd.R_typed (by (with_reducible repeat (first | apply Kd.R_alloc | apply Kd.R_drewN | apply Kd.R_drew)); exact HO135.out)) (by decide) hg); have n1_ := Aside0.mk (Kd.R_after (ok := (fun k_ => ((P0_0_ k_ ∨ P0_1_ k_) ∨ w.heap.size ≤ k_))) (by (with_reducible repeat (first | apply Kd.R_alloc | apply Kd.R_drewN | apply Kd.R_drew)); exact HO_132001.out) hg hat); have n2_ := Aside0.mk (blk_grown (g := gb131) (o := .cells #[.slice Ao13 l0_0.length co13, .slice Ao14 l0_1.length co14, .int .i64 a0_2, .int .u64 a0_3, .int .i64 a0_4, .bool false] 49 (0, 0)) (by (with_reducible repeat (first | refine blk_drewN ?_ _ | refine blk_drew ?_ | refine blk_alloc ?_ _)); exact BK131.out) hg (Kd.R_ne HO135.out BK131.out (by decide))); have n3_ := Aside0.mk (blk_grown (g := gb132) (o := .cells #[.slice none 0 0, .slice none 0 0, .int .i64 0, .int .u64 0, .int .i64 0, .bool false] 49 (0, 0)) (by (with_reducible repeat (first | refine blk_drewN ?_ _ | refine blk_drew ?_ | refine blk_alloc ?_ _)); exact BK132.out) hg (Kd.R_ne HO135.out BK132.out (by decide))); have n4_ := Aside0.mk (hb); have n5_ := Aside0.mk (Kept.of_grown (S := (fun k_ => P0_0_ k_ ∨ P0_1_ k_)) hg (by repeat (first | (with_reducible first | exact HK.out | apply Kept.alloc | apply Kept.drewN | apply Kept.drew | refine Kept.setCell ?_ (.inr GW131.out) _ | refine Kept.setCell ?_ (.inr GW132.out) _) | exact HK.out)) (fun k_ e_ => (HO135.out.1 k_ e_).1.1)); have n6_ := Aside0.mk (ho); clear HO_132000; clear HO_132001; clear BK131; clear BK132; clear HB; clear HK; clear HO135; have HO_132000 := n0_; have HO_132001 := n1_; have BK131 := n2_; have BK132 := n3_; have HB := n4_; have HK := n5_; have HO138 := n6_; clear n0_ n1_ n2_ n3_ n4_ n5_ n6_; clear ho hb hg hat) | ((with_reducible refine gate_callee (f := 31) rfl ?_); refine goesL_ (some 32) rfl rfl Try.func31 (by kernel_rfl) rfl #[.string a2] rfl (by (try simp only [List.map_toArray, List.map_cons, List.map_nil]); first | done | rfl | (simp only [List.length_drop, List.length_take]; rfl)) ?_; (with_reducible refine (snapferryref03_fill.calls kj11 a2 t139 _ A31.out).mono ?_); rintro e w' ⟨rfl, ⟨nd, rfl⟩⟩; refine ⟨_, rfl, ?_⟩; (try (rw [drewN_self w54]; generalize hq_ : World.drewN w54 _ = w54; have n0_ : Aside0 (Kd.R k75 75 w54 w0.heap.size (fun k_ => ((P0_0_ k_ ∨ P0_1_ k_) ∨ w.heap.size ≤ k_) ∧ some k_ ≠ (.slice Ao14 l0_1.length co14 : Value).ownBlock) v137 y136) := ⟨by rw [← hq_]; exact (by (with_reducible repeat (first | apply Kd.R_alloc | apply Kd.R_drewN | apply Kd.R_drew)); exact HO138.out)⟩; have n1_ : Aside0 (Kd.R Kd.string 9 w54 w0.heap.size (fun k_ => ((P0_0_ k_ ∨ P0_1_ k_) ∨ w.heap.size ≤ k_)) (.slice Ao13 l0_0.length co13) l0_0) := ⟨by rw [← hq_]; exact (by (with_reducible repeat (first | apply Kd.R_alloc | apply Kd.R_drewN | apply Kd.R_drew)); exact HO_132000.out)⟩; have n2_ : Aside0 (Kd.R k75 75 w54 w0.heap.size (fun k_ => ((P0_0_ k_ ∨ P0_1_ k_) ∨ w.heap.size ≤ k_) ∧ some k_ ≠ (v137 : Value).ownBlock) (.slice Ao14 l0_1.length co14) l0_1) := ⟨by rw [← hq_]; exact (by (with_reducible repeat (first | apply Kd.R_alloc | apply Kd.R_drewN | apply Kd.R_drew)); exact HO_132001.out)⟩; have n3_ : Aside0 (w54.heap[gb131]? = some (.cells #[.slice Ao13 l0_0.length co13, .slice Ao14 l0_1.length co14, .int .i64 a0_2, .int .u64 a0_3, .int .i64 a0_4, .bool false] 49 (0, 0))) := ⟨by rw [← hq_]; exact (by (with_reducible repeat (first | refine blk_drewN ?_ _ | refine blk_drew ?_ | refine blk_alloc ?_ _)); exact BK131.out)⟩; have n4_ : Aside0 (w54.heap[gb132]? = some (.cells #[.slice none 0 0, .slice none 0 0, .int .i64 0, .int .u64 0, .int .i64 0, .bool false] 49 (0, 0))) := ⟨by rw [← hq_]; exact (by (with_reducible repeat (first | refine blk_drewN ?_ _ | refine blk_drew ?_ | refine blk_alloc ?_ _)); exact BK132.out)⟩; have n5_ : Aside0 (Kept w w54 (fun k_ => P0_0_ k_ ∨ P0_1_ k_)) := ⟨by rw [← hq_]; exact (by repeat (first | (with_reducible first | exact HK.out | apply Kept.alloc | apply Kept.drewN | apply Kept.drew | refine Kept.setCell ?_ (.inr GW131.out) _ | refine Kept.setCell ?_ (.inr GW132.out) _) | exact HK.out))⟩; have n6_ : Aside0 (Below w0.heap.size w0 w54) := ⟨by rw [← hq_]; exact (by repeat (first | (with_reducible first | exact HB.out | apply below_alloc | apply pw_below_drewN | apply below_drew1 | refine below_set ?_ GE131.out | refine below_set ?_ GE132.out) | exact HB.out))⟩; clear HO138 HO_132000 HO_132001 BK131 BK132 HK HB hq_; have HO138 := n0_; have HO_132000 := n1_; have HO_132001 := n2_; have BK131 := n3_; have BK132 := n4_; have HK := n5_; have HB := n6_; clear n0_ n1_ n2_ n3_ n4_ n5_ n6_))) | ((with_reducible refine gate_builtin (b := .append) (xs := #[.tmp 29, .tmp 34]) rfl ?_); (try (refine gate_guard (by rfl) ?_; dsimp only)); at_builtin; refine Kd.R_append k75 (w0 := w0) w0.heap.size rfl (.tmp 29) (.tmp 34) 47 75 (.agg #[(.int .i64 0), (.string ⟨#[]⟩)]) 24 rfl Try.underlying47 info75 rfl (by decide) (by omega) v137 y136 (⟨a1, t139⟩ : S75) [.int .i64 a1, .string t139] (fun k_ => ((P0_0_ k_ ∨ P0_1_ k_) ∨ w.heap.size ≤ k_) ∧ some k_ ≠ (.slice Ao14 l0_1.length co14 : Value).ownBlock) (fun _ => False) rfl rfl ?aP (fun _ hk => hk.elim) ?aF ?aO ?aB ?aS ?aL ?_; (case aP => exact k75_mkM _ _ _ (⟨a1, t139⟩ : S75)); (case aB => exact (by repeat (first | (with_reducible first | exact HB.out | apply below_alloc | apply pw_below_drewN | apply below_drew1 | refine below_set ?_ GE131.out | refine below_set ?_ GE132.out) | exact HB.out))); (case aF => exact (fun k_ hk => ⟨(.inr (Nat.le_trans (by first | exact HK.out.1 | exact (show Kept w _ (fun k_ => P0_0_ k_ ∨ P0_1_ k_) from by repeat (first | (with_reducible first | exact HK.out | apply Kept.alloc | apply Kept.drewN | apply Kept.drew | refine Kept.setCell ?_ (.inr GW131.out) _ | refine Kept.setCell ?_ (.inr GW132.out) _) | exact HK.out)).1) hk)), Kd.fresh' (Kd.R_lt (by (with_reducible repeat (first | apply Kd.R_alloc | apply Kd.R_drewN | apply Kd.R_drew)); exact HO_132001.out)) k_ hk⟩)); (case aO => exact (by (with_reducible repeat (first | apply Kd.R_alloc | apply Kd.R_drewN | apply Kd.R_drew)); exact HO138.out)); (case aS => exact (below_size (by repeat (first | (with_reducible first | exact HB.out | apply below_alloc | apply pw_below_drewN | apply below_drew1 | refine below_set ?_ GE131.out | refine below_set ?_ GE132.out) | exact HB.out)))); (case aL => have := LMc32.out; omega); intro v141 w55 ho hb hg hat; rw [← Ny140.out] at ho; have n0_ := Aside0.mk (Kd.R_over' (by (with_reducible repeat (first | apply Kd.R_alloc | apply Kd.R_drewN | apply Kd.R_drew)); exact HO_132000.out) (Kd.R_typed (by (with_reducible repeat (first | apply Kd.R_alloc | apply Kd.R_drewN | apply Kd.R_drew)); exact HO138.out)) (by decide) hg); have n1_ := Aside0.mk (Kd.R_after (ok := (fun k_ => ((P0_0_ k_ ∨ P0_1_ k_) ∨ w.heap.size ≤ k_))) (by (with_reducible repeat (first | apply Kd.R_alloc | apply Kd.R_drewN | apply Kd.R_drew)); exact HO_132001.out) hg hat); have n2_ := Aside0.mk (blk_grown (g := gb131) (o := .cells #[.slice Ao13 l0_0.length co13, .slice Ao14 l0_1.length co14, .int .i64 a0_2, .int .u64 a0_3, .int .i64 a0_4, .bool false] 49 (0, 0)) (by (with_reducible repeat (first | refine blk_drewN ?_ _ | refine blk_drew ?_ | refine blk_alloc ?_ _)); exact BK131.out) hg (Kd.R_ne HO138.out BK131.out (by decide))); have n3_ := Aside0.mk (blk_grown (g := gb132) (o := .cells #[.slice none 0 0, .slice none 0 0, .int .i64 0, .int .u64 0, .int .i64 0, .bool false] 49 (0, 0)) (by (with_reducible repeat (first | refine blk_drewN ?_ _ | refine blk_drew ?_ | refine blk_alloc ?_ _)); exact BK132.out) hg (Kd.R_ne HO138.out BK132.out (by decide))); have n4_ := Aside0.mk (hb); have n5_ := Aside0.mk (Kept.of_grown (S := (fun k_ => P0_0_ k_ ∨ P0_1_ k_)) hg (by repeat (first | (with_reducible first | exact HK.out | apply Kept.alloc | apply Kept.drewN | apply Kept.drew | refine Kept.setCell ?_ (.inr GW131.out) _ | refine Kept.setCell ?_ (.inr GW132.out) _) | exact HK.out)) (fun k_ e_ => (HO138.out.1 k_ e_).1)); have n6_ := Aside0.mk (ho); clear HO_132000; clear HO_132001; clear BK131; clear BK132; clear HB; clear HK; clear HO138; have HO_132000 := n0_; have HO_132001 := n1_; have BK131 := n2_; have BK132 := n3_; have HB := n4_; have HK := n5_; have HO142 := n6_; clear n0_ n1_ n2_ n3_ n4_ n5_ n6_; clear ho hb hg hat; obtain ⟨Ao56, co56, eo56⟩ := Kd.R_slice HO142.out; subst eo56; have hcz57_0 : w55.cell? ⟨gb131, 0, none⟩ = some (.slice Ao13 l0_0.length co13) := (blk_cell BK131.out 0).trans rfl; have hcz57_1 : w55.cell? ⟨gb131, 1, none⟩ = some (.slice Ao14 l0_1.length co14) := (blk_cell BK131.out 1).trans rfl; have hcz57_2 : w55.cell? ⟨gb131, 2, none⟩ = some (.int .i64 a0_2) := (blk_cell BK131.out 2).trans rfl; have hcz57_3 : w55.cell? ⟨gb131, 3, none⟩ = some (.int .u64 a0_3) := (blk_cell BK131.out 3).trans rfl; have hcz57_4 : w55.cell? ⟨gb131, 4, none⟩ = some (.int .i64 a0_4) := (blk_cell BK131.out 4).trans rfl; have hcz57_5 : w55.cell? ⟨gb131, 5, none⟩ = some (.bool false) := (blk_cell BK131.out 5).trans rfl; have hfz57_0 := blk_frozen BK131.out 0; have hfz57_1 := blk_frozen BK131.out 1; have hfz57_2 := blk_frozen BK131.out 2; have hfz57_3 := blk_frozen BK131.out 3; have hfz57_4 := blk_frozen BK131.out 4; have hfz57_5 := blk_frozen BK131.out 5) | ((with_reducible refine gate_store (t := 47) (p := 36) rfl ?_); refine store_event (t := 47) (p := 36) (v := ?vo_w58) (w1 := (w55.setCell ⟨gb131, 1, none⟩ (.slice Ao56 y140.length co56))) ?hg ?ho ?hn ?hr ?_; (case ho => rfl); (case hg => rfl); (case hn => rfl); (case hr => first | (go_simp; done) | (go_simp; rfl)); intro w58 hw; have n0_ : Aside0 (Kd.R Kd.string 9 w58 w0.heap.size (fun k_ => ((P0_0_ k_ ∨ P0_1_ k_) ∨ w.heap.size ≤ k_)) (.slice Ao13 l0_0.length co13) l0_0) := ⟨(by rw [hw]; exact (by (with_reducible repeat (first | apply Kd.R_alloc | apply Kd.R_drewN | apply Kd.R_drew)); exact Kd.R_mono (Kd.R_far (p := ⟨gb131, 1, none⟩) (Kd.R_types HO_132000.out BK131.out (by decide)) (fun _ hk => hk.2) (.slice Ao56 y140.length co56)) (fun _ hk => hk.1)))⟩; have n1_ : Aside0 (Kd.R k75 75 w58 w0.heap.size (fun k_ => ((P0_0_ k_ ∨ P0_1_ k_) ∨ w.heap.size ≤ k_) ∧ some k_ ≠ (.slice Ao56 y140.length co56 : Value).ownBlock) (.slice Ao14 l0_1.length co14) l0_1) := ⟨(by rw [hw]; exact (by (with_reducible repeat (first | apply Kd.R_alloc | apply Kd.R_drewN | apply Kd.R_drew)); exact Kd.R_mono (Kd.R_far (p := ⟨gb131, 1, none⟩) (Kd.R_types HO_132001.out BK131.out (by decide)) (fun _ hk => hk.2) (.slice Ao56 y140.length co56)) (fun _ hk => ⟨hk.1.1, hk.1.2⟩)))⟩; have n2_ : Aside0 (Kd.R k75 75 w58 w0.heap.size (fun k_ => ((P0_0_ k_ ∨ P0_1_ k_) ∨ w.heap.size ≤ k_) ∧ some k_ ≠ (.slice Ao14 l0_1.length co14 : Value).ownBlock) (.slice Ao56 y140.length co56) y140) := ⟨(by rw [hw]; exact (by (with_reducible repeat (first | apply Kd.R_alloc | apply Kd.R_drewN | apply Kd.R_drew)); exact Kd.R_mono (Kd.R_far (p := ⟨gb131, 1, none⟩) (Kd.R_types HO142.out BK131.out (by decide)) (fun _ hk => hk.2) (.slice Ao56 y140.length co56)) (fun _ hk => ⟨hk.1.1, hk.1.2⟩)))⟩; have n3_ : Aside0 (w58.heap[gb131]? = some (.cells #[.slice Ao13 l0_0.length co13, .slice Ao56 y140.length co56, .int .i64 a0_2, .int .u64 a0_3, .int .i64 a0_4, .bool false] 49 (0, 0))) := ⟨(by rw [hw]; exact (by (with_reducible repeat (first | refine blk_drewN ?_ _ | refine blk_drew ?_ | refine blk_alloc ?_ _)); refine blk_put (cs := #[.slice Ao13 l0_0.length co13, .slice Ao14 l0_1.length co14, .int .i64 a0_2, .int .u64 a0_3, .int .i64 a0_4, .bool false]) ?_ 1 _ rfl; (with_reducible repeat (first | refine blk_drewN ?_ _ | refine blk_drew ?_ | refine blk_alloc ?_ _)); exact BK131.out))⟩; have n4_ : Aside0 (w58.heap[gb132]? = some (.cells #[.slice none 0 0, .slice none 0 0, .int .i64 0, .int .u64 0, .int .i64 0, .bool false] 49 (0, 0))) := ⟨(by rw [hw]; exact (by (with_reducible repeat (first | refine blk_drewN ?_ _ | refine blk_drew ?_ | refine blk_alloc ?_ _)); refine blk_far ?_ NB132_131.out _; (with_reducible repeat (first | refine blk_drewN ?_ _ | refine blk_drew ?_ | refine blk_alloc ?_ _)); exact BK132.out))⟩; have n5_ : Aside0 (Kept w w58 (fun k_ => P0_0_ k_ ∨ P0_1_ k_)) := ⟨(by rw [hw]; exact (by repeat (first | (with_reducible first | exact HK.out | apply Kept.alloc | apply Kept.drewN | apply Kept.drew | refine Kept.setCell ?_ (.inr GW131.out) _ | refine Kept.setCell ?_ (.inr GW132.out) _) | exact HK.out)))⟩; have n6_ : Aside0 (Below w0.heap.size w0 w58) := ⟨(by rw [hw]; exact (by repeat (first | (with_reducible first | exact HB.out | apply below_alloc | apply pw_below_drewN | apply below_drew1 | refine below_set ?_ GE131.out | refine below_set ?_ GE132.out) | exact HB.out)))⟩; clear hw; clear HO_132000; clear HO_132001; clear HO142; clear BK131; clear BK132; clear HK; clear HB; have HO_132000 := n0_; have HO_132001 := n1_; have HO142 := n2_; have BK131 := n3_; have BK132 := n4_; have HK := n5_; have HB := n6_; clear n0_ n1_ n2_ n3_ n4_ n5_ n6_; have hcz59_0 : w58.cell? ⟨gb131, 0, none⟩ = some (.slice Ao13 l0_0.length co13) := (blk_cell BK131.out 0).trans rfl; have hcz59_1 : w58.cell? ⟨gb131, 1, none⟩ = some (.slice Ao56 y140.length co56) := (blk_cell BK131.out 1).trans rfl; have hcz59_2 : w58.cell? ⟨gb131, 2, none⟩ = some (.int .i64 a0_2) := (blk_cell BK131.out 2).trans rfl; have hcz59_3 : w58.cell? ⟨gb131, 3, none⟩ = some (.int .u64 a0_3) := (blk_cell BK131.out 3).trans rfl; have hcz59_4 : w58.cell? ⟨gb131, 4, none⟩ = some (.int .i64 a0_4) := (blk_cell BK131.out 4).trans rfl; have hcz59_5 : w58.cell? ⟨gb131, 5, none⟩ = some (.bool false) := (blk_cell BK131.out 5).trans rfl; have hfz59_0 := blk_frozen BK131.out 0; have hfz59_1 := blk_frozen BK131.out 1; have hfz59_2 := blk_frozen BK131.out 2; have hfz59_3 := blk_frozen BK131.out 3; have hfz59_4 := blk_frozen BK131.out 4; have hfz59_5 := blk_frozen BK131.out 5) | ((with_reducible refine gate_callee (f := 32) rfl ?_); refine goesL_ (some 39) rfl rfl Try.func32 (by kernel_rfl) rfl #[.agg #[.slice Ao13 l0_0.length co13, .slice Ao56 y140.length co56, .int .i64 a0_2, .int .u64 a0_3, .int .i64 a0_4, .bool false]] rfl (by (try simp only [List.map_toArray, List.map_cons, List.map_nil]); first | done | rfl | (simp only [List.length_drop, List.length_take]; rfl)) ?_; (with_reducible refine (snapferryref03_counted.calls kj11 (fun k_ => some k_ = (.slice Ao13 l0_0.length co13 : Value).ownBlock) (.slice Ao13 l0_0.length co13) l0_0 (fun k_ => some k_ = (.slice Ao56 y140.length co56 : Value).ownBlock) (.slice Ao56 y140.length co56) y140 a0_2 a0_3 a0_4 false t143 t146 t149 t150 t151 t152 false w0 _ ?side1 ?side2 ?side3 A33.out).mono ?_); (case side1 => repeat (first | (with_reducible first | exact HB.out | apply below_alloc | apply pw_below_drewN | apply below_drew1 | refine below_set ?_ GE131.out | refine below_set ?_ GE132.out) | exact HB.out)); (case side2 => exact Kd.R_tight rfl HO_132000.out); (case side3 => exact Kd.R_tight rfl HO142.out); rintro e w60 ⟨v144, v147, rfl, ho0, ho1, hb, hkp⟩; refine ⟨_, rfl, ?_⟩; have n0_ := Aside0.mk (Kd.R_mono (ok' := fun k_ => ((P0_0_ k_ ∨ P0_1_ k_) ∨ w.heap.size ≤ k_) ∧ some k_ ≠ (v147 : Value).ownBlock) (Kd.R_keptB ((Kd.R_apart' HO_132001.out (Kd.R_typed HO_132000.out) (by decide))) hkp (fun k_ hk_ hs_ => Or.elim hs_ (fun e_ => (hk_.2) e_) (fun e_ => (hk_.1.2) e_))) (fun k_ hk_ => ⟨hk_.1.1.1, fun e_ => Or.elim (ho1.1 k_ e_.symm) (fun hs_ => hk_.2.1 hs_) (fun hn_ => Nat.not_le.2 hk_.2.2 hn_)⟩)); have n1_ := Aside0.mk (blk_kept (by (with_reducible repeat (first | refine blk_drewN ?_ _ | refine blk_drew ?_ | refine blk_alloc ?_ _)); exact BK131.out) hkp (fun hs_ => Or.elim hs_ (fun e_ => (fun e_ => (Kd.R_ne HO_132000.out BK131.out (by decide)) e_) e_) (fun e_ => (fun e_ => (Kd.R_ne HO142.out BK131.out (by decide)) e_) e_))); have n2_ := Aside0.mk (blk_kept (by (with_reducible repeat (first | refine blk_drewN ?_ _ | refine blk_drew ?_ | refine blk_alloc ?_ _)); exact BK132.out) hkp (fun hs_ => Or.elim hs_ (fun e_ => (fun e_ => (Kd.R_ne HO_132000.out BK132.out (by decide)) e_) e_) (fun e_ => (fun e_ => (Kd.R_ne HO142.out BK132.out (by decide)) e_) e_))); have n3_ := Aside0.mk (Kd.R_mono (ok' := fun k_ => ((P0_0_ k_ ∨ P0_1_ k_) ∨ w.heap.size ≤ k_)) ho0 (fun k_ hk_ => Or.elim hk_ (fun hs_ => Or.elim hs_ (fun hs_ => (HO_132000.out.1 k_ (hs_).symm)) (fun hs_ => (HO142.out.1 k_ (hs_).symm).1)) (fun hn_ => (.inr (Nat.le_trans (by first | exact HK.out.1 | exact (show Kept w _ (fun k_ => P0_0_ k_ ∨ P0_1_ k_) from by repeat (first | (with_reducible first | exact HK.out | apply Kept.alloc | apply Kept.drewN | apply Kept.drew | refine Kept.setCell ?_ (.inr GW131.out) _ | refine Kept.setCell ?_ (.inr GW132.out) _) | exact HK.out)).1) hn_))))); have n4_ := Aside0.mk (Kd.R_mono (ok' := fun k_ => ((P0_0_ k_ ∨ P0_1_ k_) ∨ w.heap.size ≤ k_) ∧ some k_ ≠ (.slice Ao14 l0_1.length co14 : Value).ownBlock) ho1 (fun k_ hk_ => ⟨Or.elim hk_ (fun hs_ => Or.elim hs_ (fun hs_ => (HO_132000.out.1 k_ (hs_).symm)) (fun hs_ => (HO142.out.1 k_ (hs_).symm).1)) (fun hn_ => (.inr (Nat.le_trans (by first | exact HK.out.1 | exact (show Kept w _ (fun k_ => P0_0_ k_ ∨ P0_1_ k_) from by repeat (first | (with_reducible first | exact HK.out | apply Kept.alloc | apply Kept.drewN | apply Kept.drew | refine Kept.setCell ?_ (.inr GW131.out) _ | refine Kept.setCell ?_ (.inr GW132.out) _) | exact HK.out)).1) hn_))), Or.elim hk_ (fun hs_ => Or.elim hs_ (fun hs_ => fun e_ => ((((Kd.R_apart' HO_132001.out (Kd.R_typed HO_132000.out) (by decide))).1 k_ e_.symm).2) hs_) (fun hs_ => fun e_ => ((((Kd.R_apart' HO_132001.out (Kd.R_typed HO_132000.out) (by decide))).1 k_ e_.symm).1.2) hs_)) (fun hn_ => (Kd.fresh' (Kd.R_lt (by (with_reducible repeat (first | apply Kd.R_alloc | apply Kd.R_drewN | apply Kd.R_drew)); exact HO_132001.out)) k_ hn_))⟩)); have n5_ := Aside0.mk (Kept.then_ (S := (fun k_ => P0_0_ k_ ∨ P0_1_ k_)) (by repeat (first | (with_reducible first | exact HK.out | apply Kept.alloc | apply Kept.drewN | apply Kept.drew | refine Kept.setCell ?_ (.inr GW131.out) _ | refine Kept.setCell ?_ (.inr GW132.out) _) | exact HK.out)) hkp (fun k_ hs_ => Or.elim hs_ (fun e_ => (fun e_ => (HO_132000.out.1 k_ e_.symm)) e_) (fun e_ => (fun e_ => (HO142.out.1 k_ e_.symm).1) e_))); have n6_ := Aside0.mk (hb); clear HO_132001; clear BK131; clear BK132; clear HK; clear HB; clear HO142; clear HO_132000; have HO_132001 := n0_; have BK131 := n1_; have BK132 := n2_; have HO145 := n3_; have HO148 := n4_; have HK := n5_; have HB := n6_; clear n0_ n1_ n2_ n3_ n4_ n5_ n6_; (try clear hb); (try clear hkp); (try clear ho0); (try clear ho1); obtain ⟨Ao61, co61, eo61⟩ := Kd.R_slice HO145.out; subst eo61; have hcz62_0 : w60.cell? ⟨gb131, 0, none⟩ = some (.slice Ao13 l0_0.length co13) := (blk_cell BK131.out 0).trans rfl; have hcz62_1 : w60.cell? ⟨gb131, 1, none⟩ = some (.slice Ao56 y140.length co56) := (blk_cell BK131.out 1).trans rfl; have hcz62_2 : w60.cell? ⟨gb131, 2, none⟩ = some (.int .i64 a0_2) := (blk_cell BK131.out 2).trans rfl; have hcz62_3 : w60.cell? ⟨gb131, 3, none⟩ = some (.int .u64 a0_3) := (blk_cell BK131.out 3).trans rfl; have hcz62_4 : w60.cell? ⟨gb131, 4, none⟩ = some (.int .i64 a0_4) := (blk_cell BK131.out 4).trans rfl; have hcz62_5 : w60.cell? ⟨gb131, 5, none⟩ = some (.bool false) := (blk_cell BK131.out 5).trans rfl; have hfz62_0 := blk_frozen BK131.out 0; have hfz62_1 := blk_frozen BK131.out 1; have hfz62_2 := blk_frozen BK131.out 2; have hfz62_3 := blk_frozen BK131.out 3; have hfz62_4 := blk_frozen BK131.out 4; have hfz62_5 := blk_frozen BK131.out 5; obtain ⟨Ao63, co63, eo63⟩ := Kd.R_slice HO148.out; subst eo63; have hcz64_0 : w60.cell? ⟨gb132, 0, none⟩ = some (.slice none 0 0) := (blk_cell BK132.out 0).trans rfl; have hcz64_1 : w60.cell? ⟨gb132, 1, none⟩ = some (.slice none 0 0) := (blk_cell BK132.out 1).trans rfl; have hcz64_2 : w60.cell? ⟨gb132, 2, none⟩ = some (.int .i64 0) := (blk_cell BK132.out 2).trans rfl; have hcz64_3 : w60.cell? ⟨gb132, 3, none⟩ = some (.int .u64 0) := (blk_cell BK132.out 3).trans rfl; have hcz64_4 : w60.cell? ⟨gb132, 4, none⟩ = some (.int .i64 0) := (blk_cell BK132.out 4).trans rfl; have hcz64_5 : w60.cell? ⟨gb132, 5, none⟩ = some (.bool false) := (blk_cell BK132.out 5).trans rfl; have hfz64_0 := blk_frozen BK132.out 0; have hfz64_1 := blk_frozen BK132.out 1; have hfz64_2 := blk_frozen BK132.out 2; have hfz64_3 := blk_frozen BK132.out 3; have hfz64_4 := blk_frozen BK132.out 4; have hfz64_5 := blk_frozen BK132.out 5))
                  refine bodyPost_ret (results_ct rfl _ _ gb132 49 #[.slice Ao61 t143.length co61, .slice Ao63 t146.length co63, .int .i64 t149, .int .u64 t150, .int .i64 t151, .bool t152] (0, 0) _ rfl (by (with_reducible repeat (first | refine blk_drewN ?_ _ | refine blk_drew ?_ | refine blk_alloc ?_ _)); refine blk_put (cs := #[.slice Ao61 t143.length co61, .slice Ao63 t146.length co63, .int .i64 t149, .int .u64 t150, .int .i64 t151, .bool false]) ?_ 5 _ rfl; (with_reducible repeat (first | refine blk_drewN ?_ _ | refine blk_drew ?_ | refine blk_alloc ?_ _)); refine blk_put (cs := #[.slice Ao61 t143.length co61, .slice Ao63 t146.length co63, .int .i64 t149, .int .u64 t150, .int .i64 0, .bool false]) ?_ 4 _ rfl; (with_reducible repeat (first | refine blk_drewN ?_ _ | refine blk_drew ?_ | refine blk_alloc ?_ _)); refine blk_put (cs := #[.slice Ao61 t143.length co61, .slice Ao63 t146.length co63, .int .i64 t149, .int .u64 0, .int .i64 0, .bool false]) ?_ 3 _ rfl; (with_reducible repeat (first | refine blk_drewN ?_ _ | refine blk_drew ?_ | refine blk_alloc ?_ _)); refine blk_put (cs := #[.slice Ao61 t143.length co61, .slice Ao63 t146.length co63, .int .i64 0, .int .u64 0, .int .i64 0, .bool false]) ?_ 2 _ rfl; (with_reducible repeat (first | refine blk_drewN ?_ _ | refine blk_drew ?_ | refine blk_alloc ?_ _)); refine blk_put (cs := #[.slice Ao61 t143.length co61, .slice none 0 0, .int .i64 0, .int .u64 0, .int .i64 0, .bool false]) ?_ 1 _ rfl; (with_reducible repeat (first | refine blk_drewN ?_ _ | refine blk_drew ?_ | refine blk_alloc ?_ _)); refine blk_put (cs := #[.slice none 0 0, .slice none 0 0, .int .i64 0, .int .u64 0, .int .i64 0, .bool false]) ?_ 0 _ rfl; (with_reducible repeat (first | refine blk_drewN ?_ _ | refine blk_drew ?_ | refine blk_alloc ?_ _)); refine blk_far ?_ NB132_131.out _; (with_reducible repeat (first | refine blk_drewN ?_ _ | refine blk_drew ?_ | refine blk_alloc ?_ _)); refine blk_far ?_ NB132_131.out _; (with_reducible repeat (first | refine blk_drewN ?_ _ | refine blk_drew ?_ | refine blk_alloc ?_ _)); refine blk_far ?_ NB132_131.out _; (with_reducible repeat (first | refine blk_drewN ?_ _ | refine blk_drew ?_ | refine blk_alloc ?_ _)); refine blk_far ?_ NB132_131.out _; (with_reducible repeat (first | refine blk_drewN ?_ _ | refine blk_drew ?_ | refine blk_alloc ?_ _)); refine blk_far ?_ NB132_131.out _; (with_reducible repeat (first | refine blk_drewN ?_ _ | refine blk_drew ?_ | refine blk_alloc ?_ _)); refine blk_far ?_ NB132_131.out _; (with_reducible repeat (first | refine blk_drewN ?_ _ | refine blk_drew ?_ | refine blk_alloc ?_ _)); exact BK132.out) Try.underlying49 rfl (by kernel_rfl)) rfl ?_
                  exact ⟨_, _, by first | rfl | (simp [errW_none, errW_some] <;> rfl) | (simp [*, errW_none, errW_some] <;> rfl), by (with_reducible repeat (first | apply Kd.R_alloc | apply Kd.R_drewN | apply Kd.R_drew)); exact Kd.R_mono (Kd.R_far (p := ⟨gb132, 5, none⟩) (Kd.R_far (p := ⟨gb132, 4, none⟩) (Kd.R_far (p := ⟨gb132, 3, none⟩) (Kd.R_far (p := ⟨gb132, 2, none⟩) (Kd.R_far (p := ⟨gb132, 1, none⟩) (Kd.R_far (p := ⟨gb132, 0, none⟩) (Kd.R_far (p := ⟨gb131, 5, none⟩) (Kd.R_far (p := ⟨gb131, 4, none⟩) (Kd.R_far (p := ⟨gb131, 3, none⟩) (Kd.R_far (p := ⟨gb131, 2, none⟩) (Kd.R_far (p := ⟨gb131, 1, none⟩) (Kd.R_far (p := ⟨gb131, 0, none⟩) (Kd.R_types (Kd.R_types HO145.out BK131.out (by decide)) BK132.out (by decide)) (fun _ hk => hk.1.2) (.slice Ao61 t143.length co61)) (fun _ hk => hk.1.2) (.slice Ao63 t146.length co63)) (fun _ hk => hk.1.2) (.int .i64 t149)) (fun _ hk => hk.1.2) (.int .u64 t150)) (fun _ hk => hk.1.2) (.int .i64 t151)) (fun _ hk => hk.1.2) (.bool t152)) (fun _ hk => hk.2) (.slice Ao61 t143.length co61)) (fun _ hk => hk.2) (.slice Ao63 t146.length co63)) (fun _ hk => hk.2) (.int .i64 t149)) (fun _ hk => hk.2) (.int .u64 t150)) (fun _ hk => hk.2) (.int .i64 t151)) (fun _ hk => hk.2) (.bool t152)) (fun _ hk => hk.1.1), by (with_reducible repeat (first | apply Kd.R_alloc | apply Kd.R_drewN | apply Kd.R_drew)); exact Kd.R_mono (Kd.R_far (p := ⟨gb132, 5, none⟩) (Kd.R_far (p := ⟨gb132, 4, none⟩) (Kd.R_far (p := ⟨gb132, 3, none⟩) (Kd.R_far (p := ⟨gb132, 2, none⟩) (Kd.R_far (p := ⟨gb132, 1, none⟩) (Kd.R_far (p := ⟨gb132, 0, none⟩) (Kd.R_far (p := ⟨gb131, 5, none⟩) (Kd.R_far (p := ⟨gb131, 4, none⟩) (Kd.R_far (p := ⟨gb131, 3, none⟩) (Kd.R_far (p := ⟨gb131, 2, none⟩) (Kd.R_far (p := ⟨gb131, 1, none⟩) (Kd.R_far (p := ⟨gb131, 0, none⟩) (Kd.R_types (Kd.R_types HO148.out BK131.out (by decide)) BK132.out (by decide)) (fun _ hk => hk.1.2) (.slice Ao61 t143.length co61)) (fun _ hk => hk.1.2) (.slice Ao63 t146.length co63)) (fun _ hk => hk.1.2) (.int .i64 t149)) (fun _ hk => hk.1.2) (.int .u64 t150)) (fun _ hk => hk.1.2) (.int .i64 t151)) (fun _ hk => hk.1.2) (.bool t152)) (fun _ hk => hk.2) (.slice Ao61 t143.length co61)) (fun _ hk => hk.2) (.slice Ao63 t146.length co63)) (fun _ hk => hk.2) (.int .i64 t149)) (fun _ hk => hk.2) (.int .u64 t150)) (fun _ hk => hk.2) (.int .i64 t151)) (fun _ hk => hk.2) (.bool t152)) (fun _ hk => hk.1.1.1), by repeat (first | (with_reducible first | exact HB.out | apply below_alloc | apply pw_below_drewN | apply below_drew1 | refine below_set ?_ GE131.out | refine below_set ?_ GE132.out) | exact HB.out), by repeat (first | (with_reducible first | exact HK.out | apply Kept.alloc | apply Kept.drewN | apply Kept.drew | refine Kept.setCell ?_ (.inr GW131.out) _ | refine Kept.setCell ?_ (.inr GW132.out) _) | exact HK.out)⟩
              · rw [if_neg c32] at H
                exact absurd H (by simp)
            · rw [if_neg c30] at H
              exact absurd H (by simp)

/-! ### snapferryref03_Read: function 19 -/
mutual
def snapferryref03_Read.j0 : Nat → Int → Bool → List ByteArray → List (S75) → Int → Int → Int → Bool → Option (ByteArray × Int)
  | 0, _, _, _, _, _, _, _, _ => none
  | k + 1, x1, x18, x155000, x155001, x155002, x155003, x155004, x155005 => if x18 = true then (some ((⟨#[]⟩ : ByteArray), 1)) else (if 0 ≤ x1 then (if x1 < (x155000.length : Int) then (snapferryref03_Read.l0 k x1 (rdOf ByteArray.empty x155000 x1) 0 x155000 x155001 x155002 x155003 x155004 x155005) else (none)) else (none))
def snapferryref03_Read.l0 : Nat → Int → ByteArray → Int → List ByteArray → List (S75) → Int → Int → Int → Bool → Option (ByteArray × Int)
  | 0, _, _, _, _, _, _, _, _, _ => none
  | k + 1, x1, x6, x7, x155000, x155001, x155002, x155003, x155004, x155005 => if x7 < (x155001.length : Int) then (if 0 ≤ x7 then (if ((rd_T75 x155001 x7).f0) = x1 then (snapferryref03_Read.l0 k x1 ((rd_T75 x155001 x7).f1) (wrap64 (x7 + 1)) x155000 x155001 x155002 x155003 x155004 x155005) else (snapferryref03_Read.l0 k x1 x6 (wrap64 (x7 + 1)) x155000 x155001 x155002 x155003 x155004 x155005)) else (none)) else (some (x6, 0))
end
def snapferryref03_Read.f (k : Nat) (l0_0 : List ByteArray) (l0_1 : List (S75)) (a0_2 : Int) (a0_3 : Int) (a0_4 : Int) (a0_5 : Bool) (a1 : Int) : Option (ByteArray × Int) := if a0_5 = true then (some ((⟨#[]⟩ : ByteArray), 7)) else (if a1 < 0 then (snapferryref03_Read.j0 k a1 true l0_0 l0_1 a0_2 a0_3 a0_4 a0_5) else (snapferryref03_Read.j0 k a1 (decide (a1 ≥ (l0_0.length : Int))) l0_0 l0_1 a0_2 a0_3 a0_4 a0_5))
theorem snapferryref03_Read.mono_l : ∀ k, (∀ y0 y1 y2 y3 y4 y5 y6 y7, LeO (snapferryref03_Read.j0 k y0 y1 y2 y3 y4 y5 y6 y7) (snapferryref03_Read.j0 (k + 1) y0 y1 y2 y3 y4 y5 y6 y7)) ∧ (∀ y0 y1 y2 y3 y4 y5 y6 y7 y8, LeO (snapferryref03_Read.l0 k y0 y1 y2 y3 y4 y5 y6 y7 y8) (snapferryref03_Read.l0 (k + 1) y0 y1 y2 y3 y4 y5 y6 y7 y8))
  | 0 => ⟨fun _ _ _ _ _ _ _ _ r h => by simp [snapferryref03_Read.j0] at h, fun _ _ _ _ _ _ _ _ _ r h => by simp [snapferryref03_Read.l0] at h⟩
  | k + 1 => by
    obtain ⟨ih0, ih1⟩ := snapferryref03_Read.mono_l k
    refine ⟨?_, ?_⟩
    · intro y0 y1 y2 y3 y4 y5 y6 y7
      unfold snapferryref03_Read.j0
      repeat' first
      | (with_reducible exact ih0 _ _ _ _ _ _ _ _)
      | (with_reducible exact ih1 _ _ _ _ _ _ _ _ _)
      | (with_reducible exact LeO.refl _)
      | (with_reducible exact LeO.none _)
      | (with_reducible refine LeO.ite ?_ ?_)
      | (with_reducible refine LeO.bind ?_ (fun _ => ?_))
      | exact ih0 _ _ _ _ _ _ _ _
      | exact ih1 _ _ _ _ _ _ _ _ _
      | exact LeO.none _
      | refine LeO.ite ?_ ?_
      | refine LeO.bind ?_ (fun _ => ?_)
    · intro y0 y1 y2 y3 y4 y5 y6 y7 y8
      unfold snapferryref03_Read.l0
      repeat' first
      | (with_reducible exact ih0 _ _ _ _ _ _ _ _)
      | (with_reducible exact ih1 _ _ _ _ _ _ _ _ _)
      | (with_reducible exact LeO.refl _)
      | (with_reducible exact LeO.none _)
      | (with_reducible refine LeO.ite ?_ ?_)
      | (with_reducible refine LeO.bind ?_ (fun _ => ?_))
      | exact ih0 _ _ _ _ _ _ _ _
      | exact ih1 _ _ _ _ _ _ _ _ _
      | exact LeO.none _
      | refine LeO.ite ?_ ?_
      | refine LeO.bind ?_ (fun _ => ?_)
theorem snapferryref03_Read.mono : ∀ a0 a1 a2 a3 a4 a5 a6 k, LeO (snapferryref03_Read.f k a0 a1 a2 a3 a4 a5 a6) (snapferryref03_Read.f (k + 1) a0 a1 a2 a3 a4 a5 a6) := by
  intro a0 a1 a2 a3 a4 a5 a6 k
  obtain ⟨ih0, ih1⟩ := snapferryref03_Read.mono_l k
  unfold snapferryref03_Read.f
  repeat' first
      | (with_reducible exact ih0 _ _ _ _ _ _ _ _)
      | (with_reducible exact ih1 _ _ _ _ _ _ _ _ _)
      | (with_reducible exact LeO.refl _)
      | (with_reducible exact LeO.none _)
      | (with_reducible refine LeO.ite ?_ ?_)
      | (with_reducible refine LeO.bind ?_ (fun _ => ?_))
      | exact ih0 _ _ _ _ _ _ _ _
      | exact ih1 _ _ _ _ _ _ _ _ _
      | exact LeO.none _
      | refine LeO.ite ?_ ?_
      | refine LeO.bind ?_ (fun _ => ?_)
set_option maxHeartbeats 8000000 in
set_option maxRecDepth 100000 in
theorem snapferryref03_Read.calls (k : Nat) (A0_0 : Option Addr) (c0_0 : Nat) (l0_0 : List ByteArray) (A0_1 : Option Addr) (c0_1 : Nat) (l0_1 : List (S75)) (a0_2 : Int) (a0_3 : Int) (a0_4 : Int) (a0_5 : Bool) (a1 : Int) (r1 : ByteArray) (r2 : Int) (w : World) (hr0_0 : Kd.C Kd.string w A0_0 l0_0.length l0_0) (hc0_0 : l0_0.length ≤ c0_0) (hr0_1 : Kd.C k75 w A0_1 l0_1.length l0_1) (hc0_1 : l0_1.length ≤ c0_1) (h : snapferryref03_Read.f k l0_0 l0_1 a0_2 a0_3 a0_4 a0_5 a1 = some (r1, r2)) :
    Calls Try.prog 19 #[.agg #[.slice A0_0 l0_0.length c0_0, .slice A0_1 l0_1.length c0_1, .int .i64 a0_2, .int .u64 a0_3, .int .i64 a0_4, .bool a0_5], .int .i64 a1] w fun e w' => e = .returned (.tuple #[.string r1, .int .i64 r2]) ∧ Below w.heap.size w w' := by
  have hu49 := Try.underlying49
  have HR0_0 := Aside0.mk hr0_0
  have HC0_0 := Aside0.mk hc0_0
  clear hr0_0 hc0_0
  have HR0_1 := Aside0.mk hr0_1
  have HC0_1 := Aside0.mk hc0_1
  clear hr0_1 hc0_1
  have HB := Aside0.mk (Below.refl w.heap.size w)
  have H : (if a0_5 = true then (some ((⟨#[]⟩ : ByteArray), 7)) else (if a1 < 0 then (snapferryref03_Read.j0 k a1 true l0_0 l0_1 a0_2 a0_3 a0_4 a0_5) else (snapferryref03_Read.j0 k a1 (decide (a1 ≥ (l0_0.length : Int))) l0_0 l0_1 a0_2 a0_3 a0_4 a0_5))) = some (r1, r2) := h
  clear h
  by_cases c3 : a0_5 = true
  · subst c3
    have H1 : (some ((⟨#[]⟩ : ByteArray), 7)) = some (r1, r2) := by rw [if_pos rfl] at H; exact H
    clear H
    have H := H1
    clear H1
    simp only [Option.some.injEq, Prod.mk.injEq] at H
    obtain ⟨rfl, rfl⟩ := H
    go_enter Try.func19, Try.ntmps19
    go_wp2_with (first | ((with_reducible refine gate_dst (N := 2) rfl ?_); (try (refine gate_guard (by rfl) ?_; dsimp only)); refine box_event ?hg (N := 2) ?hd (cs := #[.slice A0_0 l0_0.length c0_0, .slice A0_1 l0_1.length c0_1, .int .i64 a0_2, .int .u64 a0_3, .int .i64 a0_4, .bool true]) (t := 49) ?hr ?_; (case hd => rfl); (case hg => rfl); (case hr => first | (go_simp; done) | (go_simp; rfl)); intro gb154 hg w4 hbox hb; have n0_ := Aside0.mk (below_step (by repeat (first | (with_reducible first | exact HB.out | apply below_alloc | apply pw_below_drewN | apply below_drew1) | exact HB.out)) hb); have n1_ := Aside0.mk (hbox); have n2_ := Aside0.mk ((by rw [hg]; exact (below_size (by repeat (first | (with_reducible first | exact HB.out | apply below_alloc | apply pw_below_drewN | apply below_drew1) | exact HB.out))) : w.heap.size ≤ gb154)); have n3_ := Aside0.mk ((by rw [hg]; exact (below_size (by repeat (first | (with_reducible first | exact HB.out | apply below_alloc | apply pw_below_drewN | apply below_drew1) | exact HB.out))) : w.heap.size ≤ gb154)); clear HB; have HB := n0_; have BK154 := n1_; have GW154 := n2_; have GE154 := n3_; clear n0_ n1_ n2_ n3_; clear hb hbox hg; have hcz5_0 : w4.cell? ⟨gb154, 0, none⟩ = some (.slice A0_0 l0_0.length c0_0) := (blk_cell BK154.out 0).trans rfl; have hcz5_1 : w4.cell? ⟨gb154, 1, none⟩ = some (.slice A0_1 l0_1.length c0_1) := (blk_cell BK154.out 1).trans rfl; have hcz5_2 : w4.cell? ⟨gb154, 2, none⟩ = some (.int .i64 a0_2) := (blk_cell BK154.out 2).trans rfl; have hcz5_3 : w4.cell? ⟨gb154, 3, none⟩ = some (.int .u64 a0_3) := (blk_cell BK154.out 3).trans rfl; have hcz5_4 : w4.cell? ⟨gb154, 4, none⟩ = some (.int .i64 a0_4) := (blk_cell BK154.out 4).trans rfl; have hcz5_5 : w4.cell? ⟨gb154, 5, none⟩ = some (.bool true) := (blk_cell BK154.out 5).trans rfl; have hfz5_0 := blk_frozen BK154.out 0; have hfz5_1 := blk_frozen BK154.out 1; have hfz5_2 := blk_frozen BK154.out 2; have hfz5_3 := blk_frozen BK154.out 3; have hfz5_4 := blk_frozen BK154.out 4; have hfz5_5 := blk_frozen BK154.out 5))
    go_ret2
    exact ⟨by first | rfl | (simp [errW_none, errW_some] <;> rfl) | (simp [*, errW_none, errW_some] <;> rfl), by repeat (first | (with_reducible first | exact HB.out | apply below_alloc | apply pw_below_drewN | apply below_drew1 | refine below_set ?_ GE154.out) | exact HB.out)⟩
  · replace c3 := Bool.eq_false_iff.mpr c3
    subst c3
    have H1 : (if a1 < 0 then (snapferryref03_Read.j0 k a1 true l0_0 l0_1 a0_2 a0_3 a0_4 false) else (snapferryref03_Read.j0 k a1 (decide (a1 ≥ (l0_0.length : Int))) l0_0 l0_1 a0_2 a0_3 a0_4 false)) = some (r1, r2) := by rw [if_neg (show ¬ (false = true) by decide)] at H; exact H
    clear H
    have H := H1
    clear H1
    have HC6 := Aside0.mk H
    clear H
    go_enter Try.func19, Try.ntmps19
    go_upto_region 3 with (first | ((with_reducible refine gate_dst (N := 2) rfl ?_); (try (refine gate_guard (by rfl) ?_; dsimp only)); refine box_event ?hg (N := 2) ?hd (cs := #[.slice A0_0 l0_0.length c0_0, .slice A0_1 l0_1.length c0_1, .int .i64 a0_2, .int .u64 a0_3, .int .i64 a0_4, .bool false]) (t := 49) ?hr ?_; (case hd => rfl); (case hg => rfl); (case hr => first | (go_simp; done) | (go_simp; rfl)); intro gb154 hg w7 hbox hb; have n0_ := Aside0.mk (below_step (by repeat (first | (with_reducible first | exact HB.out | apply below_alloc | apply pw_below_drewN | apply below_drew1) | exact HB.out)) hb); have n1_ := Aside0.mk (hbox); have n2_ := Aside0.mk ((by rw [hg]; exact (below_size (by repeat (first | (with_reducible first | exact HB.out | apply below_alloc | apply pw_below_drewN | apply below_drew1) | exact HB.out))) : w.heap.size ≤ gb154)); have n3_ := Aside0.mk ((by rw [hg]; exact (below_size (by repeat (first | (with_reducible first | exact HB.out | apply below_alloc | apply pw_below_drewN | apply below_drew1) | exact HB.out))) : w.heap.size ≤ gb154)); clear HB; have HB := n0_; have BK154 := n1_; have GW154 := n2_; have GE154 := n3_; clear n0_ n1_ n2_ n3_; clear hb hbox hg; have hcz8_0 : w7.cell? ⟨gb154, 0, none⟩ = some (.slice A0_0 l0_0.length c0_0) := (blk_cell BK154.out 0).trans rfl; have hcz8_1 : w7.cell? ⟨gb154, 1, none⟩ = some (.slice A0_1 l0_1.length c0_1) := (blk_cell BK154.out 1).trans rfl; have hcz8_2 : w7.cell? ⟨gb154, 2, none⟩ = some (.int .i64 a0_2) := (blk_cell BK154.out 2).trans rfl; have hcz8_3 : w7.cell? ⟨gb154, 3, none⟩ = some (.int .u64 a0_3) := (blk_cell BK154.out 3).trans rfl; have hcz8_4 : w7.cell? ⟨gb154, 4, none⟩ = some (.int .i64 a0_4) := (blk_cell BK154.out 4).trans rfl; have hcz8_5 : w7.cell? ⟨gb154, 5, none⟩ = some (.bool false) := (blk_cell BK154.out 5).trans rfl; have hfz8_0 := blk_frozen BK154.out 0; have hfz8_1 := blk_frozen BK154.out 1; have hfz8_2 := blk_frozen BK154.out 2; have hfz8_3 := blk_frozen BK154.out 3; have hfz8_4 := blk_frozen BK154.out 4; have hfz8_5 := blk_frozen BK154.out 5))
    (try simp only [Act.put, List.setIfInBounds_toArray, List.set_cons_zero, List.set_cons_succ])
    go_cut [18] (fun v18 wc => ∃ (kq : Nat) (x18_5 : Bool), v18 = .bool x18_5 ∧ Aside0 (snapferryref03_Read.j0 kq a1 x18_5 l0_0 l0_1 a0_2 a0_3 a0_4 false = some (r1, r2)) ∧ Aside0 (kq ≤ k) ∧ Aside0 (wc.heap[gb154]? = some (.cells #[(.slice A0_0 l0_0.length c0_0), (.slice A0_1 l0_1.length c0_1), .int .i64 a0_2, .int .u64 a0_3, .int .i64 a0_4, .bool false] 49 (0, 0))) ∧ Aside0 (Below w.heap.size w wc))
    case first =>
      have H := HC6.out
      clear HC6
      by_cases c9 : a1 < 0
      · rw [if_pos c9] at H
        have c9b0 : decide (a1 < 0) = true := decide_eq_true c9
        clear c9
        (first | rw [c9b0] | (simp only [i64_w, i32_w]; rw [c9b0]) | skip)
        have H' := Aside0.mk H
        clear H
        go_wp2
        go_meet
        case rel => exact ⟨_, (true), (by first | rfl | (simp; done) | (simp [*]; done)), H', ⟨by first | omega | exact Nat.le_refl _⟩, ⟨by (with_reducible repeat (first | refine blk_drewN ?_ _ | refine blk_drew ?_ | refine blk_alloc ?_ _)); exact BK154.out⟩, ⟨by repeat (first | (with_reducible first | exact HB.out | apply below_alloc | apply pw_below_drewN | apply below_drew1 | refine below_set ?_ GE154.out) | exact HB.out)⟩⟩
      · rw [if_neg c9] at H
        have c9b0 : decide (a1 < 0) = false := decide_eq_false c9
        clear c9
        (first | rw [c9b0] | (simp only [i64_w, i32_w]; rw [c9b0]) | skip)
        have H' := Aside0.mk H
        clear H
        have hcz10_0 : w7.cell? ⟨gb154, 0, none⟩ = some (.slice A0_0 l0_0.length c0_0) := (blk_cell BK154.out 0).trans rfl
        have hcz10_1 : w7.cell? ⟨gb154, 1, none⟩ = some (.slice A0_1 l0_1.length c0_1) := (blk_cell BK154.out 1).trans rfl
        have hcz10_2 : w7.cell? ⟨gb154, 2, none⟩ = some (.int .i64 a0_2) := (blk_cell BK154.out 2).trans rfl
        have hcz10_3 : w7.cell? ⟨gb154, 3, none⟩ = some (.int .u64 a0_3) := (blk_cell BK154.out 3).trans rfl
        have hcz10_4 : w7.cell? ⟨gb154, 4, none⟩ = some (.int .i64 a0_4) := (blk_cell BK154.out 4).trans rfl
        have hcz10_5 : w7.cell? ⟨gb154, 5, none⟩ = some (.bool false) := (blk_cell BK154.out 5).trans rfl
        have hfz10_0 := blk_frozen BK154.out 0
        have hfz10_1 := blk_frozen BK154.out 1
        have hfz10_2 := blk_frozen BK154.out 2
        have hfz10_3 := blk_frozen BK154.out 3
        have hfz10_4 := blk_frozen BK154.out 4
        have hfz10_5 := blk_frozen BK154.out 5
        go_wp2
        go_meet
        case rel => exact ⟨_, (decide (a1 ≥ (l0_0.length : Int))), (by first | rfl | (simp; done) | (simp [*]; done)), H', ⟨by first | omega | exact Nat.le_refl _⟩, ⟨by (with_reducible repeat (first | refine blk_drewN ?_ _ | refine blk_drew ?_ | refine blk_alloc ?_ _)); exact BK154.out⟩, ⟨by repeat (first | (with_reducible first | exact HB.out | apply below_alloc | apply pw_below_drewN | apply below_drew1 | refine below_set ?_ GE154.out) | exact HB.out)⟩⟩
    case rest =>
      clear HC6
      try clear c1
      try clear p2
      try clear c3
      try clear c9
      try clear c9b0
      try clear hcz10_0
      try clear hcz10_1
      try clear hcz10_2
      try clear hcz10_3
      try clear hcz10_4
      try clear hcz10_5
      try clear hcz5_0
      try clear hcz5_1
      try clear hcz5_2
      try clear hcz5_3
      try clear hcz5_4
      try clear hcz5_5
      try clear hcz8_0
      try clear hcz8_1
      try clear hcz8_2
      try clear hcz8_3
      try clear hcz8_4
      try clear hcz8_5
      try clear hfz10_0
      try clear hfz10_1
      try clear hfz10_2
      try clear hfz10_3
      try clear hfz10_4
      try clear hfz10_5
      try clear hfz5_0
      try clear hfz5_1
      try clear hfz5_2
      try clear hfz5_3
      try clear hfz5_4
      try clear hfz5_5
      try clear hfz8_0
      try clear hfz8_1
      try clear hfz8_2
      try clear hfz8_3
      try clear hfz8_4
      try clear hfz8_5
      obtain ⟨kq, x18_5, rfl, HA, HJ5, BK154, HB⟩ := hcut
      cases kq with
      | zero => exact absurd HA.out (by simp [snapferryref03_Read.j0])
      | succ kj5 =>
        have H := HA.out
        clear HA
        simp only [snapferryref03_Read.j0] at H
        by_cases c11 : x18_5 = true
        · subst c11
          have H1 : (some ((⟨#[]⟩ : ByteArray), 1)) = some (r1, r2) := by rw [if_pos rfl] at H; exact H
          clear H
          have H := H1
          clear H1
          simp only [Option.some.injEq, Prod.mk.injEq] at H
          obtain ⟨rfl, rfl⟩ := H
          go_wp2
          go_ret2
          exact ⟨by first | rfl | (simp [errW_none, errW_some] <;> rfl) | (simp [*, errW_none, errW_some] <;> rfl), by repeat (first | (with_reducible first | exact HB.out | apply below_alloc | apply pw_below_drewN | apply below_drew1 | refine below_set ?_ GE154.out) | exact HB.out)⟩
        · replace c11 := Bool.eq_false_iff.mpr c11
          subst c11
          have H1 : (if 0 ≤ a1 then (if a1 < (l0_0.length : Int) then (snapferryref03_Read.l0 kj5 a1 (rdOf ByteArray.empty l0_0 a1) 0 l0_0 l0_1 a0_2 a0_3 a0_4 false) else (none)) else (none)) = some (r1, r2) := by rw [if_neg (show ¬ (false = true) by decide)] at H; exact H
          clear H
          have H := H1
          clear H1
          by_cases c12 : 0 ≤ a1
          · rw [if_pos c12] at H
            have c12b0 : decide (0 ≤ a1) = true := decide_eq_true c12
            clear c12
            by_cases c13 : a1 < (l0_0.length : Int)
            · rw [if_pos c13] at H
              have c13b0 : decide (a1 < (l0_0.length : Int)) = true := decide_eq_true c13
              clear c13
              have H' := Aside0.mk H
              clear H
              have hcz14_0 : wc.cell? ⟨gb154, 0, none⟩ = some (.slice A0_0 l0_0.length c0_0) := (blk_cell BK154.out 0).trans rfl
              have hcz14_1 : wc.cell? ⟨gb154, 1, none⟩ = some (.slice A0_1 l0_1.length c0_1) := (blk_cell BK154.out 1).trans rfl
              have hcz14_2 : wc.cell? ⟨gb154, 2, none⟩ = some (.int .i64 a0_2) := (blk_cell BK154.out 2).trans rfl
              have hcz14_3 : wc.cell? ⟨gb154, 3, none⟩ = some (.int .u64 a0_3) := (blk_cell BK154.out 3).trans rfl
              have hcz14_4 : wc.cell? ⟨gb154, 4, none⟩ = some (.int .i64 a0_4) := (blk_cell BK154.out 4).trans rfl
              have hcz14_5 : wc.cell? ⟨gb154, 5, none⟩ = some (.bool false) := (blk_cell BK154.out 5).trans rfl
              have hfz14_0 := blk_frozen BK154.out 0
              have hfz14_1 := blk_frozen BK154.out 1
              have hfz14_2 := blk_frozen BK154.out 2
              have hfz14_3 := blk_frozen BK154.out 3
              have hfz14_4 := blk_frozen BK154.out 4
              have hfz14_5 := blk_frozen BK154.out 5
              have p155 : 0 ≤ (a1 : Int) := of_decide_eq_true (by first | (with_reducible assumption) | assumption)
              have q155 : a1 < (l0_0.length : Int) := of_decide_eq_true (by first | (with_reducible assumption) | assumption)
              obtain ⟨ad155, e155, hx155_0⟩ := Kd.at_string HR0_0.out a1 p155 q155
              cases e155
              replace hx155_0 := (HB.out.cell (World.block_lt_of_cell? w _ hx155_0)).trans hx155_0
              replace p155 := eq_true p155
              replace q155 := eq_true q155
              go_wp2
              go_loopg [6, 7] kj5 (fun kq v6 v7 w' => ∃ (x6_2 : ByteArray) (x7_2 : Int), v6 = .string x6_2 ∧ v7 = .int .i64 x7_2 ∧ Aside0 (snapferryref03_Read.l0 kq a1 x6_2 x7_2 l0_0 l0_1 a0_2 a0_3 a0_4 false = some (r1, r2)) ∧ Aside0 (kq ≤ kj5) ∧ Aside0 (w'.heap[gb154]? = some (.cells #[(.slice (some ad155) l0_0.length c0_0), (.slice A0_1 l0_1.length c0_1), .int .i64 a0_2, .int .u64 a0_3, .int .i64 a0_4, .bool false] 49 (0, 0))) ∧ Aside0 (Below w.heap.size w w'))
              case atStart => exact ⟨(rdOf ByteArray.empty l0_0 a1), (0), (by first | rfl | (simp; done) | (simp [*]; done)), (by first | rfl | (simp; done) | (simp [*]; done)), H', ⟨Nat.le_refl _⟩, ⟨by (with_reducible repeat (first | refine blk_drewN ?_ _ | refine blk_drew ?_ | refine blk_alloc ?_ _)); exact BK154.out⟩, ⟨by repeat (first | (with_reducible first | exact HB.out | apply below_alloc | apply pw_below_drewN | apply below_drew1 | refine below_set ?_ GE154.out) | exact HB.out)⟩⟩
              case round =>
                clear H'
                try clear c1
                try clear p1
                try clear q1
                try clear hx1
                try clear p2
                try clear c3
                try clear c9
                try clear c9b0
                try clear c11
                try clear c12
                try clear c12b0
                try clear c13
                try clear c13b0
                try clear hcz10_0
                try clear hcz10_1
                try clear hcz10_2
                try clear hcz10_3
                try clear hcz10_4
                try clear hcz10_5
                try clear hcz14_0
                try clear hcz14_1
                try clear hcz14_2
                try clear hcz14_3
                try clear hcz14_4
                try clear hcz14_5
                try clear hcz5_0
                try clear hcz5_1
                try clear hcz5_2
                try clear hcz5_3
                try clear hcz5_4
                try clear hcz5_5
                try clear hcz8_0
                try clear hcz8_1
                try clear hcz8_2
                try clear hcz8_3
                try clear hcz8_4
                try clear hcz8_5
                try clear hfz10_0
                try clear hfz10_1
                try clear hfz10_2
                try clear hfz10_3
                try clear hfz10_4
                try clear hfz10_5
                try clear hfz14_0
                try clear hfz14_1
                try clear hfz14_2
                try clear hfz14_3
                try clear hfz14_4
                try clear hfz14_5
                try clear hfz5_0
                try clear hfz5_1
                try clear hfz5_2
                try clear hfz5_3
                try clear hfz5_4
                try clear hfz5_5
                try clear hfz8_0
                try clear hfz8_1
                try clear hfz8_2
                try clear hfz8_3
                try clear hfz8_4
                try clear hfz8_5
                try clear hx155_0
                try clear p155
                try clear p2
                try clear q155
                obtain ⟨x6_2, x7_2, rfl, rfl, HA, HK2, BK154, HB⟩ := hrel
                cases gk with
                | zero => exact absurd HA.out (by simp [snapferryref03_Read.l0])
                | succ k2 =>
                  have H := HA.out
                  clear HA
                  simp only [snapferryref03_Read.l0] at H
                  by_cases c15 : x7_2 < (l0_1.length : Int)
                  · rw [if_pos c15] at H
                    have c15b0 : decide (x7_2 < (l0_1.length : Int)) = true := decide_eq_true c15
                    clear c15
                    by_cases c16 : 0 ≤ x7_2
                    · rw [if_pos c16] at H
                      have c16b0 : decide (0 ≤ x7_2) = true := decide_eq_true c16
                      clear c16
                      by_cases c17 : ((rd_T75 l0_1 x7_2).f0) = a1
                      · rw [if_pos c17] at H
                        have c17b0 : (((rd_T75 l0_1 x7_2).f0) == a1) = true := beq_iff_eq.mpr c17
                        have c17b1 : (((rd_T75 l0_1 x7_2).f0) != a1) = false := bne_eq_false_iff_eq.mpr c17
                        clear c17
                        have H' := Aside0.mk H
                        clear H
                        have hcz18_0 : wr.cell? ⟨gb154, 0, none⟩ = some (.slice (some ad155) l0_0.length c0_0) := (blk_cell BK154.out 0).trans rfl
                        have hcz18_1 : wr.cell? ⟨gb154, 1, none⟩ = some (.slice A0_1 l0_1.length c0_1) := (blk_cell BK154.out 1).trans rfl
                        have hcz18_2 : wr.cell? ⟨gb154, 2, none⟩ = some (.int .i64 a0_2) := (blk_cell BK154.out 2).trans rfl
                        have hcz18_3 : wr.cell? ⟨gb154, 3, none⟩ = some (.int .u64 a0_3) := (blk_cell BK154.out 3).trans rfl
                        have hcz18_4 : wr.cell? ⟨gb154, 4, none⟩ = some (.int .i64 a0_4) := (blk_cell BK154.out 4).trans rfl
                        have hcz18_5 : wr.cell? ⟨gb154, 5, none⟩ = some (.bool false) := (blk_cell BK154.out 5).trans rfl
                        have hfz18_0 := blk_frozen BK154.out 0
                        have hfz18_1 := blk_frozen BK154.out 1
                        have hfz18_2 := blk_frozen BK154.out 2
                        have hfz18_3 := blk_frozen BK154.out 3
                        have hfz18_4 := blk_frozen BK154.out 4
                        have hfz18_5 := blk_frozen BK154.out 5
                        have p156 : 0 ≤ (x7_2 : Int) := of_decide_eq_true (by first | (with_reducible assumption) | assumption)
                        have q156 : x7_2 < (l0_1.length : Int) := of_decide_eq_true (by first | (with_reducible assumption) | assumption)
                        obtain ⟨ad156, e156, hx156_0, hx156_1⟩ := at_T75 HR0_1.out x7_2 p156 q156
                        cases e156
                        replace hx156_0 := (HB.out.cell (World.block_lt_of_cell? w _ hx156_0)).trans hx156_0
                        replace hx156_1 := (HB.out.cell (World.block_lt_of_cell? w _ hx156_1)).trans hx156_1
                        replace p156 := eq_true p156
                        replace q156 := eq_true q156
                        have p157 : 0 ≤ (x7_2 : Int) := of_decide_eq_true (by first | (with_reducible assumption) | assumption)
                        have q157 : x7_2 < (l0_1.length : Int) := of_decide_eq_true (by first | (with_reducible assumption) | assumption)
                        obtain ⟨ad157, e157, hx157_0, hx157_1⟩ := at_T75 HR0_1.out x7_2 p157 q157
                        obtain rfl : ad156 = ad157 := (by injection e157)
                        replace hx157_0 := (HB.out.cell (World.block_lt_of_cell? w _ hx157_0)).trans hx157_0
                        replace hx157_1 := (HB.out.cell (World.block_lt_of_cell? w _ hx157_1)).trans hx157_1
                        replace p157 := eq_true p157
                        replace q157 := eq_true q157
                        go_wp2
                        go_roundg k2
                        case measure => have := HJ5.out; have := HK2.out; omega
                        case rel => exact ⟨((rd_T75 l0_1 x7_2).f1), (wrap64 (x7_2 + 1)), (by first | rfl | (simp; done) | (simp [*]; done)), (by first | rfl | (simp; done) | (simp [*]; done)), H', ⟨by have := HJ5.out; have := HK2.out; omega⟩, ⟨by (with_reducible repeat (first | refine blk_drewN ?_ _ | refine blk_drew ?_ | refine blk_alloc ?_ _)); exact BK154.out⟩, ⟨by repeat (first | (with_reducible first | exact HB.out | apply below_alloc | apply pw_below_drewN | apply below_drew1 | refine below_set ?_ GE154.out) | exact HB.out)⟩⟩
                      · rw [if_neg c17] at H
                        have c17b0 : (((rd_T75 l0_1 x7_2).f0) == a1) = false := beq_eq_false_iff_ne.mpr c17
                        have c17b1 : (((rd_T75 l0_1 x7_2).f0) != a1) = true := bne_iff_ne.mpr c17
                        have H' := Aside0.mk H
                        clear H
                        have hcz19_0 : wr.cell? ⟨gb154, 0, none⟩ = some (.slice (some ad155) l0_0.length c0_0) := (blk_cell BK154.out 0).trans rfl
                        have hcz19_1 : wr.cell? ⟨gb154, 1, none⟩ = some (.slice A0_1 l0_1.length c0_1) := (blk_cell BK154.out 1).trans rfl
                        have hcz19_2 : wr.cell? ⟨gb154, 2, none⟩ = some (.int .i64 a0_2) := (blk_cell BK154.out 2).trans rfl
                        have hcz19_3 : wr.cell? ⟨gb154, 3, none⟩ = some (.int .u64 a0_3) := (blk_cell BK154.out 3).trans rfl
                        have hcz19_4 : wr.cell? ⟨gb154, 4, none⟩ = some (.int .i64 a0_4) := (blk_cell BK154.out 4).trans rfl
                        have hcz19_5 : wr.cell? ⟨gb154, 5, none⟩ = some (.bool false) := (blk_cell BK154.out 5).trans rfl
                        have hfz19_0 := blk_frozen BK154.out 0
                        have hfz19_1 := blk_frozen BK154.out 1
                        have hfz19_2 := blk_frozen BK154.out 2
                        have hfz19_3 := blk_frozen BK154.out 3
                        have hfz19_4 := blk_frozen BK154.out 4
                        have hfz19_5 := blk_frozen BK154.out 5
                        have p156 : 0 ≤ (x7_2 : Int) := of_decide_eq_true (by first | (with_reducible assumption) | assumption)
                        have q156 : x7_2 < (l0_1.length : Int) := of_decide_eq_true (by first | (with_reducible assumption) | assumption)
                        obtain ⟨ad156, e156, hx156_0, hx156_1⟩ := at_T75 HR0_1.out x7_2 p156 q156
                        cases e156
                        replace hx156_0 := (HB.out.cell (World.block_lt_of_cell? w _ hx156_0)).trans hx156_0
                        replace hx156_1 := (HB.out.cell (World.block_lt_of_cell? w _ hx156_1)).trans hx156_1
                        replace p156 := eq_true p156
                        replace q156 := eq_true q156
                        go_wp2
                        go_roundg k2
                        case measure => have := HJ5.out; have := HK2.out; omega
                        case rel => exact ⟨(x6_2), (wrap64 (x7_2 + 1)), (by first | rfl | (simp; done) | (simp [*]; done)), (by first | rfl | (simp; done) | (simp [*]; done)), H', ⟨by have := HJ5.out; have := HK2.out; omega⟩, ⟨by (with_reducible repeat (first | refine blk_drewN ?_ _ | refine blk_drew ?_ | refine blk_alloc ?_ _)); exact BK154.out⟩, ⟨by repeat (first | (with_reducible first | exact HB.out | apply below_alloc | apply pw_below_drewN | apply below_drew1 | refine below_set ?_ GE154.out) | exact HB.out)⟩⟩
                    · rw [if_neg c16] at H
                      exact absurd H (by simp)
                  · rw [if_neg c15] at H
                    have c15b0 : decide (x7_2 < (l0_1.length : Int)) = false := decide_eq_false c15
                    clear c15
                    simp only [Option.some.injEq, Prod.mk.injEq] at H
                    obtain ⟨rfl, rfl⟩ := H
                    have hcz20_0 : wr.cell? ⟨gb154, 0, none⟩ = some (.slice (some ad155) l0_0.length c0_0) := (blk_cell BK154.out 0).trans rfl
                    have hcz20_1 : wr.cell? ⟨gb154, 1, none⟩ = some (.slice A0_1 l0_1.length c0_1) := (blk_cell BK154.out 1).trans rfl
                    have hcz20_2 : wr.cell? ⟨gb154, 2, none⟩ = some (.int .i64 a0_2) := (blk_cell BK154.out 2).trans rfl
                    have hcz20_3 : wr.cell? ⟨gb154, 3, none⟩ = some (.int .u64 a0_3) := (blk_cell BK154.out 3).trans rfl
                    have hcz20_4 : wr.cell? ⟨gb154, 4, none⟩ = some (.int .i64 a0_4) := (blk_cell BK154.out 4).trans rfl
                    have hcz20_5 : wr.cell? ⟨gb154, 5, none⟩ = some (.bool false) := (blk_cell BK154.out 5).trans rfl
                    have hfz20_0 := blk_frozen BK154.out 0
                    have hfz20_1 := blk_frozen BK154.out 1
                    have hfz20_2 := blk_frozen BK154.out 2
                    have hfz20_3 := blk_frozen BK154.out 3
                    have hfz20_4 := blk_frozen BK154.out 4
                    have hfz20_5 := blk_frozen BK154.out 5
                    go_wp2
                    go_ret2
                    exact ⟨by first | rfl | (simp [errW_none, errW_some] <;> rfl) | (simp [*, errW_none, errW_some] <;> rfl), by repeat (first | (with_reducible first | exact HB.out | apply below_alloc | apply pw_below_drewN | apply below_drew1 | refine below_set ?_ GE154.out) | exact HB.out)⟩
            · rw [if_neg c13] at H
              exact absurd H (by simp)
          · rw [if_neg c12] at H
            exact absurd H (by simp)

end Go.Proofs.Ytehodgcfejkomaa.Q
