/- awake of 05: its walk. -/
import Derived.Test.YtcnlcmkhfdpidaaFew
namespace Go.Proofs.Ytcnlcmkhfdpidaa.Grid
set_option linter.unusedVariables false
set_option linter.unusedSimpArgs false
open Go.RowKit Go.Proofs.Ytcnlcmkhfdpidaa.Q Go.Proofs.YtcnlcmkhfdpidaaW.PrintWords Go.Proofs.YtcnlcmkhfdpidaaW.PrintLast Go.Proofs.YtcnlcmkhfdpidaaW.PrintMore
def tA : ByteArray := ⟨#[97]⟩
def tB : ByteArray := ⟨#[98]⟩
def tC : ByteArray := ⟨#[99]⟩
def tD : ByteArray := ⟨#[100]⟩
theorem awake_path : path [tA, tB, tC] [tA, tC, tD] = [(1, 1), (1, 0), (1, 1), (0, 1)] := by kernel_rfl
theorem awake_app : app [tA, tB, tC] [(1, 1), (1, 0), (1, 1), (0, 1)] [tD] = some [tA, tC, tD] := rfl
theorem awake_app2 : app [tA, tB, tC] [(1, 1), (1, 0), (1, 1), (0, 1)] [] = none := rfl
theorem awake_cms : cms [tA, tC, tD] 0 [(1, 1), (1, 0), (1, 1), (0, 1)] = [tD] := rfl
theorem awake_same : same [(1, 1), (1, 0), (1, 1), (0, 1)] = 2 := rfl
theorem lit_strs (w : World) (l : List ByteArray) (hl : l.length ≤ 1000) : Kd.C Kd.string (w.alloc (.cells (l.map Value.string).toArray 9)) (some ⟨w.heap.size, 0, none⟩) l.length l := by
  refine ⟨rfl, by omega, fun _ => ⟨_, rfl, fun j p hj => ⟨[.string p], rfl, rfl, fun i u hu => ?_⟩⟩⟩
  cases i with
  | succ i => simp at hu
  | zero =>
    obtain rfl : .string p = u := by simpa using hu
    have h := blk_cell (blk_new w (.cells (l.map Value.string).toArray 9)) j
    have e : (⟨w.heap.size, 0, none⟩ : Addr).add (j * Kd.string.sz + 0) = ⟨w.heap.size, j, none⟩ := by
      rw [show Kd.string.sz = 1 from rfl, Nat.mul_one, Nat.add_zero]
      unfold Addr.add
      split
      · rename_i h0; rw [h0]
      · show (⟨_, _, _⟩ : Addr) = _
        rw [Nat.zero_add]
    rw [e, h]
    simp [hj]
set_option maxRecDepth 100000 in
set_option maxHeartbeats 8000000 in
theorem awake (w : World) : Calls Try.prog 8 #[] w fun e w' => e = .returned (.bool true) ∧ Below w.heap.size w w' := by
  go_enter Try.func8, Try.ntmps8
  go_wp2_with fail
  have HA0 := Aside0.mk (show Kd.C Kd.string (w.alloc (.cells #[.string tA, .string tB, .string tC] 9)) (some ⟨w.heap.size, 0, none⟩) 3 [tA, tB, tC] from lit_strs w [tA, tB, tC] (by decide))
  have HB0 := Aside0.mk (show Kd.C Kd.string ((w.alloc (.cells #[.string tA, .string tB, .string tC] 9)).alloc (.cells #[.string tA, .string tC, .string tD] 9)) (some ⟨w.heap.size + 1, 0, none⟩) 3 [tA, tC, tD] from by
    have h := lit_strs (w.alloc (.cells #[.string tA, .string tB, .string tC] 9)) [tA, tC, tD] (by decide)
    rw [World.size_alloc] at h
    exact h)
  have HA1 := Aside0.mk (Kd.C_alloc HA0.out (.cells #[.string tA, .string tC, .string tD] 9))
  have HW := Aside0.mk (below_alloc (below_alloc (Below.refl w.heap.size w) (.cells #[.string tA, .string tB, .string tC] 9)) (.cells #[.string tA, .string tC, .string tD] 9))
  change Calls _ _ _ ((w.alloc (.cells #[.string tA, .string tB, .string tC] 9)).alloc (.cells #[.string tA, .string tC, .string tD] 9)) _
  clear HA0
  generalize (w.alloc (.cells #[.string tA, .string tB, .string tC] 9)).alloc (.cells #[.string tA, .string tC, .string tD] 9) = w1 at *
  generalize hA : w.heap.size + 1 = kb at *
  refine (Path (some ⟨w.heap.size, 0, none⟩) 3 [tA, tB, tC] (some ⟨kb, 0, none⟩) 3 [tA, tC, tD] w1 HA1.out HB0.out (by decide) (by decide)).mono ?_
  rintro e w2 ⟨⟨v2, rfl, hp⟩, hb⟩
  rw [awake_path] at hp
  have hst : ∀ s ∈ ([(1, 1), (1, 0), (1, 1), (0, 1)] : List Stp), IsStep s := by
    rw [← awake_path]
    exact path_steps _ _
  have HSTP := Aside0.mk hst
  obtain ⟨A2, c2, rfl⟩ := Kd.R_slice hp
  have HP2 := Aside0.mk (Kd.R_reads' hp).2.2
  have HA2 := Aside0.mk (Kd.C_below HA1.out hb)
  have HB2 := Aside0.mk (Kd.C_below HB0.out hb)
  have HW2 := Aside0.mk (below_step HW.out hb)
  clear hp hb hst HA1 HB0 HW
  go_wp2_with fail
  have HD := Aside0.mk (show Kd.C Kd.string (w2.alloc (.cells #[.string tD] 9)) (some ⟨w2.heap.size, 0, none⟩) 1 [tD] from lit_strs w2 [tD] (by decide))
  have HA3 := Aside0.mk (Kd.C_alloc HA2.out (.cells #[.string tD] 9))
  have HB3 := Aside0.mk (Kd.C_alloc HB2.out (.cells #[.string tD] 9))
  have HP3 := Aside0.mk (Kd.C_alloc HP2.out (.cells #[.string tD] 9))
  have HW3 := Aside0.mk (below_alloc HW2.out (.cells #[.string tD] 9))
  change Calls _ _ _ (w2.alloc (.cells #[.string tD] 9)) _
  clear HA2 HB2 HP2 HW2
  generalize w2.alloc (.cells #[.string tD] 9) = w3 at *
  refine (Apply (some ⟨w.heap.size, 0, none⟩) 3 [tA, tB, tC] A2 c2 [(1, 1), (1, 0), (1, 1), (0, 1)] (some ⟨w2.heap.size, 0, none⟩) 1 [tD] w3 HA3.out (by decide) HP3.out HD.out (by decide) (by decide) HSTP.out (by decide) (by decide)).mono ?_
  rw [awake_app]
  rintro e w4 ⟨⟨v4, rfl, hr4⟩, hb⟩
  obtain ⟨A4, c4, rfl⟩ := Kd.R_slice hr4
  have HR4c := Aside0.mk (show ([tA, tC, tD] : List ByteArray).length ≤ c4 from (Kd.R_reads' hr4).2.1)
  have HR4 := Aside0.mk (Kd.R_reads' hr4).2
  have HA4 := Aside0.mk (Kd.C_below HA3.out hb)
  have HB4 := Aside0.mk (Kd.C_below HB3.out hb)
  have HP4 := Aside0.mk (Kd.C_below HP3.out hb)
  have HW4 := Aside0.mk (below_step HW3.out hb)
  clear HA3 HB3 HP3 HW3 HD hr4 hb
  go_wp2_with fail
  refine (Apply (some ⟨w.heap.size, 0, none⟩) 3 [tA, tB, tC] A2 c2 [(1, 1), (1, 0), (1, 1), (0, 1)] none 0 [] w4 HA4.out (by decide) HP4.out (Kd.C_nil _ _) (by decide) (by decide) HSTP.out (by decide) (by decide)).mono ?_
  rw [awake_app2]
  rintro e w5 ⟨rfl, hb⟩
  have HR5 := Aside0.mk (Kd.C_below HR4.out.2 hb)
  have HA5 := Aside0.mk (Kd.C_below HA4.out hb)
  have HB5 := Aside0.mk (Kd.C_below HB4.out hb)
  have HP5 := Aside0.mk (Kd.C_below HP4.out hb)
  have HW5 := Aside0.mk (below_step HW4.out hb)
  clear HA4 HB4 HP4 HW4 hb
  go_wp2_with fail
  have HXY := Aside0.mk (show ∀ i, i ≤ 4 → px [(1, 1), (1, 0), (1, 1), (0, 1)] i < 69 ∧ py [(1, 1), (1, 0), (1, 1), (0, 1)] i < 69 from by decide)
  refine (Points A2 c2 [(1, 1), (1, 0), (1, 1), (0, 1)] w5 HP5.out (by decide) HSTP.out HXY.out).mono ?_
  rw [show pts [(1, 1), (1, 0), (1, 1), (0, 1)] ([(1, 1), (1, 0), (1, 1), (0, 1)] : List Stp).length = [(0, 0), (1, 1), (2, 1), (3, 2), (3, 3)] by decide]
  rintro e w6 ⟨v6, rfl, hr6, hb⟩
  obtain ⟨A6, c6, rfl⟩ := Kd.R_slice hr6
  have HR6 := Aside0.mk (Kd.R_reads' hr6).2.2
  have HR5b := Aside0.mk (Kd.C_below HR5.out hb)
  have HB6 := Aside0.mk (Kd.C_below HB5.out hb)
  have HP6 := Aside0.mk (Kd.C_below HP5.out hb)
  have HW6 := Aside0.mk (below_step HW5.out hb)
  clear HA5 HB5 HP5 HW5 HR5 hb hr6
  go_wp2_with fail
  refine (Comes (some ⟨kb, 0, none⟩) 3 [tA, tC, tD] A2 c2 [(1, 1), (1, 0), (1, 1), (0, 1)] w6 HB6.out HP6.out (by decide) (by decide) HSTP.out HXY.out).mono ?_
  rw [awake_cms]
  rintro e w7 ⟨v7, rfl, hr7, hb⟩
  obtain ⟨A7, c7, rfl⟩ := Kd.R_slice hr7
  have HR7 := Aside0.mk (Kd.R_reads' hr7).2.2
  have HR6b := Aside0.mk (Kd.C_below HR6.out hb)
  have HR4b := Aside0.mk (Kd.C_below HR5b.out hb)
  have HB7 := Aside0.mk (Kd.C_below HB6.out hb)
  have HP7 := Aside0.mk (Kd.C_below HP6.out hb)
  have HW7 := Aside0.mk (below_step HW6.out hb)
  clear HR6 HR5b HB6 HP6 HW6 hb hr7
  obtain ⟨ad2, e1, hx0⟩ := at_step HP7.out 0 (by decide)
  obtain ⟨a1, e2, hx1⟩ := at_step HP7.out 1 (by decide)
  obtain ⟨a2, e3, hx2⟩ := at_step HP7.out 2 (by decide)
  obtain ⟨a3, e4, hx3⟩ := at_step HP7.out 3 (by decide)
  cases e1
  cases e2
  cases e3
  cases e4
  obtain ⟨ad6, e5, hx4⟩ := at_step HR6b.out 4 (by decide)
  cases e5
  obtain ⟨ad7, e6, hx5⟩ := str_head HR7.out
  cases e6
  rw [show ([(1, 1), (1, 0), (1, 1), (0, 1)] : List Stp).getD 0 (0, 0) = (1, 1) from rfl, encS_stay] at hx0
  rw [show ([(1, 1), (1, 0), (1, 1), (0, 1)] : List Stp).getD 1 (0, 0) = (1, 0) from rfl, encS_goes] at hx1
  rw [show ([(1, 1), (1, 0), (1, 1), (0, 1)] : List Stp).getD 2 (0, 0) = (1, 1) from rfl, encS_stay] at hx2
  rw [show ([(1, 1), (1, 0), (1, 1), (0, 1)] : List Stp).getD 3 (0, 0) = (0, 1) from rfl, encS_come] at hx3
  rw [show ([(0, 0), (1, 1), (2, 1), (3, 2), (3, 3)] : List Stp).getD 4 (0, 0) = (3, 3) from rfl, show encS (3, 3) = .complex .f64 4613937818241073152 4613937818241073152 by kernel_rfl] at hx4
  have z0 : w7.cell? ad2 = _ := hx0
  have z1 : w7.cell? ⟨ad2.block, ad2.off + 1, none⟩ = _ := hx1
  have z2 : w7.cell? ⟨ad2.block, ad2.off + 2, none⟩ = _ := hx2
  have z3 : w7.cell? ⟨ad2.block, ad2.off + 3, none⟩ = _ := hx3
  have z4 : w7.cell? ⟨ad6.block, ad6.off + 4, none⟩ = _ := hx4
  have z5 : w7.cell? ad7 = _ := hx5
  clear hx0 hx1 hx2 hx3 hx4 hx5
  have o11 := ord11
  have o10 := ord10
  have o01 := ord01
  have o00 := ord00
  have o33 : FloatKind.f64.format.order 4613937818241073152 4613937818241073152 = some .eq := by kernel_rfl
  go_wp2_with fail
  refine (Texts A4 c4 [tA, tC, tD] (some ⟨kb, 0, none⟩) 3 [tA, tC, tD] w7 HR4b.out HR4c.out HB7.out (by decide)).mono ?_
  rintro e w8 ⟨rfl, hd8⟩
  rw [decide_eq_true (rfl : [tA, tC, tD] = [tA, tC, tD])]
  have HW8 := Aside0.mk (below_step HW7.out hd8.below)
  have y4 := (hd8.below.cell (World.block_lt_of_cell? w7 _ z4)).trans z4
  have y5 := (hd8.below.cell (World.block_lt_of_cell? w7 _ z5)).trans z5
  have HP8 := Aside0.mk (Kd.C_below HP7.out hd8.below)
  clear hd8 HW7 z0 z1 z2 z3 z4 z5 HP7 HB7 HR4b HR6b HR7
  go_wp2_with fail
  refine (Same (some ad2) c2 [(1, 1), (1, 0), (1, 1), (0, 1)] w8 HP8.out (by decide) HSTP.out).mono ?_
  rw [awake_same]
  rintro e w9 ⟨rfl, rfl⟩
  go_wp2_with fail
  rw [show (tD.toList == [100]) = true by kernel_rfl]
  go_ret
  exact ⟨rfl, HW8.out⟩
end Go.Proofs.Ytcnlcmkhfdpidaa.Grid
