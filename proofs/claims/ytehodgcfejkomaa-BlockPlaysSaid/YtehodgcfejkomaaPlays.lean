/- BlockPlays: the walk of its body: for every input it returns true, and makes memory alone. No condition. -/
import Derived.Test.YtehodgcfejkomaaRef
import Derived.Test.YtehodgcfejkomaaOpen
import Derived.Test.YtehodgcfejkomaaMays
import Derived.Deep.DeepCutAuto
namespace Go.Proofs.Ytehodgcfejkomaa.Disk
set_option linter.unusedVariables false
set_option linter.unusedSimpArgs false
open Go.RowKit Go.Proofs.Ytehodgcfejkomaa.Q Go.Proofs.YtehodgcfejkomaaW.PrintWords Go.Proofs.YtehodgcfejkomaaW.PrintLast Go.Proofs.YtehodgcfejkomaaW.PrintMore
theorem rd33_mem' (l : List S33) (i : Nat) (h : i < l.length) : rd_T33 l (i : Int) ∈ l := by
  unfold rd_T33
  rw [List.getD_eq_getElem?_getD, Int.toNat_natCast, List.getElem?_eq_getElem h]
  exact List.getElem_mem h
/-- Both disks, beside each other. -/
def Both (w0 w : World) (g b m : Nat) (z n : Nat) (D : Dk) : Prop := ∃ (Au : Option Addr) (cu : Nat) (Av : Option Addr) (cv : Nat) (ls : List ByteArray), Disk w0 w g b D ∧ Rf w0 w m (.slice Au ls.length cu) (.slice Av D.wait.length cv) D ls ∧ Sm D ls z n
set_option maxRecDepth 100000 in
set_option maxHeartbeats 32000000 in
theorem plays_walk (z : Nat) (A0 : Option Addr) (c0 : Nat) (l : List S33) (w : World) (hr : Kd.C k33 w A0 l.length l) (hc : l.length ≤ c0) (k : Nat) (hk : snapferrylaw03_Few.f k l = some true) (hl : l.length ≤ 200)
    (hz1 : 1 ≤ z) (hz2 : z ≤ 100) (hok : ∀ y ∈ l, Open.ActOk y) :
    Calls Try.prog 6 #[.int .i64 (z : Int), .slice A0 l.length c0] w fun e w' => e = .returned (.bool true) ∧ Below w.heap.size w w' := by
  have hu33 := Try.underlying33
  have hu31 := Try.underlying31
  have hu49 := Try.underlying49
  have a1 : decide (100 < (z : Int)) = false := decide_eq_false (by omega)
  have a2 : decide ((z : Int) < 1) = false := decide_eq_false (by omega)
  have a3 : decide (8192 < (z : Int)) = false := decide_eq_false (by omega)
  have n1 : decide (100 < z) = false := decide_eq_false (by omega)
  have n2 : decide (z < 1) = false := decide_eq_false (by omega)
  have n3 : decide (8192 < z) = false := decide_eq_false (by omega)
  have HR := Aside0.mk hr
  have HC := Aside0.mk hc
  have HK := Aside0.mk hk
  have HOK := Aside0.mk hok
  clear hr hc hk hok
  go_enter Try.func6, Try.ntmps6
  go_wp2_with fail
  refine (awake _).mono ?_
  rintro e w1 ⟨rfl, hb1⟩
  have HB1 := Aside0.mk hb1
  clear hb1
  go_wp2_with fail
  refine (snapferrylaw03_Few.calls k _ _ l true _ (Kd.C_below HR.out HB1.out) HC.out HK.out).mono ?_
  rintro e w2 ⟨rfl, hd⟩
  have HB2 := Aside0.mk (show Below w.heap.size w w2 by obtain ⟨n, rfl⟩ := hd.out; exact pw_below_drewN HB1.out n)
  clear hd HB1
  go_wp2_with fail
  refine (New HB2.out (z : Int) (by omega) (by omega)).mono ?_
  rintro e w3 ⟨rfl, hd3, hb3⟩
  have HD := Aside0.mk hd3
  clear hd3 hb3
  generalize w2.heap.size + 1 = g at *
  generalize w2.heap.size = b at *
  go_wp2_with fail
  refine (RNew (w0 := w) hz1 (by omega) HD.out.below).mono ?_
  rintro e w4 ⟨Au, cu, Av, cv, ls, rfl, hsm, hbk⟩
  have HS := Aside0.mk hsm
  have HBK := Aside0.mk hbk
  have HD4 := Aside0.mk (HD.out.keptR hbk.kept hbk.below)
  clear hsm hbk HD HB2
  generalize newD (z : Int) = D0 at *
  go_wp2_with fail
  have HBO := Aside0.mk (show Both w (w4.alloc (.cells (cellsM (.slice Au ls.length cu) (.slice Av D0.wait.length cv) D0) 49)) g b w4.heap.size z 0 D0 from
    ⟨Au, cu, Av, cv, ls, HD4.out.step (below_alloc (Below.refl _ _) _), ⟨blk_new _ _, HD4.out.below.size, Kd.R_below HBK.out.ls (below_alloc (Below.refl _ _) _), Kd.R_below HBK.out.ws (below_alloc (Below.refl _ _) _)⟩, HS.out⟩)
  unfold cellsM at HBO
  clear HS HBK HD4
  generalize w4.alloc (.cells #[.slice Au ls.length cu, .slice Av D0.wait.length cv, .int .i64 D0.at_, .int .u64 D0.keep, .int .i64 D0.count, .bool D0.down] 49) = W5 at *
  generalize w4.heap.size = m at *
  go_loopg [8] l.length (fun kq v8 wr => ∃ i : Nat, v8 = .int .i64 i ∧ Aside0 (i + kq = l.length ∧ ∃ D, Both w wr g b m z (2 * i) D))
  case atStart => exact ⟨0, rfl, ⟨Nat.zero_add _, D0, HBO.out⟩⟩
  case round =>
    obtain ⟨i, rfl, HA⟩ := hrel
    clear HBO
    by_cases c2 : i < l.length
    · have c2b : decide ((i : Int) < (l.length : Int)) = true := decide_eq_true (by omega)
      have c2n : decide (i < l.length) = true := decide_eq_true c2
      obtain ⟨hkk, D, Bu, du, Bv, dv, ls1, hd, hrf, hsm⟩ := HA.out
      have hib : i < 200 := by omega
      have HI := Aside0.mk c2
      obtain ⟨ad, e1, hx0_, hx1_, hx2_, hx3_, hx4_⟩ := at_T33 HR.out (i : Int) (by omega) (by omega)
      cases e1
      have y0 := Aside0.mk (show w.cell? (ad.add (i * 5)) = some (.int .i64 (rd_T33 l (i : Int)).f0) from hx0_)
      have y1 := Aside0.mk (show w.cell? ⟨(ad.add (i * 5)).block, (ad.add (i * 5)).off + 1, none⟩ = some (.int .i64 (rd_T33 l (i : Int)).f1) from hx1_)
      have y2 := Aside0.mk (show w.cell? ⟨(ad.add (i * 5)).block, (ad.add (i * 5)).off + 2, none⟩ = some (.string (rd_T33 l (i : Int)).f2) from hx2_)
      have y3 := Aside0.mk (show w.cell? ⟨(ad.add (i * 5)).block, (ad.add (i * 5)).off + 3, none⟩ = some (.int .i64 (rd_T33 l (i : Int)).f3.f0) from hx3_)
      have y4 := Aside0.mk (show w.cell? ⟨(ad.add (i * 5)).block, (ad.add (i * 5)).off + 4, none⟩ = some (.int .u64 (rd_T33 l (i : Int)).f3.f1) from hx4_)
      have LT0 := Aside0.mk (show (ad.add (i * 5)).block < w.heap.size from World.block_lt_of_cell? w _ hx0_)
      have p104 := eq_true (show 0 ≤ (i : Int) by omega)
      have q104 := eq_true (show i < l.length by omega)
      have HYK := Aside0.mk (HOK.out _ (rd33_mem' l i (by omega)))
      clear hx0_ hx1_ hx2_ hx3_ hx4_
      generalize rd_T33 l (i : Int) = Y at *
      obtain ⟨Yk, Yx, Ys, ⟨Yca, Yck⟩⟩ := Y
      dsimp only at y0 y1 y2 y3 y4
      have z0 := (hd.below.cell LT0.out).trans y0.out
      have z1 := (Below.cell hd.below (p := ⟨(ad.add (i * 5)).block, (ad.add (i * 5)).off + 1, none⟩) LT0.out).trans y1.out
      have z2 := (Below.cell hd.below (p := ⟨(ad.add (i * 5)).block, (ad.add (i * 5)).off + 2, none⟩) LT0.out).trans y2.out
      have z3 := (Below.cell hd.below (p := ⟨(ad.add (i * 5)).block, (ad.add (i * 5)).off + 3, none⟩) LT0.out).trans y3.out
      have z4 := (Below.cell hd.below (p := ⟨(ad.add (i * 5)).block, (ad.add (i * 5)).off + 4, none⟩) LT0.out).trans y4.out
      have HD1 := Aside0.mk (hd.step (below_alloc (Below.refl wr.heap.size wr) (.cells #[.int .i64 Yk, .int .i64 Yx, .string Ys, .int .i64 Yca, .int .u64 Yck] 33)))
      have HR1 := Aside0.mk (hrf.step (below_alloc (Below.refl wr.heap.size wr) (.cells #[.int .i64 Yk, .int .i64 Yx, .string Ys, .int .i64 Yca, .int .u64 Yck] 33)))
      have HS1 := Aside0.mk hsm
      have HAB := Aside0.mk (blk_new wr (.cells #[.int .i64 Yk, .int .i64 Yx, .string Ys, .int .i64 Yca, .int .u64 Yck] 33))
      have HF1 := Aside0.mk hsm.fit
      have HKP := Aside0.mk (Go.bounds_u64 HYK.out.ck)
      clear hkk hd hrf hsm c2
      go_upto_block 2 with (fail)
      clear z0 z1 z2 z3 z4
      generalize wr.alloc (.cells #[.int .i64 Yk, .int .i64 Yx, .string Ys, .int .i64 Yca, .int .u64 Yck] 33) = Wa at *
      generalize wr.heap.size = ab at *
      have z1 : Wa.cell? ⟨ab, 1, none⟩ = some (.int .i64 Yx) := blk_cell HAB.out 1
      have z2 : Wa.cell? ⟨ab, 2, none⟩ = some (.string Ys) := blk_cell HAB.out 2
      have z3 : Wa.cell? ⟨ab, 3, none⟩ = some (.int .i64 Yca) := blk_cell HAB.out 3
      have z4 : Wa.cell? ⟨ab, 4, none⟩ = some (.int .u64 Yck) := blk_cell HAB.out 4
      go_cut [10, 11] (fun s10 s11 wx => ∃ F : Int, s10 = .int .i64 F ∧ s11 = .int .i64 F ∧ Aside0 (∃ D', Both w wx g b m z (2 * i + 2) D'))
      case first =>
        by_cases q0 : Yk = 0
        · have e0 : (Yk == 0) = true := beq_iff_eq.2 (by omega)
          clear q0
          go_wp2_with fail
          refine (Write HD1.out HF1.out (by omega) Yx Ys).mono ?_
          rintro e w6 ⟨rfl, hd6, hk6⟩
          have HD6 := Aside0.mk hd6
          have HR6 := Aside0.mk (HR1.out.keeps hk6)
          have HA6 := Aside0.mk (hk6.cells HAB.out (by decide) (by decide))
          clear hd6 hk6 z1 z2 z3 z4
          have z1 : w6.cell? ⟨ab, 1, none⟩ = some (.int .i64 Yx) := blk_cell HA6.out 1
          have z2 : w6.cell? ⟨ab, 2, none⟩ = some (.string Ys) := blk_cell HA6.out 2
          have m0 : w6.cell? ⟨m, 0, none⟩ = some (.slice Bu ls1.length du) := blk_cell HR6.out.blk 0
          have m1 : w6.cell? ⟨m, 1, none⟩ = some (.slice Bv D.wait.length dv) := blk_cell HR6.out.blk 1
          have m2 : w6.cell? ⟨m, 2, none⟩ = some (.int .i64 D.at_) := blk_cell HR6.out.blk 2
          have m3 : w6.cell? ⟨m, 3, none⟩ = some (.int .u64 D.keep) := blk_cell HR6.out.blk 3
          have m4 : w6.cell? ⟨m, 4, none⟩ = some (.int .i64 D.count) := blk_cell HR6.out.blk 4
          have m5 : w6.cell? ⟨m, 5, none⟩ = some (.bool D.down) := blk_cell HR6.out.blk 5
          go_wp2_with fail
          refine (RPut HR6.out HD6.out.below HS1.out (by omega) Yx Ys).mono ?_
          rintro e w7 ⟨Cu, eu, Cv, ev, ls2, rfl, hsm2, hbk2⟩
          have HS7 := Aside0.mk hsm2
          have HBK := Aside0.mk hbk2
          have HD7 := Aside0.mk (HD6.out.keptR hbk2.kept hbk2.below)
          have HM7 := Aside0.mk (KeptR.cells hbk2.kept HR6.out.blk (by decide) (by decide))
          have HR7 := Aside0.mk (hbk2.store HR6.out)
          clear hsm2 hbk2 z1 z2
          generalize writeD D Yx Ys = D7 at *
          generalize writeF D Yx Ys = F7 at *
          clear m0 m1 m2 m3 m4 m5
          have m0 : w7.cell? ⟨m, 0, none⟩ = some (.slice Bu ls1.length du) := blk_cell HM7.out 0
          have m1 : w7.cell? ⟨m, 1, none⟩ = some (.slice Bv D.wait.length dv) := blk_cell HM7.out 1
          have m2 : w7.cell? ⟨m, 2, none⟩ = some (.int .i64 D.at_) := blk_cell HM7.out 2
          have m3 : w7.cell? ⟨m, 3, none⟩ = some (.int .u64 D.keep) := blk_cell HM7.out 3
          have m4 : w7.cell? ⟨m, 4, none⟩ = some (.int .i64 D.count) := blk_cell HM7.out 4
          have m5 : w7.cell? ⟨m, 5, none⟩ = some (.bool D.down) := blk_cell HM7.out 5
          have f0 : w7.frozen? ⟨m, 0, none⟩ = false := blk_frozen HM7.out 0
          have f1 : w7.frozen? ⟨m, 1, none⟩ = false := blk_frozen HM7.out 1
          have f2 : w7.frozen? ⟨m, 2, none⟩ = false := blk_frozen HM7.out 2
          have f3 : w7.frozen? ⟨m, 3, none⟩ = false := blk_frozen HM7.out 3
          have f4 : w7.frozen? ⟨m, 4, none⟩ = false := blk_frozen HM7.out 4
          have f5 : w7.frozen? ⟨m, 5, none⟩ = false := blk_frozen HM7.out 5
          go_wp2_with fail
          go_meet
          exact ⟨F7, rfl, rfl, ⟨⟨D7, Cu, eu, Cv, ev, ls2, HD7.out.set6 HM7.out HR6.out.ge _ _ _ _ _ _, HR7.out, HS7.out⟩⟩⟩
        · by_cases q1 : Yk = 1
          · have e0 : (Yk == 0) = false := beq_eq_false_iff_ne.2 (by omega)
            have e1 : (Yk == 1) = true := beq_iff_eq.2 (by omega)
            clear q0 q1
            have HW := Aside0.mk HYK.out.at_
            go_wp2_with fail
            refine (Read HD1.out HF1.out (by omega) Yx HW.out).mono ?_
            rintro e w6 ⟨rfl, rfl⟩
            have m0 : w6.cell? ⟨m, 0, none⟩ = some (.slice Bu ls1.length du) := blk_cell HR1.out.blk 0
            have m1 : w6.cell? ⟨m, 1, none⟩ = some (.slice Bv D.wait.length dv) := blk_cell HR1.out.blk 1
            have m2 : w6.cell? ⟨m, 2, none⟩ = some (.int .i64 D.at_) := blk_cell HR1.out.blk 2
            have m3 : w6.cell? ⟨m, 3, none⟩ = some (.int .u64 D.keep) := blk_cell HR1.out.blk 3
            have m4 : w6.cell? ⟨m, 4, none⟩ = some (.int .i64 D.count) := blk_cell HR1.out.blk 4
            have m5 : w6.cell? ⟨m, 5, none⟩ = some (.bool D.down) := blk_cell HR1.out.blk 5
            have HRR := Aside0.mk (RRead HR1.out HS1.out (by omega) Yx)
            generalize readS D Yx = FS at *
            generalize readF D Yx = F7 at *
            go_wp2_with fail
            refine HRR.out.mono ?_
            rintro e w7 ⟨rfl, hb7⟩
            have HB7 := Aside0.mk hb7
            clear hb7 HRR z1 z2 z3 z4
            clear m0 m1 m2 m3 m4 m5
            have hX : (FS.toList == FS.toList) = true := beq_self_eq_true _
            go_wp2_with fail
            go_meet
            exact ⟨F7, rfl, rfl, ⟨⟨D, Bu, du, Bv, dv, ls1, HD1.out.step HB7.out, HR1.out.step HB7.out, HS1.out.mono (by omega)⟩⟩⟩
          · by_cases q2 : Yk = 2
            · have e0 : (Yk == 0) = false := beq_eq_false_iff_ne.2 (by omega)
              have e1 : (Yk == 1) = false := beq_eq_false_iff_ne.2 (by omega)
              have e2 : (Yk == 2) = true := beq_iff_eq.2 (by omega)
              clear q0 q1 q2
              go_wp2_with fail
              refine (Flush HD1.out HF1.out (by omega)).mono ?_
              rintro e w6 ⟨rfl, hd6, hk6⟩
              have HD6 := Aside0.mk hd6
              have HR6 := Aside0.mk (HR1.out.keeps hk6)
              have HA6 := Aside0.mk (hk6.cells HAB.out (by decide) (by decide))
              clear hd6 hk6 z1 z2 z3 z4
              have z1 : w6.cell? ⟨ab, 1, none⟩ = some (.int .i64 Yx) := blk_cell HA6.out 1
              have z2 : w6.cell? ⟨ab, 2, none⟩ = some (.string Ys) := blk_cell HA6.out 2
              have z3 : w6.cell? ⟨ab, 3, none⟩ = some (.int .i64 Yca) := blk_cell HA6.out 3
              have z4 : w6.cell? ⟨ab, 4, none⟩ = some (.int .u64 Yck) := blk_cell HA6.out 4
              have m0 : w6.cell? ⟨m, 0, none⟩ = some (.slice Bu ls1.length du) := blk_cell HR6.out.blk 0
              have m1 : w6.cell? ⟨m, 1, none⟩ = some (.slice Bv D.wait.length dv) := blk_cell HR6.out.blk 1
              have m2 : w6.cell? ⟨m, 2, none⟩ = some (.int .i64 D.at_) := blk_cell HR6.out.blk 2
              have m3 : w6.cell? ⟨m, 3, none⟩ = some (.int .u64 D.keep) := blk_cell HR6.out.blk 3
              have m4 : w6.cell? ⟨m, 4, none⟩ = some (.int .i64 D.count) := blk_cell HR6.out.blk 4
              have m5 : w6.cell? ⟨m, 5, none⟩ = some (.bool D.down) := blk_cell HR6.out.blk 5
              go_wp2_with fail
              refine (RFlush HR6.out HD6.out.below HS1.out (by omega)).mono ?_
              rintro e w7 ⟨Cu, eu, Cv, ev, ls2, rfl, hsm2, hbk2⟩
              have HS7 := Aside0.mk hsm2
              have HBK := Aside0.mk hbk2
              have HD7 := Aside0.mk (HD6.out.keptR hbk2.kept hbk2.below)
              have HM7 := Aside0.mk (KeptR.cells hbk2.kept HR6.out.blk (by decide) (by decide))
              have HR7 := Aside0.mk (hbk2.store HR6.out)
              clear hsm2 hbk2 z1 z2 z3 z4
              generalize flushD D = D7 at *
              generalize flushF D = F7 at *
              clear m0 m1 m2 m3 m4 m5
              have m0 : w7.cell? ⟨m, 0, none⟩ = some (.slice Bu ls1.length du) := blk_cell HM7.out 0
              have m1 : w7.cell? ⟨m, 1, none⟩ = some (.slice Bv D.wait.length dv) := blk_cell HM7.out 1
              have m2 : w7.cell? ⟨m, 2, none⟩ = some (.int .i64 D.at_) := blk_cell HM7.out 2
              have m3 : w7.cell? ⟨m, 3, none⟩ = some (.int .u64 D.keep) := blk_cell HM7.out 3
              have m4 : w7.cell? ⟨m, 4, none⟩ = some (.int .i64 D.count) := blk_cell HM7.out 4
              have m5 : w7.cell? ⟨m, 5, none⟩ = some (.bool D.down) := blk_cell HM7.out 5
              have f0 : w7.frozen? ⟨m, 0, none⟩ = false := blk_frozen HM7.out 0
              have f1 : w7.frozen? ⟨m, 1, none⟩ = false := blk_frozen HM7.out 1
              have f2 : w7.frozen? ⟨m, 2, none⟩ = false := blk_frozen HM7.out 2
              have f3 : w7.frozen? ⟨m, 3, none⟩ = false := blk_frozen HM7.out 3
              have f4 : w7.frozen? ⟨m, 4, none⟩ = false := blk_frozen HM7.out 4
              have f5 : w7.frozen? ⟨m, 5, none⟩ = false := blk_frozen HM7.out 5
              go_wp2_with fail
              go_meet
              exact ⟨F7, rfl, rfl, ⟨⟨D7, Cu, eu, Cv, ev, ls2, HD7.out.set6 HM7.out HR6.out.ge _ _ _ _ _ _, HR7.out, HS7.out.mono (by omega)⟩⟩⟩
            · by_cases q3 : Yk = 3
              · have e0 : (Yk == 0) = false := beq_eq_false_iff_ne.2 (by omega)
                have e1 : (Yk == 1) = false := beq_eq_false_iff_ne.2 (by omega)
                have e2 : (Yk == 2) = false := beq_eq_false_iff_ne.2 (by omega)
                have e3 : (Yk == 3) = true := beq_iff_eq.2 (by omega)
                clear q0 q1 q2 q3
                go_wp2_with fail
                refine (Arm HD1.out Yca Yck).mono ?_
                rintro e w6 ⟨rfl, hd6, hk6⟩
                have HD6 := Aside0.mk hd6
                have HR6 := Aside0.mk (HR1.out.keeps hk6)
                have HA6 := Aside0.mk (hk6.cells HAB.out (by decide) (by decide))
                clear hd6 hk6 z1 z2 z3 z4
                have z1 : w6.cell? ⟨ab, 1, none⟩ = some (.int .i64 Yx) := blk_cell HA6.out 1
                have z2 : w6.cell? ⟨ab, 2, none⟩ = some (.string Ys) := blk_cell HA6.out 2
                have z3 : w6.cell? ⟨ab, 3, none⟩ = some (.int .i64 Yca) := blk_cell HA6.out 3
                have z4 : w6.cell? ⟨ab, 4, none⟩ = some (.int .u64 Yck) := blk_cell HA6.out 4
                have m0 : w6.cell? ⟨m, 0, none⟩ = some (.slice Bu ls1.length du) := blk_cell HR6.out.blk 0
                have m1 : w6.cell? ⟨m, 1, none⟩ = some (.slice Bv D.wait.length dv) := blk_cell HR6.out.blk 1
                have m2 : w6.cell? ⟨m, 2, none⟩ = some (.int .i64 D.at_) := blk_cell HR6.out.blk 2
                have m3 : w6.cell? ⟨m, 3, none⟩ = some (.int .u64 D.keep) := blk_cell HR6.out.blk 3
                have m4 : w6.cell? ⟨m, 4, none⟩ = some (.int .i64 D.count) := blk_cell HR6.out.blk 4
                have m5 : w6.cell? ⟨m, 5, none⟩ = some (.bool D.down) := blk_cell HR6.out.blk 5
                go_wp2_with fail
                refine (RArm HR6.out HD6.out.below HS1.out Yca Yck HKP.out.1 (by have := HKP.out.2; omega)).mono ?_
                rintro e w7 ⟨Cu, eu, Cv, ev, ls2, rfl, hsm2, hbk2⟩
                have HS7 := Aside0.mk hsm2
                have HBK := Aside0.mk hbk2
                have HD7 := Aside0.mk (HD6.out.keptR hbk2.kept hbk2.below)
                have HM7 := Aside0.mk (KeptR.cells hbk2.kept HR6.out.blk (by decide) (by decide))
                have HR7 := Aside0.mk (hbk2.store HR6.out)
                clear hsm2 hbk2 z1 z2 z3 z4
                generalize armD D Yca Yck = D7 at *
                clear m0 m1 m2 m3 m4 m5
                have m0 : w7.cell? ⟨m, 0, none⟩ = some (.slice Bu ls1.length du) := blk_cell HM7.out 0
                have m1 : w7.cell? ⟨m, 1, none⟩ = some (.slice Bv D.wait.length dv) := blk_cell HM7.out 1
                have m2 : w7.cell? ⟨m, 2, none⟩ = some (.int .i64 D.at_) := blk_cell HM7.out 2
                have m3 : w7.cell? ⟨m, 3, none⟩ = some (.int .u64 D.keep) := blk_cell HM7.out 3
                have m4 : w7.cell? ⟨m, 4, none⟩ = some (.int .i64 D.count) := blk_cell HM7.out 4
                have m5 : w7.cell? ⟨m, 5, none⟩ = some (.bool D.down) := blk_cell HM7.out 5
                have f0 : w7.frozen? ⟨m, 0, none⟩ = false := blk_frozen HM7.out 0
                have f1 : w7.frozen? ⟨m, 1, none⟩ = false := blk_frozen HM7.out 1
                have f2 : w7.frozen? ⟨m, 2, none⟩ = false := blk_frozen HM7.out 2
                have f3 : w7.frozen? ⟨m, 3, none⟩ = false := blk_frozen HM7.out 3
                have f4 : w7.frozen? ⟨m, 4, none⟩ = false := blk_frozen HM7.out 4
                have f5 : w7.frozen? ⟨m, 5, none⟩ = false := blk_frozen HM7.out 5
                go_wp2_with fail
                go_meet
                exact ⟨0, rfl, rfl, ⟨⟨D7, Cu, eu, Cv, ev, ls2, HD7.out.set6 HM7.out HR6.out.ge _ _ _ _ _ _, HR7.out, HS7.out.mono (by omega)⟩⟩⟩
              · by_cases q4 : Yk = 4
                · have e0 : (Yk == 0) = false := beq_eq_false_iff_ne.2 (by omega)
                  have e1 : (Yk == 1) = false := beq_eq_false_iff_ne.2 (by omega)
                  have e2 : (Yk == 2) = false := beq_eq_false_iff_ne.2 (by omega)
                  have e3 : (Yk == 3) = false := beq_eq_false_iff_ne.2 (by omega)
                  have e4 : (Yk == 4) = true := beq_iff_eq.2 (by omega)
                  clear q0 q1 q2 q3 q4
                  go_wp2_with fail
                  refine (Crash HD1.out HF1.out (by omega) Yck HKP.out.1 (by have := HKP.out.2; omega)).mono ?_
                  rintro e w6 ⟨rfl, hd6, hk6⟩
                  have HD6 := Aside0.mk hd6
                  have HR6 := Aside0.mk (HR1.out.keeps hk6)
                  have HA6 := Aside0.mk (hk6.cells HAB.out (by decide) (by decide))
                  clear hd6 hk6 z1 z2 z3 z4
                  have z1 : w6.cell? ⟨ab, 1, none⟩ = some (.int .i64 Yx) := blk_cell HA6.out 1
                  have z2 : w6.cell? ⟨ab, 2, none⟩ = some (.string Ys) := blk_cell HA6.out 2
                  have z3 : w6.cell? ⟨ab, 3, none⟩ = some (.int .i64 Yca) := blk_cell HA6.out 3
                  have z4 : w6.cell? ⟨ab, 4, none⟩ = some (.int .u64 Yck) := blk_cell HA6.out 4
                  have m0 : w6.cell? ⟨m, 0, none⟩ = some (.slice Bu ls1.length du) := blk_cell HR6.out.blk 0
                  have m1 : w6.cell? ⟨m, 1, none⟩ = some (.slice Bv D.wait.length dv) := blk_cell HR6.out.blk 1
                  have m2 : w6.cell? ⟨m, 2, none⟩ = some (.int .i64 D.at_) := blk_cell HR6.out.blk 2
                  have m3 : w6.cell? ⟨m, 3, none⟩ = some (.int .u64 D.keep) := blk_cell HR6.out.blk 3
                  have m4 : w6.cell? ⟨m, 4, none⟩ = some (.int .i64 D.count) := blk_cell HR6.out.blk 4
                  have m5 : w6.cell? ⟨m, 5, none⟩ = some (.bool D.down) := blk_cell HR6.out.blk 5
                  go_wp2_with fail
                  refine (RCrash HR6.out HD6.out.below HS1.out (by omega) Yck HKP.out.1).mono ?_
                  rintro e w7 ⟨Cu, eu, Cv, ev, ls2, rfl, hsm2, hbk2⟩
                  have HS7 := Aside0.mk hsm2
                  have HBK := Aside0.mk hbk2
                  have HD7 := Aside0.mk (HD6.out.keptR hbk2.kept hbk2.below)
                  have HM7 := Aside0.mk (KeptR.cells hbk2.kept HR6.out.blk (by decide) (by decide))
                  have HR7 := Aside0.mk (hbk2.store HR6.out)
                  clear hsm2 hbk2 z1 z2 z3 z4
                  generalize crashD D Yck = D7 at *
                  clear m0 m1 m2 m3 m4 m5
                  have m0 : w7.cell? ⟨m, 0, none⟩ = some (.slice Bu ls1.length du) := blk_cell HM7.out 0
                  have m1 : w7.cell? ⟨m, 1, none⟩ = some (.slice Bv D.wait.length dv) := blk_cell HM7.out 1
                  have m2 : w7.cell? ⟨m, 2, none⟩ = some (.int .i64 D.at_) := blk_cell HM7.out 2
                  have m3 : w7.cell? ⟨m, 3, none⟩ = some (.int .u64 D.keep) := blk_cell HM7.out 3
                  have m4 : w7.cell? ⟨m, 4, none⟩ = some (.int .i64 D.count) := blk_cell HM7.out 4
                  have m5 : w7.cell? ⟨m, 5, none⟩ = some (.bool D.down) := blk_cell HM7.out 5
                  have f0 : w7.frozen? ⟨m, 0, none⟩ = false := blk_frozen HM7.out 0
                  have f1 : w7.frozen? ⟨m, 1, none⟩ = false := blk_frozen HM7.out 1
                  have f2 : w7.frozen? ⟨m, 2, none⟩ = false := blk_frozen HM7.out 2
                  have f3 : w7.frozen? ⟨m, 3, none⟩ = false := blk_frozen HM7.out 3
                  have f4 : w7.frozen? ⟨m, 4, none⟩ = false := blk_frozen HM7.out 4
                  have f5 : w7.frozen? ⟨m, 5, none⟩ = false := blk_frozen HM7.out 5
                  go_wp2_with fail
                  go_meet
                  exact ⟨0, rfl, rfl, ⟨⟨D7, Cu, eu, Cv, ev, ls2, HD7.out.set6 HM7.out HR6.out.ge _ _ _ _ _ _, HR7.out, HS7.out.mono (by omega)⟩⟩⟩
                · by_cases q5 : Yk = 5
                  · have e0 : (Yk == 0) = false := beq_eq_false_iff_ne.2 (by omega)
                    have e1 : (Yk == 1) = false := beq_eq_false_iff_ne.2 (by omega)
                    have e2 : (Yk == 2) = false := beq_eq_false_iff_ne.2 (by omega)
                    have e3 : (Yk == 3) = false := beq_eq_false_iff_ne.2 (by omega)
                    have e4 : (Yk == 4) = false := beq_eq_false_iff_ne.2 (by omega)
                    have e5 : (Yk == 5) = true := beq_iff_eq.2 (by omega)
                    clear q0 q1 q2 q3 q4 q5
                    go_wp2_with fail
                    refine (Start HD1.out).mono ?_
                    rintro e w6 ⟨rfl, hd6, hk6⟩
                    have HD6 := Aside0.mk hd6
                    have HR6 := Aside0.mk (HR1.out.keeps hk6)
                    have HA6 := Aside0.mk (hk6.cells HAB.out (by decide) (by decide))
                    clear hd6 hk6 z1 z2 z3 z4
                    have z1 : w6.cell? ⟨ab, 1, none⟩ = some (.int .i64 Yx) := blk_cell HA6.out 1
                    have z2 : w6.cell? ⟨ab, 2, none⟩ = some (.string Ys) := blk_cell HA6.out 2
                    have z3 : w6.cell? ⟨ab, 3, none⟩ = some (.int .i64 Yca) := blk_cell HA6.out 3
                    have z4 : w6.cell? ⟨ab, 4, none⟩ = some (.int .u64 Yck) := blk_cell HA6.out 4
                    have m0 : w6.cell? ⟨m, 0, none⟩ = some (.slice Bu ls1.length du) := blk_cell HR6.out.blk 0
                    have m1 : w6.cell? ⟨m, 1, none⟩ = some (.slice Bv D.wait.length dv) := blk_cell HR6.out.blk 1
                    have m2 : w6.cell? ⟨m, 2, none⟩ = some (.int .i64 D.at_) := blk_cell HR6.out.blk 2
                    have m3 : w6.cell? ⟨m, 3, none⟩ = some (.int .u64 D.keep) := blk_cell HR6.out.blk 3
                    have m4 : w6.cell? ⟨m, 4, none⟩ = some (.int .i64 D.count) := blk_cell HR6.out.blk 4
                    have m5 : w6.cell? ⟨m, 5, none⟩ = some (.bool D.down) := blk_cell HR6.out.blk 5
                    have f0 : w6.frozen? ⟨m, 0, none⟩ = false := blk_frozen HR6.out.blk 0
                    have f1 : w6.frozen? ⟨m, 1, none⟩ = false := blk_frozen HR6.out.blk 1
                    have f2 : w6.frozen? ⟨m, 2, none⟩ = false := blk_frozen HR6.out.blk 2
                    have f3 : w6.frozen? ⟨m, 3, none⟩ = false := blk_frozen HR6.out.blk 3
                    have f4 : w6.frozen? ⟨m, 4, none⟩ = false := blk_frozen HR6.out.blk 4
                    have f5 : w6.frozen? ⟨m, 5, none⟩ = false := blk_frozen HR6.out.blk 5
                    go_wp2_with fail
                    go_meet
                    exact ⟨0, rfl, rfl, ⟨⟨{ D with down := false }, Bu, du, Bv, dv, ls1, HD6.out.set49 HR6.out.blk HR6.out.ge 5 _, HR6.out.off, HS1.out.start.mono (by omega)⟩⟩⟩
                  · have e0 : (Yk == 0) = false := beq_eq_false_iff_ne.2 (by omega)
                    have e1 : (Yk == 1) = false := beq_eq_false_iff_ne.2 (by omega)
                    have e2 : (Yk == 2) = false := beq_eq_false_iff_ne.2 (by omega)
                    have e3 : (Yk == 3) = false := beq_eq_false_iff_ne.2 (by omega)
                    have e4 : (Yk == 4) = false := beq_eq_false_iff_ne.2 (by omega)
                    have e5 : (Yk == 5) = false := beq_eq_false_iff_ne.2 (by omega)
                    clear q0 q1 q2 q3 q4 q5
                    go_wp2_with fail
                    go_meet
                    exact ⟨0, rfl, rfl, ⟨⟨D, Bu, du, Bv, dv, ls1, HD1.out, HR1.out, HS1.out.mono (by omega)⟩⟩⟩
      case rest =>
        obtain ⟨F, rfl, rfl, HBB⟩ := hcut
        clear HAB HS1 HD1 HR1 HF1 z1 z2 z3 z4
        obtain ⟨D', Cu, eu, Cv, ev, ls2, hd, hrf, hsm⟩ := HBB.out
        have HD2 := Aside0.mk hd
        have HR2 := Aside0.mk hrf
        have HS2 := Aside0.mk hsm
        have m1 : wc.cell? ⟨m, 1, none⟩ = some (.slice Cv D'.wait.length ev) := blk_cell hrf.blk 1
        have m5 : wc.cell? ⟨m, 5, none⟩ = some (.bool D'.down) := blk_cell hrf.blk 5
        have x1 : (F != F) = false := by simp
        have x2 : (D'.down != D'.down) = false := by simp
        have x3 : ((D'.wait.length : Int) != (D'.wait.length : Int)) = false := by simp
        have x4 : ((z : Int) != (z : Int)) = false := by simp
        clear hd hrf hsm HBB
        go_upto_region 38 with fail
        go_quiet ((first | (go_at_call 24; exact Calls.quiet_of_same (Down (HD2.out.step (pw_below_drewN (Below.refl _ _) _)))) | (go_at_call 13; exact Calls.quiet_of_same (Waiting (HD2.out.step (pw_below_drewN (Below.refl _ _) _)))) | (go_at_call 25; exact Calls.quiet_of_same ((Size (HD2.out.step (pw_below_drewN (Below.refl _ _) _))).mono (fun _ _ ⟨h1, h2⟩ => ⟨h1.trans (by rw [HS2.out.size]), h2⟩)))))
        go_wp2_with fail
        go_roundg (gk - 1)
        case measure => have := HA.out.1; have := HI.out; omega
        case rel => exact ⟨i + 1, by go_num, ⟨by have := HA.out.1; have := HI.out; omega, D', Cu, eu, Cv, ev, ls2, HD2.out.step (pw_below_drewN (Below.refl _ _) _), HR2.out.step (pw_below_drewN (Below.refl _ _) _), HS2.out⟩⟩
    · have c2b : decide ((i : Int) < (l.length : Int)) = false := decide_eq_false (by omega)
      have c2n : decide (i < l.length) = false := decide_eq_false c2
      obtain ⟨hkk, D, Bu, du, Bv, dv, ls1, hd, hrf, hsm⟩ := HA.out
      have HD1 := Aside0.mk hd
      have HR1 := Aside0.mk hrf
      have HS1 := Aside0.mk (hsm.mono (m := 500) (by omega))
      clear hkk hd hrf hsm c2 HA
      go_wp2_with fail
      refine (Start HD1.out).mono ?_
      rintro e w6 ⟨rfl, hd6, hk6⟩
      have HD6 := Aside0.mk hd6
      have HR6 := Aside0.mk (HR1.out.keeps hk6)
      have f5 : w6.frozen? ⟨m, 5, none⟩ = false := blk_frozen HR6.out.blk 5
      have m5 : w6.cell? ⟨m, 5, none⟩ = some (.bool D.down) := blk_cell HR6.out.blk 5
      have HBO := Aside0.mk (show Both w (w6.setCell ⟨m, 5, none⟩ (.bool false)) g b m z 500 { D with down := false } from ⟨Bu, du, Bv, dv, ls1, HD6.out.set49 HR6.out.blk HR6.out.ge 5 _, HR6.out.off, HS1.out.start⟩)
      have HRF := Aside0.mk (show ∀ j : Nat, j < z → readF { D with down := false } (j : Int) = 0 from fun j hj => by
        unfold readF
        rw [if_neg (show ¬ false = true by decide)]
        exact if_neg (show ¬ ((j : Int) < 0 ∨ D.size ≤ (j : Int)) by rw [HS1.out.size]; omega))
      clear hd6 hk6
      go_wp2_with fail
      generalize w6.setCell ⟨m, 5, none⟩ (.bool false) = W7 at *
      generalize { D with down := false } = D9 at *
      clear HD1 HR1 HS1 HD6 HR6 f5 m5 c2b c2n
      obtain ⟨wo, rfl⟩ : ∃ W, W = wr := ⟨_, rfl⟩
      go_loopg [16] z (fun kq v16 w' => ∃ j : Nat, v16 = .int .i64 j ∧ Aside0 (j + kq = z ∧ Both w w' g b m z 500 D9))
      case atStart => exact ⟨0, rfl, ⟨Nat.zero_add _, HBO.out⟩⟩
      case round =>
        obtain ⟨j, rfl, HA2⟩ := hrel
        clear HBO
        by_cases c3 : j < z
        · have c3b : decide ((j : Int) < (z : Int)) = true := decide_eq_true (by omega)
          have c3n : decide (j < z) = true := decide_eq_true c3
          obtain ⟨hkk, Cu, eu, Cv, ev, ls2, hd, hrf, hsm⟩ := HA2.out
          have hjb : j < 200 := by omega
          have HJ := Aside0.mk c3
          have HF0 := Aside0.mk (HRF.out j c3)
          have HD2 := Aside0.mk hd
          have HR2 := Aside0.mk hrf
          have HS2 := Aside0.mk hsm
          have hwf : (Lit.int .i64 (j : Int)).wf = true := WalkArith.wf_i64 (by omega)
          have HW := Aside0.mk hwf
          clear hkk hd hrf hsm hwf c3
          go_wp2_with fail
          refine (Read HD2.out HS2.out.fit (by omega) (j : Int) HW.out).mono ?_
          rw [HF0.out]
          rintro e w8 ⟨rfl, rfl⟩
          have m0 : w8.cell? ⟨m, 0, none⟩ = some (.slice Cu ls2.length eu) := blk_cell HR2.out.blk 0
          have m1 : w8.cell? ⟨m, 1, none⟩ = some (.slice Cv D9.wait.length ev) := blk_cell HR2.out.blk 1
          have m2 : w8.cell? ⟨m, 2, none⟩ = some (.int .i64 D9.at_) := blk_cell HR2.out.blk 2
          have m3 : w8.cell? ⟨m, 3, none⟩ = some (.int .u64 D9.keep) := blk_cell HR2.out.blk 3
          have m4 : w8.cell? ⟨m, 4, none⟩ = some (.int .i64 D9.count) := blk_cell HR2.out.blk 4
          have m5 : w8.cell? ⟨m, 5, none⟩ = some (.bool D9.down) := blk_cell HR2.out.blk 5
          have HRR := Aside0.mk (RRead HR2.out HS2.out (by omega) (j : Int))
          have HRR2 := Aside0.mk (show Calls Try.prog 19 #[.agg #[.slice Cu ls2.length eu, .slice Cv D9.wait.length ev, .int .i64 D9.at_, .int .u64 D9.keep, .int .i64 D9.count, .bool D9.down], .int .i64 (j : Int)] w8 fun e w' => e = .returned (.tuple #[.string (readS D9 (j : Int)), .int .i64 0]) ∧ Below w8.heap.size w8 w' by have h := HRR.out; rw [HF0.out] at h; exact h)
          clear HRR
          generalize readS D9 (j : Int) = FS at *
          go_wp2_with fail
          refine HRR2.out.mono ?_
          rintro e w9 ⟨rfl, hb9⟩
          have HB9 := Aside0.mk hb9
          clear hb9 HRR2 m0 m1 m2 m3 m4 m5
          have hX : (FS.toList == FS.toList) = true := beq_self_eq_true _
          go_wp2_with fail
          go_roundg (gk - 1)
          case measure => have := HA2.out.1; have := HJ.out; omega
          case rel => exact ⟨j + 1, by go_num, ⟨by have := HA2.out.1; have := HJ.out; omega, Cu, eu, Cv, ev, ls2, HD2.out.step HB9.out, HR2.out.step HB9.out, HS2.out⟩⟩
        · have c3b : decide ((j : Int) < (z : Int)) = false := decide_eq_false (by omega)
          have c3n : decide (j < z) = false := decide_eq_false c3
          obtain ⟨hkk, Cu, eu, Cv, ev, ls2, hd, hrf, hsm⟩ := HA2.out
          have HB9 := Aside0.mk hd.below
          clear hkk hd hrf hsm c3 HA2
          go_wp2_with fail
          go_ret
          exact ⟨rfl, HB9.out⟩
set_option maxRecDepth 100000 in
theorem plays_bad (z : Int) (A0 : Option Addr) (c0 : Nat) (l : List S33) (w : World) (hr : Kd.C k33 w A0 l.length l) (hc : l.length ≤ c0) (k : Nat) (hk : snapferrylaw03_Few.f k l = some true) (hz : z < 1 ∨ 8192 < z) :
    Calls Try.prog 6 #[.int .i64 z, .slice A0 l.length c0] w fun e w' => e = .returned (.bool true) ∧ Below w.heap.size w w' := by
  have HR := Aside0.mk hr
  have HC := Aside0.mk hc
  have HK := Aside0.mk hk
  have HZ := Aside0.mk hz
  clear hr hc hk
  by_cases h1 : z < 1
  · have a1 : decide (100 < z) = false := decide_eq_false (by omega)
    have a2 : decide (z < 1) = true := decide_eq_true h1
    clear hz h1
    go_enter Try.func6, Try.ntmps6
    go_wp2_with fail
    refine (awake _).mono ?_
    rintro e w1 ⟨rfl, hb1⟩
    have HB1 := Aside0.mk hb1
    clear hb1
    go_wp2_with fail
    refine (snapferrylaw03_Few.calls k _ _ l true _ (Kd.C_below HR.out HB1.out) HC.out HK.out).mono ?_
    rintro e w2 ⟨rfl, hd⟩
    have HB2 := Aside0.mk (show Below w.heap.size w w2 by obtain ⟨n, rfl⟩ := hd.out; exact pw_below_drewN HB1.out n)
    clear hd HB1
    go_wp2_with fail
    refine (new_bad z HZ.out _).mono ?_
    rintro e w3 ⟨rfl, rfl⟩
    go_wp2_with fail
    go_ret
    exact ⟨rfl, HB2.out⟩
  · have a1 : decide (100 < z) = true := decide_eq_true (by omega)
    have a2 : decide (z < 1) = false := decide_eq_false h1
    have a3 : decide (8192 < z) = true := decide_eq_true (hz.resolve_left h1)
    have a4 : decide (z ≤ 8192) = false := decide_eq_false (by omega)
    clear hz h1
    go_enter Try.func6, Try.ntmps6
    go_wp2_with fail
    refine (awake _).mono ?_
    rintro e w1 ⟨rfl, hb1⟩
    have HB1 := Aside0.mk hb1
    clear hb1
    go_wp2_with fail
    refine (snapferrylaw03_Few.calls k _ _ l true _ (Kd.C_below HR.out HB1.out) HC.out HK.out).mono ?_
    rintro e w2 ⟨rfl, hd⟩
    have HB2 := Aside0.mk (show Below w.heap.size w w2 by obtain ⟨n, rfl⟩ := hd.out; exact pw_below_drewN HB1.out n)
    clear hd HB1
    go_wp2_with fail
    refine (new_bad z HZ.out _).mono ?_
    rintro e w3 ⟨rfl, rfl⟩
    go_wp2_with fail
    go_ret
    exact ⟨rfl, HB2.out⟩
set_option maxRecDepth 100000 in
theorem plays_many (z : Int) (A0 : Option Addr) (c0 : Nat) (l : List S33) (w : World) (hr : Kd.C k33 w A0 l.length l) (hc : l.length ≤ c0) (k : Nat) (hk : snapferrylaw03_Few.f k l = some false) :
    Calls Try.prog 6 #[.int .i64 z, .slice A0 l.length c0] w fun e w' => e = .returned (.bool true) ∧ Below w.heap.size w w' := by
  have HR := Aside0.mk hr
  have HC := Aside0.mk hc
  have HK := Aside0.mk hk
  clear hr hc hk
  go_enter Try.func6, Try.ntmps6
  go_wp2_with fail
  refine (awake _).mono ?_
  rintro e w1 ⟨rfl, hb1⟩
  have HB1 := Aside0.mk hb1
  clear hb1
  go_wp2_with fail
  refine (snapferrylaw03_Few.calls k _ _ l false _ (Kd.C_below HR.out HB1.out) HC.out HK.out).mono ?_
  rintro e w2 ⟨rfl, hd⟩
  have HB2 := Aside0.mk (show Below w.heap.size w w2 by obtain ⟨n, rfl⟩ := hd.out; exact pw_below_drewN HB1.out n)
  clear hd HB1
  go_wp2_with fail
  go_ret
  exact ⟨rfl, HB2.out⟩
set_option maxRecDepth 100000 in
theorem plays_large (z : Int) (A0 : Option Addr) (c0 : Nat) (l : List S33) (w : World) (hr : Kd.C k33 w A0 l.length l) (hc : l.length ≤ c0) (k : Nat) (hk : snapferrylaw03_Few.f k l = some true) (hz : 100 < z) (hz2 : z ≤ 8192) :
    Calls Try.prog 6 #[.int .i64 z, .slice A0 l.length c0] w fun e w' => e = .returned (.bool true) ∧ Below w.heap.size w w' := by
  have a1 : decide (100 < z) = true := decide_eq_true hz
  have a2 : decide (z ≤ 8192) = true := decide_eq_true hz2
  have HR := Aside0.mk hr
  have HC := Aside0.mk hc
  have HK := Aside0.mk hk
  clear hr hc hk hz hz2
  go_enter Try.func6, Try.ntmps6
  go_wp2_with fail
  refine (awake _).mono ?_
  rintro e w1 ⟨rfl, hb1⟩
  have HB1 := Aside0.mk hb1
  clear hb1
  go_wp2_with fail
  refine (snapferrylaw03_Few.calls k _ _ l true _ (Kd.C_below HR.out HB1.out) HC.out HK.out).mono ?_
  rintro e w2 ⟨rfl, hd⟩
  have HB2 := Aside0.mk (show Below w.heap.size w w2 by obtain ⟨n, rfl⟩ := hd.out; exact pw_below_drewN HB1.out n)
  clear hd HB1
  go_wp2_with fail
  go_ret
  exact ⟨rfl, HB2.out⟩
theorem plays_all (z : Int) (A0 : Option Addr) (c0 : Nat) (l : List S33) (w : World) (hr : Kd.C k33 w A0 l.length l ∧ l.length ≤ 9223372036854775807 ∧ ∀ y ∈ l, Open.ActOk y) (hc : l.length ≤ c0) :
    Calls Try.prog 6 #[.int .i64 z, .slice A0 l.length c0] w fun e w' => e = .returned (.bool true) ∧ Below w.heap.size w w' := by
  rcases few_or l hr.2.1 with ⟨k, hk, hl⟩ | ⟨k, hk⟩
  · by_cases h1 : z < 1 ∨ 8192 < z
    · exact plays_bad z A0 c0 l w hr.1 hc k hk h1
    · by_cases h2 : 100 < z
      · exact plays_large z A0 c0 l w hr.1 hc k hk h2 (by omega)
      · obtain ⟨n, rfl⟩ : ∃ n : Nat, z = (n : Int) := ⟨z.toNat, by omega⟩
        exact plays_walk n A0 c0 l w hr.1 hc k hk hl (by omega) (by omega) hr.2.2
  · exact plays_many z A0 c0 l w hr.1 hc k hk
end Go.Proofs.Ytehodgcfejkomaa.Disk
