/- GridPaths: its walk. -/
import Derived.Test.YtcnlcmkhfdpidaaEnds
namespace Go.Proofs.Ytcnlcmkhfdpidaa.Grid
set_option linter.unusedVariables false
set_option linter.unusedSimpArgs false
open Go.RowKit Go.Proofs.Ytcnlcmkhfdpidaa.Q Go.Proofs.YtcnlcmkhfdpidaaW.PrintWords Go.Proofs.YtcnlcmkhfdpidaaW.PrintLast Go.Proofs.YtcnlcmkhfdpidaaW.PrintMore
set_option maxRecDepth 100000 in
set_option maxHeartbeats 8000000 in
theorem paths_walk (A0 : Option Addr) (c0 : Nat) (a : List ByteArray) (A1 : Option Addr) (c1 : Nat) (b : List ByteArray) (w : World) (ha : Kd.C Kd.string w A0 a.length a) (hac : a.length ≤ c0) (hb : Kd.C Kd.string w A1 b.length b) (hbc : b.length ≤ c1) (k : Nat) (hk : snapferrylaw05_few.f k a = some true) (hal : a.length ≤ 60) (k1 : Nat) (hk1 : snapferrylaw05_few.f k1 b = some true) (hbl : b.length ≤ 60) :
    Calls Try.prog 6 #[.slice A0 a.length c0, .slice A1 b.length c1] w fun e w' => e = .returned (.bool true) ∧ Below w.heap.size w w' := by
  go_enter Try.func6, Try.ntmps6
  go_wp2_with fail
  refine (awake w).mono ?_
  rintro e w1 ⟨rfl, hb1⟩
  have Ha1 := Aside0.mk (Kd.C_below ha hb1)
  have Hb1 := Aside0.mk (Kd.C_below hb hb1)
  have HW1 := Aside0.mk (below_step (Below.refl w.heap.size w) hb1)
  go_wp2_with fail
  refine (snapferrylaw05_few.calls k A0 c0 a true w1 Ha1.out hac hk).mono ?_
  rintro e w2 ⟨rfl, hd2⟩
  have Ha2 := Aside0.mk (Kd.C_below Ha1.out hd2.below)
  have Hb2 := Aside0.mk (Kd.C_below Hb1.out hd2.below)
  have HW2 := Aside0.mk (below_step HW1.out hd2.below)
  clear Ha1 Hb1 HW1
  go_wp2_with fail
  refine (snapferrylaw05_few.calls k1 A1 c1 b true w2 Hb2.out hbc hk1).mono ?_
  rintro e w3 ⟨rfl, hd3⟩
  have Ha3 := Aside0.mk (Kd.C_below Ha2.out hd3.below)
  have Hb3 := Aside0.mk (Kd.C_below Hb2.out hd3.below)
  have HW3 := Aside0.mk (below_step HW2.out hd3.below)
  clear Ha2 Hb2 HW2
  go_wp2_with fail
  refine (Path A0 c0 a A1 c1 b w3 Ha3.out Hb3.out (by omega) (by omega)).mono ?_
  rintro e w4 ⟨⟨v4, rfl, hp4⟩, hb4⟩
  obtain ⟨AP, cP, rfl⟩ := Kd.R_slice hp4
  have HLP := Aside0.mk (Kd.R_reads' hp4).2.1
  have HP4 := Aside0.mk (Kd.R_reads' hp4).2.2
  clear hp4
  have Ha4 := Aside0.mk (Kd.C_below Ha3.out hb4)
  have Hb4 := Aside0.mk (Kd.C_below Hb3.out hb4)
  have HW4 := Aside0.mk (below_step HW3.out hb4)
  clear Ha3 Hb3 HW3
  go_wp2_with fail
  have pl0 : (path a b).length ≤ 1000 := path_len _ _ (by omega) (by omega)
  have wl1 : (((path a b).length + 1 : Nat) : Int) = wrap64 (((path a b).length : Int) + 1) := by unfold wrap64; omega
  have wl2 : ((((path a b).length + 1 : Nat) : Int) != wrap64 (((path a b).length : Int) + 1)) = false := by rw [← wl1]; simp
  have hpl : (pts (path a b) (path a b).length).length = (path a b).length + 1 := pts_length _ _
  clear wl1
  refine (Points AP cP (path a b) w4 HP4.out (path_len _ _ (by omega) (by omega)) (path_steps _ _) (path_xy _ _ (by omega) (by omega))).mono ?_
  rintro e w5 ⟨v5, rfl, hp5, hb5⟩
  obtain ⟨AQ, cQ, rfl⟩ := Kd.R_slice hp5
  have HLQ := Aside0.mk (Kd.R_reads' hp5).2.1
  have HQ5 := Aside0.mk (Kd.R_reads' hp5).2.2
  clear hp5
  have Ha5 := Aside0.mk (Kd.C_below Ha4.out hb5)
  have Hb5 := Aside0.mk (Kd.C_below Hb4.out hb5)
  have HP5 := Aside0.mk (Kd.C_below HP4.out hb5)
  have HW5 := Aside0.mk (below_step HW4.out hb5)
  clear Ha4 Hb4 HP4 HW4
  go_wp2_with fail
  clear wl2
  have HPL := Aside0.mk pl0
  have HA := Aside0.mk Ha5.out
  have HB := Aside0.mk Hb5.out
  have HP := Aside0.mk HP5.out
  have HQ := Aside0.mk HQ5.out
  have o11 := ord11
  have o10 := ord10
  have o01 := ord01
  have o00 := ord00
  go_loopg [8] (path a b).length (fun kq v8 wr => ∃ i : Nat, v8 = .int .i64 i ∧ Aside0 (i + kq = (path a b).length) ∧ Aside0 (Below w5.heap.size w5 wr))
  case atStart => exact ⟨0, rfl, ⟨Nat.zero_add _⟩, ⟨Below.refl _ _⟩⟩
  case round =>
    obtain ⟨i, rfl, HK, HBB⟩ := hrel
    by_cases c2 : i < (path a b).length
    · have c2b : decide ((i : Int) < ((path a b).length : Int)) = true := decide_eq_true (by omega)
      obtain ⟨adp, e1, hp0⟩ := at_step HP.out i c2
      obtain ⟨adq, e2, hq0⟩ := at_step HQ.out i (by omega)
      obtain ⟨adq', e3, hq1⟩ := at_step HQ.out (i + 1) (by omega)
      obtain rfl := Option.some.inj (e2.symm.trans e3)
      cases e1
      cases e2
      clear e3
      rw [pts_get _ (by omega)] at hq0 hq1
      rw [px_snoc _ c2, py_snoc _ c2] at hq1
      have LP := Aside0.mk (World.block_lt_of_cell? w5 _ hp0)
      have LQ := Aside0.mk (World.block_lt_of_cell? w5 _ hq0)
      have LR := Aside0.mk (World.block_lt_of_cell? w5 _ hq1)
      have hs1 := path_steps a b _ (getD_mem c2)
      obtain ⟨hfx, hfy, hfs⟩ := Fits.at_ (Nat.zero_le _) (Nat.zero_le _) (path_fits a b) i (by omega)
      have hfs' := Aside0.mk (hfs ((path a b).getD i (0, 0)) (by rw [List.getD_eq_getElem?_getD, List.getElem?_eq_getElem c2]; rfl))
      simp only [Nat.zero_add] at hfx hfy hfs'
      clear hfs
      generalize px (path a b) i = x at *
      generalize py (path a b) i = y at *
      have hx70 : x < 70 := by omega
      have hy70 : y < 70 := by omega
      have rx := run_int hx70
      have ry := run_int hy70
      have zp := (HBB.out.cell LP.out).trans hp0
      have zq := (HBB.out.cell LQ.out).trans hq0
      have zr : wr.cell? ⟨adq.block, adq.off + (i + 1), none⟩ = _ := (HBB.out.cell (p := adq.add (i + 1)) LR.out).trans hq1
      have r1 : IntKind.i64.wrap ((i : Int) + 1) = (i : Int) + 1 := IntWalk.i64_in _ (by omega)
      have q9 := eq_true (show (0 : Int) ≤ (i : Int) by omega)
      have q10 := eq_true (show (0 : Int) ≤ (i : Int) + 1 by omega)
      have q7 : ((i : Int) + 1).toNat = i + 1 := by omega
      clear hp0 hq0 hq1 hpl
      have g1 := eq_true (show i < (path a b).length from c2)
      have g2 := eq_true (show i < (path a b).length + 1 by omega)
      have g3 := eq_true (show i + 1 < (path a b).length + 1 by omega)
      have g4 := eq_true (show (i : Int) < ((path a b).length : Int) by omega)
      have g5 := eq_true (show (i : Int) < ((path a b).length : Int) + 1 by omega)
      have g6 := eq_true (show (i : Int) + 1 < ((path a b).length : Int) + 1 by omega)
      have n1 : decide ((x : Int) < 0) = false := decide_eq_false (by omega)
      have n2 : decide ((y : Int) < 0) = false := decide_eq_false (by omega)
      have n3 : decide ((a.length : Int) < (x : Int)) = false := decide_eq_false (by omega)
      have n4 : decide ((b.length : Int) < (y : Int)) = false := decide_eq_false (by omega)
      have n5 : decide (a.length < x) = false := decide_eq_false (by omega)
      have n6 : decide (b.length < y) = false := decide_eq_false (by omega)
      generalize (path a b).getD i (0, 0) = s at *
      rcases hs1 with rfl | rfl | rfl
      · simp only [encS, fl_one, fl_zero] at zp zq zr
        obtain ⟨k1, k2, k3⟩ := hfs'.out rfl
        obtain ⟨ada, i1, hx0⟩ := Kd.at_string HA.out (x : Int) (by omega) (by omega)
        obtain ⟨adb, i2, hy0⟩ := Kd.at_string HB.out (y : Int) (by omega) (by omega)
        cases i1
        cases i2
        have hx1 : w5.cell? (ada.add x) = some (.string (rt a x)) := hx0
        have hy1 : w5.cell? (adb.add y) = some (.string (rt a x)) := by rw [eqB_iff.1 k3]; exact hy0
        have LA := Aside0.mk (World.block_lt_of_cell? w5 _ hx1)
        have LB := Aside0.mk (World.block_lt_of_cell? w5 _ hy1)
        have zx := (HBB.out.cell LA.out).trans hx1
        have zy := (HBB.out.cell LB.out).trans hy1
        have m1 : decide ((a.length : Int) ≤ (x : Int)) = false := decide_eq_false (by omega)
        have m2 : decide ((b.length : Int) ≤ (y : Int)) = false := decide_eq_false (by omega)
        have m3 : decide (a.length ≤ x) = false := decide_eq_false (by omega)
        have m4 : decide (b.length ≤ y) = false := decide_eq_false (by omega)
        have m5 := eq_true (show x < a.length from k1)
        have m6 := eq_true (show y < b.length from k2)
        have m7 := eq_true (show (x : Int) < (a.length : Int) by omega)
        have m8 := eq_true (show (y : Int) < (b.length : Int) by omega)
        have m9 := eq_true (show (0 : Int) ≤ (x : Int) by omega)
        have m10 := eq_true (show (0 : Int) ≤ (y : Int) by omega)
        clear hx0 hy0 hx1 hy1 k1 k2 k3
        have hdx := run_sub (x := x) (y := y) (a := 1) (b := 1) hx70 hy70 (by decide) (by decide) 34
        rw [fl_one] at hdx
        try simp only [Nat.add_zero] at hdx zr
        clear hfs' hfx hfy
        go_upto_region 12 with fail
        go_quiet (fail)
        have HB2 := Aside0.mk (pw_below_drewN HBB.out nq)
        have zp' : (wr.drewN nq).cell? _ = _ := zp
        clear zp
        have zq' : (wr.drewN nq).cell? _ = _ := zq
        clear zq
        have zx' : (wr.drewN nq).cell? _ = _ := zx
        clear zx
        have zy' : (wr.drewN nq).cell? _ = _ := zy
        clear zy
        generalize wr.drewN nq = W2 at *
        have zp := zp'
        have zq := zq'
        have zx := zx'
        have zy := zy'
        clear zp' zq' zx' zy'
        clear zr hdx
        go_upto_region 15 with fail
        go_quiet (fail)
        have HB3 := Aside0.mk (pw_below_drewN HB2.out nq)
        have zp' : (W2.drewN nq).cell? _ = _ := zp
        clear zp
        have zx' : (W2.drewN nq).cell? _ = _ := zx
        clear zx
        have zy' : (W2.drewN nq).cell? _ = _ := zy
        clear zy
        generalize W2.drewN nq = W3 at *
        have zp := zp'
        have zx := zx'
        have zy := zy'
        clear zp' zx' zy'
        clear zq
        go_upto_region 16 with fail
        go_quiet (fail)
        have HB4 := Aside0.mk (pw_below_drewN HB3.out nq)
        generalize W3.drewN nq = W4 at *
        clear zp zx zy
        go_wp2_with fail
        go_roundg (gk - 1)
        case measure => have := HK.out; omega
        case rel => exact ⟨i + 1, by go_num, ⟨by have := HK.out; omega⟩, HB4⟩
      · simp only [encS, fl_one, fl_zero] at zp zq zr
        have hdx := run_sub (x := x) (y := y) (a := 1) (b := 0) hx70 hy70 (by decide) (by decide) 34
        rw [fl_one, fl_zero] at hdx
        try simp only [Nat.add_zero] at hdx zr
        clear hfs' hfx hfy
        go_upto_region 12 with fail
        go_quiet (fail)
        have HB2 := Aside0.mk (pw_below_drewN HBB.out nq)
        have zp' : (wr.drewN nq).cell? _ = _ := zp
        clear zp
        have zq' : (wr.drewN nq).cell? _ = _ := zq
        clear zq
        generalize wr.drewN nq = W2 at *
        have zp := zp'
        have zq := zq'
        clear zp' zq'
        clear zr hdx
        go_upto_region 15 with fail
        go_quiet (fail)
        have HB3 := Aside0.mk (pw_below_drewN HB2.out nq)
        have zp' : (W2.drewN nq).cell? _ = _ := zp
        clear zp
        generalize W2.drewN nq = W3 at *
        have zp := zp'
        clear zp'
        clear zq
        go_upto_region 16 with fail
        go_quiet (fail)
        have HB4 := Aside0.mk (pw_below_drewN HB3.out nq)
        generalize W3.drewN nq = W4 at *
        clear zp 
        go_wp2_with fail
        go_roundg (gk - 1)
        case measure => have := HK.out; omega
        case rel => exact ⟨i + 1, by go_num, ⟨by have := HK.out; omega⟩, HB4⟩
      · simp only [encS, fl_one, fl_zero] at zp zq zr
        have hdx := run_sub (x := x) (y := y) (a := 0) (b := 1) hx70 hy70 (by decide) (by decide) 34
        rw [fl_one, fl_zero] at hdx
        try simp only [Nat.add_zero] at hdx zr
        clear hfs' hfx hfy
        go_upto_region 12 with fail
        go_quiet (fail)
        have HB2 := Aside0.mk (pw_below_drewN HBB.out nq)
        have zp' : (wr.drewN nq).cell? _ = _ := zp
        clear zp
        have zq' : (wr.drewN nq).cell? _ = _ := zq
        clear zq
        generalize wr.drewN nq = W2 at *
        have zp := zp'
        have zq := zq'
        clear zp' zq'
        clear zr hdx
        go_upto_region 15 with fail
        go_quiet (fail)
        have HB3 := Aside0.mk (pw_below_drewN HB2.out nq)
        have zp' : (W2.drewN nq).cell? _ = _ := zp
        clear zp
        generalize W2.drewN nq = W3 at *
        have zp := zp'
        clear zp'
        clear zq
        go_upto_region 16 with fail
        go_quiet (fail)
        have HB4 := Aside0.mk (pw_below_drewN HB3.out nq)
        generalize W3.drewN nq = W4 at *
        clear zp 
        go_wp2_with fail
        go_roundg (gk - 1)
        case measure => have := HK.out; omega
        case rel => exact ⟨i + 1, by go_num, ⟨by have := HK.out; omega⟩, HB4⟩
    · have c2b : decide ((i : Int) < ((path a b).length : Int)) = false := decide_eq_false (by omega)
      have c2n : decide (i < (path a b).length) = false := decide_eq_false c2
      have HW := Aside0.mk (below_step HW5.out HBB.out)
      go_wp2_with fail
      go_ret
      exact ⟨rfl, HW.out⟩
set_option maxRecDepth 100000 in
set_option maxHeartbeats 8000000 in
theorem paths_many (A0 : Option Addr) (c0 : Nat) (a : List ByteArray) (A1 : Option Addr) (c1 : Nat) (b : List ByteArray) (w : World) (ha : Kd.C Kd.string w A0 a.length a) (hac : a.length ≤ c0) (hb : Kd.C Kd.string w A1 b.length b) (hbc : b.length ≤ c1) (k : Nat) (hk : snapferrylaw05_few.f k a = some false) :
    Calls Try.prog 6 #[.slice A0 a.length c0, .slice A1 b.length c1] w fun e w' => e = .returned (.bool true) ∧ Below w.heap.size w w' := by
  go_enter Try.func6, Try.ntmps6
  go_wp2_with fail
  refine (awake w).mono ?_
  rintro e w1 ⟨rfl, hb1⟩
  have Ha1 := Aside0.mk (Kd.C_below ha hb1)
  have Hb1 := Aside0.mk (Kd.C_below hb hb1)
  have HW1 := Aside0.mk (below_step (Below.refl w.heap.size w) hb1)
  go_wp2_with fail
  refine (snapferrylaw05_few.calls k A0 c0 a false w1 Ha1.out hac hk).mono ?_
  rintro e w2 ⟨rfl, hd2⟩
  have Ha2 := Aside0.mk (Kd.C_below Ha1.out hd2.below)
  have Hb2 := Aside0.mk (Kd.C_below Hb1.out hd2.below)
  have HW2 := Aside0.mk (below_step HW1.out hd2.below)
  clear Ha1 Hb1 HW1
  go_wp2_with fail
  go_ret
  exact ⟨rfl, HW2.out⟩
set_option maxRecDepth 100000 in
set_option maxHeartbeats 8000000 in
theorem paths_many2 (A0 : Option Addr) (c0 : Nat) (a : List ByteArray) (A1 : Option Addr) (c1 : Nat) (b : List ByteArray) (w : World) (ha : Kd.C Kd.string w A0 a.length a) (hac : a.length ≤ c0) (hb : Kd.C Kd.string w A1 b.length b) (hbc : b.length ≤ c1) (k : Nat) (hk : snapferrylaw05_few.f k a = some true) (k1 : Nat) (hk1 : snapferrylaw05_few.f k1 b = some false) :
    Calls Try.prog 6 #[.slice A0 a.length c0, .slice A1 b.length c1] w fun e w' => e = .returned (.bool true) ∧ Below w.heap.size w w' := by
  go_enter Try.func6, Try.ntmps6
  go_wp2_with fail
  refine (awake w).mono ?_
  rintro e w1 ⟨rfl, hb1⟩
  have Ha1 := Aside0.mk (Kd.C_below ha hb1)
  have Hb1 := Aside0.mk (Kd.C_below hb hb1)
  have HW1 := Aside0.mk (below_step (Below.refl w.heap.size w) hb1)
  go_wp2_with fail
  refine (snapferrylaw05_few.calls k A0 c0 a true w1 Ha1.out hac hk).mono ?_
  rintro e w2 ⟨rfl, hd2⟩
  have Ha2 := Aside0.mk (Kd.C_below Ha1.out hd2.below)
  have Hb2 := Aside0.mk (Kd.C_below Hb1.out hd2.below)
  have HW2 := Aside0.mk (below_step HW1.out hd2.below)
  clear Ha1 Hb1 HW1
  go_wp2_with fail
  refine (snapferrylaw05_few.calls k1 A1 c1 b false w2 Hb2.out hbc hk1).mono ?_
  rintro e w3 ⟨rfl, hd3⟩
  have Ha3 := Aside0.mk (Kd.C_below Ha2.out hd3.below)
  have Hb3 := Aside0.mk (Kd.C_below Hb2.out hd3.below)
  have HW3 := Aside0.mk (below_step HW2.out hd3.below)
  clear Ha2 Hb2 HW2
  go_wp2_with fail
  go_ret
  exact ⟨rfl, HW3.out⟩
theorem paths_all (A0 : Option Addr) (c0 : Nat) (a : List ByteArray) (A1 : Option Addr) (c1 : Nat) (b : List ByteArray) (w : World) (ha : Kd.C Kd.string w A0 a.length a) (hac : a.length ≤ c0) (hb : Kd.C Kd.string w A1 b.length b) (hbc : b.length ≤ c1) :
    Calls Try.prog 6 #[.slice A0 a.length c0, .slice A1 b.length c1] w fun e w' => e = .returned (.bool true) ∧ Below w.heap.size w w' := by
  rcases few_or a ha.2.1 with ⟨k, hk, hal⟩ | ⟨k, hk⟩
  · rcases few_or b hb.2.1 with ⟨k1, hk1, hbl⟩ | ⟨k1, hk1⟩
    · exact paths_walk A0 c0 a A1 c1 b w ha hac hb hbc k hk hal k1 hk1 hbl
    · exact paths_many2 A0 c0 a A1 c1 b w ha hac hb hbc k hk k1 hk1
  · exact paths_many A0 c0 a A1 c1 b w ha hac hb hbc k hk
end Go.Proofs.Ytcnlcmkhfdpidaa.Grid
