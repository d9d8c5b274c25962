/- GridMakes: its walk. -/
import Derived.Test.YtcnlcmkhfdpidaaEnds
namespace Go.Proofs.Ytcnlcmkhfdpidaa.Grid
set_option linter.unusedVariables false
set_option linter.unusedSimpArgs false
open Go.RowKit Go.Proofs.Ytcnlcmkhfdpidaa.Q Go.Proofs.YtcnlcmkhfdpidaaW.PrintWords Go.Proofs.YtcnlcmkhfdpidaaW.PrintLast Go.Proofs.YtcnlcmkhfdpidaaW.PrintMore
set_option maxRecDepth 100000 in
set_option maxHeartbeats 8000000 in
theorem makes_walk (A0 : Option Addr) (c0 : Nat) (a : List ByteArray) (A1 : Option Addr) (c1 : Nat) (b : List ByteArray) (w : World) (ha : Kd.C Kd.string w A0 a.length a) (hac : a.length ≤ c0) (hb : Kd.C Kd.string w A1 b.length b) (hbc : b.length ≤ c1) (k : Nat) (hk : snapferrylaw05_few.f k a = some true) (hal : a.length ≤ 60) (k1 : Nat) (hk1 : snapferrylaw05_few.f k1 b = some true) (hbl : b.length ≤ 60) :
    Calls Try.prog 3 #[.slice A0 a.length c0, .slice A1 b.length c1] w fun e w' => e = .returned (.bool true) ∧ Below w.heap.size w w' := by
  go_enter Try.func3, Try.ntmps3
  go_wp2_with fail
  refine (awake w).mono ?_
  rintro e w1 ⟨rfl, hb1⟩
  have Ha1 := Aside0.mk (Kd.C_below ha hb1)
  have Hb1 := Aside0.mk (Kd.C_below hb hb1)
  have HW1 := Aside0.mk (below_step (Below.refl w.heap.size w) hb1)
  go_wp2_with fail
  refine (snapferrylaw05_few.calls k A0 c0 a true w1 Ha1.out hac hk).mono ?_
  rintro e w2 ⟨rfl, hd2⟩
  have Ha2 := Aside0.mk (Kd.C_below Ha1.out hd2.below)
  have Hb2 := Aside0.mk (Kd.C_below Hb1.out hd2.below)
  have HW2 := Aside0.mk (below_step HW1.out hd2.below)
  clear Ha1 Hb1 HW1
  go_wp2_with fail
  refine (snapferrylaw05_few.calls k1 A1 c1 b true w2 Hb2.out hbc hk1).mono ?_
  rintro e w3 ⟨rfl, hd3⟩
  have Ha3 := Aside0.mk (Kd.C_below Ha2.out hd3.below)
  have Hb3 := Aside0.mk (Kd.C_below Hb2.out hd3.below)
  have HW3 := Aside0.mk (below_step HW2.out hd3.below)
  clear Ha2 Hb2 HW2
  go_wp2_with fail
  refine (Path A0 c0 a A1 c1 b w3 Ha3.out Hb3.out (by omega) (by omega)).mono ?_
  rintro e w4 ⟨⟨v4, rfl, hp4⟩, hb4⟩
  obtain ⟨AP, cP, rfl⟩ := Kd.R_slice hp4
  have HLP := Aside0.mk (Kd.R_reads' hp4).2.1
  have HP4 := Aside0.mk (Kd.R_reads' hp4).2.2
  clear hp4
  have Ha4 := Aside0.mk (Kd.C_below Ha3.out hb4)
  have Hb4 := Aside0.mk (Kd.C_below Hb3.out hb4)
  have HW4 := Aside0.mk (below_step HW3.out hb4)
  clear Ha3 Hb3 HW3
  go_wp2_with fail
  refine (Comes A1 c1 b AP cP (path a b) w4 Hb4.out HP4.out (by omega) (path_len _ _ (by omega) (by omega)) (path_steps _ _) (path_xy _ _ (by omega) (by omega))).mono ?_
  rintro e w5 ⟨v5, rfl, hp5, hb5⟩
  obtain ⟨AC, cC, rfl⟩ := Kd.R_slice hp5
  have HLC := Aside0.mk (Kd.R_reads' hp5).2.1
  have HC5 := Aside0.mk (Kd.R_reads' hp5).2.2
  clear hp5
  have Ha5 := Aside0.mk (Kd.C_below Ha4.out hb5)
  have Hb5 := Aside0.mk (Kd.C_below Hb4.out hb5)
  have HP5 := Aside0.mk (Kd.C_below HP4.out hb5)
  have HW5 := Aside0.mk (below_step HW4.out hb5)
  clear Ha4 Hb4 HP4 HW4
  go_wp2_with fail
  refine (Apply A0 c0 a AP cP (path a b) AC cC (cms b 0 (path a b)) w5 Ha5.out hac HP5.out HC5.out HLC.out (path_len _ _ (by omega) (by omega)) (path_steps _ _) (by omega) (Nat.le_trans (cms_len _ _ _) (path_len _ _ (by omega) (by omega)))).mono ?_
  rw [(path_makes a b).1]
  rintro e w6 ⟨⟨v6, rfl, hp6⟩, hb6⟩
  obtain ⟨AL, cL, rfl⟩ := Kd.R_slice hp6
  have HLL := Aside0.mk (Kd.R_reads' hp6).2.1
  have HL6 := Aside0.mk (Kd.R_reads' hp6).2.2
  clear hp6
  have Ha6 := Aside0.mk (Kd.C_below Ha5.out hb6)
  have Hb6 := Aside0.mk (Kd.C_below Hb5.out hb6)
  have HP6 := Aside0.mk (Kd.C_below HP5.out hb6)
  have HC6 := Aside0.mk (Kd.C_below HC5.out hb6)
  have HW6 := Aside0.mk (below_step HW5.out hb6)
  clear Ha5 Hb5 HP5 HC5 HW5
  go_wp2_with fail
  refine (Points AP cP (path a b) w6 HP6.out (path_len _ _ (by omega) (by omega)) (path_steps _ _) (path_xy _ _ (by omega) (by omega))).mono ?_
  rintro e w7 ⟨v7, rfl, hp7, hb7⟩
  obtain ⟨AQ, cQ, rfl⟩ := Kd.R_slice hp7
  have HLQ := Aside0.mk (Kd.R_reads' hp7).2.1
  have HQ7 := Aside0.mk (Kd.R_reads' hp7).2.2
  clear hp7
  have Ha7 := Aside0.mk (Kd.C_below Ha6.out hb7)
  have Hb7 := Aside0.mk (Kd.C_below Hb6.out hb7)
  have HP7 := Aside0.mk (Kd.C_below HP6.out hb7)
  have HC7 := Aside0.mk (Kd.C_below HC6.out hb7)
  have HL7 := Aside0.mk (Kd.C_below HL6.out hb7)
  have HW7 := Aside0.mk (below_step HW6.out hb7)
  clear Ha6 Hb6 HP6 HC6 HL6 HW6
  go_wp2_with fail
  simp only [pts_length] at *
  refine (Texts AL cL b A1 c1 b w7 HL7.out HLL.out Hb7.out hbc).mono ?_
  rintro e w8 ⟨rfl, hd8⟩
  have Ha8 := Aside0.mk (Kd.C_below Ha7.out hd8.below)
  have Hb8 := Aside0.mk (Kd.C_below Hb7.out hd8.below)
  have HP8 := Aside0.mk (Kd.C_below HP7.out hd8.below)
  have HC8 := Aside0.mk (Kd.C_below HC7.out hd8.below)
  have HL8 := Aside0.mk (Kd.C_below HL7.out hd8.below)
  have HQ8 := Aside0.mk (Kd.C_below HQ7.out hd8.below)
  have HW8 := Aside0.mk (below_step HW7.out hd8.below)
  clear Ha7 Hb7 HP7 HC7 HL7 HQ7 HW7
  rw [decide_eq_true (rfl : b = b)]
  obtain ⟨adq, e1, hq0⟩ := at_step HQ8.out 0 (by simp)
  obtain ⟨adq', e2, hq1⟩ := at_step HQ8.out (path a b).length (by simp)
  obtain rfl := Option.some.inj (e1.symm.trans e2)
  rw [pts_get _ (Nat.zero_le _), px_zero, py_zero] at hq0
  rw [pts_get _ (Nat.le_refl _), (path_end a b).1, (path_end a b).2] at hq1
  cases e1
  clear e2
  have z0 : w8.cell? adq = some (.complex .f64 (fl 0) (fl 0)) := hq0
  have z1 : w8.cell? (adq.add (path a b).length) = some (.complex .f64 (fl a.length) (fl b.length)) := hq1
  rw [fl_zero] at z0
  have o00 := ord00
  have oA : FloatKind.f64.format.order (fl a.length) (floatOfInt FloatKind.f64 (a.length : Int)) = some .eq := (order_at (n := a.length) (m := a.length) (by omega) (by omega)).trans (by rw [Nat.compare_eq_eq.2 rfl])
  have oB : FloatKind.f64.format.order (fl b.length) (floatOfInt FloatKind.f64 (b.length : Int)) = some .eq := (order_at (n := b.length) (m := b.length) (by omega) (by omega)).trans (by rw [Nat.compare_eq_eq.2 rfl])
  have pl := path_length a b
  have cl := (path_makes a b).2
  have wl : wrap64 ((path a b).length : Int) = ((path a b).length : Int) := by unfold wrap64; omega
  have wab : wrap64 ((a.length : Int) + (b.length : Int)) = (a.length : Int) + (b.length : Int) := by unfold wrap64; omega
  have wabg : wrap64 ((a.length : Int) + (b.length : Int) - (G a b : Int)) = ((path a b).length : Int) := by unfold wrap64; omega
  have wbg : wrap64 ((b.length : Int) - (G a b : Int)) = ((cms b 0 (path a b)).length : Int) := by unfold wrap64; omega
  clear hq0 hq1 pl cl
  go_wp2_with fail
  refine (Same AP cP (path a b) w8 HP8.out (path_len _ _ (by omega) (by omega)) (path_steps _ _)).mono ?_
  rw [path_same]
  rintro e w9 ⟨rfl, rfl⟩
  go_wp2_with fail
  refine (Same AP cP (path a b) w9 HP8.out (path_len _ _ (by omega) (by omega)) (path_steps _ _)).mono ?_
  rw [path_same]
  rintro e w10 ⟨rfl, rfl⟩
  go_wp2_with fail
  simp only [wbg, beq_self_eq_true]
  go_ret
  exact ⟨rfl, HW8.out⟩
set_option maxRecDepth 100000 in
set_option maxHeartbeats 8000000 in
theorem makes_many (A0 : Option Addr) (c0 : Nat) (a : List ByteArray) (A1 : Option Addr) (c1 : Nat) (b : List ByteArray) (w : World) (ha : Kd.C Kd.string w A0 a.length a) (hac : a.length ≤ c0) (hb : Kd.C Kd.string w A1 b.length b) (hbc : b.length ≤ c1) (k : Nat) (hk : snapferrylaw05_few.f k a = some false) :
    Calls Try.prog 3 #[.slice A0 a.length c0, .slice A1 b.length c1] w fun e w' => e = .returned (.bool true) ∧ Below w.heap.size w w' := by
  go_enter Try.func3, Try.ntmps3
  go_wp2_with fail
  refine (awake w).mono ?_
  rintro e w1 ⟨rfl, hb1⟩
  have Ha1 := Aside0.mk (Kd.C_below ha hb1)
  have Hb1 := Aside0.mk (Kd.C_below hb hb1)
  have HW1 := Aside0.mk (below_step (Below.refl w.heap.size w) hb1)
  go_wp2_with fail
  refine (snapferrylaw05_few.calls k A0 c0 a false w1 Ha1.out hac hk).mono ?_
  rintro e w2 ⟨rfl, hd2⟩
  have Ha2 := Aside0.mk (Kd.C_below Ha1.out hd2.below)
  have Hb2 := Aside0.mk (Kd.C_below Hb1.out hd2.below)
  have HW2 := Aside0.mk (below_step HW1.out hd2.below)
  clear Ha1 Hb1 HW1
  go_wp2_with fail
  go_ret
  exact ⟨rfl, HW2.out⟩
set_option maxRecDepth 100000 in
set_option maxHeartbeats 8000000 in
theorem makes_many2 (A0 : Option Addr) (c0 : Nat) (a : List ByteArray) (A1 : Option Addr) (c1 : Nat) (b : List ByteArray) (w : World) (ha : Kd.C Kd.string w A0 a.length a) (hac : a.length ≤ c0) (hb : Kd.C Kd.string w A1 b.length b) (hbc : b.length ≤ c1) (k : Nat) (hk : snapferrylaw05_few.f k a = some true) (k1 : Nat) (hk1 : snapferrylaw05_few.f k1 b = some false) :
    Calls Try.prog 3 #[.slice A0 a.length c0, .slice A1 b.length c1] w fun e w' => e = .returned (.bool true) ∧ Below w.heap.size w w' := by
  go_enter Try.func3, Try.ntmps3
  go_wp2_with fail
  refine (awake w).mono ?_
  rintro e w1 ⟨rfl, hb1⟩
  have Ha1 := Aside0.mk (Kd.C_below ha hb1)
  have Hb1 := Aside0.mk (Kd.C_below hb hb1)
  have HW1 := Aside0.mk (below_step (Below.refl w.heap.size w) hb1)
  go_wp2_with fail
  refine (snapferrylaw05_few.calls k A0 c0 a true w1 Ha1.out hac hk).mono ?_
  rintro e w2 ⟨rfl, hd2⟩
  have Ha2 := Aside0.mk (Kd.C_below Ha1.out hd2.below)
  have Hb2 := Aside0.mk (Kd.C_below Hb1.out hd2.below)
  have HW2 := Aside0.mk (below_step HW1.out hd2.below)
  clear Ha1 Hb1 HW1
  go_wp2_with fail
  refine (snapferrylaw05_few.calls k1 A1 c1 b false w2 Hb2.out hbc hk1).mono ?_
  rintro e w3 ⟨rfl, hd3⟩
  have Ha3 := Aside0.mk (Kd.C_below Ha2.out hd3.below)
  have Hb3 := Aside0.mk (Kd.C_below Hb2.out hd3.below)
  have HW3 := Aside0.mk (below_step HW2.out hd3.below)
  clear Ha2 Hb2 HW2
  go_wp2_with fail
  go_ret
  exact ⟨rfl, HW3.out⟩
theorem makes_all (A0 : Option Addr) (c0 : Nat) (a : List ByteArray) (A1 : Option Addr) (c1 : Nat) (b : List ByteArray) (w : World) (ha : Kd.C Kd.string w A0 a.length a) (hac : a.length ≤ c0) (hb : Kd.C Kd.string w A1 b.length b) (hbc : b.length ≤ c1) :
    Calls Try.prog 3 #[.slice A0 a.length c0, .slice A1 b.length c1] w fun e w' => e = .returned (.bool true) ∧ Below w.heap.size w w' := by
  rcases few_or a ha.2.1 with ⟨k, hk, hal⟩ | ⟨k, hk⟩
  · rcases few_or b hb.2.1 with ⟨k1, hk1, hbl⟩ | ⟨k1, hk1⟩
    · exact makes_walk A0 c0 a A1 c1 b w ha hac hb hbc k hk hal k1 hk1 hbl
    · exact makes_many2 A0 c0 a A1 c1 b w ha hac hb hbc k hk k1 hk1
  · exact makes_many A0 c0 a A1 c1 b w ha hac hb hbc k hk
end Go.Proofs.Ytcnlcmkhfdpidaa.Grid
