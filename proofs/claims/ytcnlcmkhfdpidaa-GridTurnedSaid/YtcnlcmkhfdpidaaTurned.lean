/- GridTurned: its walk. -/
import Derived.Test.YtcnlcmkhfdpidaaEnds
namespace Go.Proofs.Ytcnlcmkhfdpidaa.Grid
set_option linter.unusedVariables false
set_option linter.unusedSimpArgs false
open Go.RowKit Go.Proofs.Ytcnlcmkhfdpidaa.Q Go.Proofs.YtcnlcmkhfdpidaaW.PrintWords Go.Proofs.YtcnlcmkhfdpidaaW.PrintLast Go.Proofs.YtcnlcmkhfdpidaaW.PrintMore
/-! ### a common text -/
def hasB (x : ByteArray) (b : List ByteArray) : Bool := b.any fun y => eqB x y
def commB (a b : List ByteArray) : Bool := a.any fun x => hasB x b
theorem hasB_snoc (x : ByteArray) (b : List ByteArray) {y : Nat} (h : y < b.length) : hasB x (b.take (y + 1)) = (hasB x (b.take y) || eqB x (rt b y)) := by
  unfold hasB
  rw [List.take_succ_eq_append_getElem h, List.any_append, ← rt_get h]
  simp
theorem commB_snoc (a b : List ByteArray) {i : Nat} (h : i < a.length) : commB (a.take (i + 1)) b = (commB (a.take i) b || hasB (rt a i) b) := by
  unfold commB
  rw [List.take_succ_eq_append_getElem h, List.any_append, ← rt_get h]
  simp
theorem commB_G (a b : List ByteArray) : decide (0 < G a b) = commB a b := by
  rw [Bool.eq_iff_iff, decide_eq_true_iff, G_pos]
  unfold commB hasB
  simp only [List.any_eq_true, eqB_iff]
  constructor
  · rintro ⟨x, h1, h2⟩
    exact ⟨x, h1, x, h2, rfl⟩
  · rintro ⟨x, h1, y, h2, rfl⟩
    exact ⟨x, h1, h2⟩
set_option maxRecDepth 100000 in
set_option maxHeartbeats 8000000 in
theorem turned_walk (A0 : Option Addr) (c0 : Nat) (a : List ByteArray) (A1 : Option Addr) (c1 : Nat) (b : List ByteArray) (w : World) (ha : Kd.C Kd.string w A0 a.length a) (hac : a.length ≤ c0) (hb : Kd.C Kd.string w A1 b.length b) (hbc : b.length ≤ c1) (k : Nat) (hk : snapferrylaw05_few.f k a = some true) (hal : a.length ≤ 60) (k1 : Nat) (hk1 : snapferrylaw05_few.f k1 b = some true) (hbl : b.length ≤ 60) :
    Calls Try.prog 4 #[.slice A0 a.length c0, .slice A1 b.length c1] w fun e w' => e = .returned (.bool true) ∧ Below w.heap.size w w' := by
  go_enter Try.func4, Try.ntmps4
  go_wp2_with fail
  refine (awake w).mono ?_
  rintro e w1 ⟨rfl, hb1⟩
  have Ha1 := Aside0.mk (Kd.C_below ha hb1)
  have Hb1 := Aside0.mk (Kd.C_below hb hb1)
  have HW1 := Aside0.mk (below_step (Below.refl w.heap.size w) hb1)
  go_wp2_with fail
  refine (snapferrylaw05_few.calls k A0 c0 a true w1 Ha1.out hac hk).mono ?_
  rintro e w2 ⟨rfl, hd2⟩
  have Ha2 := Aside0.mk (Kd.C_below Ha1.out hd2.below)
  have Hb2 := Aside0.mk (Kd.C_below Hb1.out hd2.below)
  have HW2 := Aside0.mk (below_step HW1.out hd2.below)
  clear Ha1 Hb1 HW1
  go_wp2_with fail
  refine (snapferrylaw05_few.calls k1 A1 c1 b true w2 Hb2.out hbc hk1).mono ?_
  rintro e w3 ⟨rfl, hd3⟩
  have Ha3 := Aside0.mk (Kd.C_below Ha2.out hd3.below)
  have Hb3 := Aside0.mk (Kd.C_below Hb2.out hd3.below)
  have HW3 := Aside0.mk (below_step HW2.out hd3.below)
  clear Ha2 Hb2 HW2
  go_wp2_with fail
  refine (Path A0 c0 a A1 c1 b w3 Ha3.out Hb3.out (by omega) (by omega)).mono ?_
  rintro e w4 ⟨⟨v4, rfl, hp4⟩, hb4⟩
  obtain ⟨AP, cP, rfl⟩ := Kd.R_slice hp4
  have HLP := Aside0.mk (Kd.R_reads' hp4).2.1
  have HP4 := Aside0.mk (Kd.R_reads' hp4).2.2
  clear hp4
  have Ha4 := Aside0.mk (Kd.C_below Ha3.out hb4)
  have Hb4 := Aside0.mk (Kd.C_below Hb3.out hb4)
  have HW4 := Aside0.mk (below_step HW3.out hb4)
  clear Ha3 Hb3 HW3
  go_wp2_with fail
  refine (Path A1 c1 b A0 c0 a w4 Hb4.out Ha4.out (by omega) (by omega)).mono ?_
  rintro e w5 ⟨⟨v5, rfl, hp5⟩, hb5⟩
  obtain ⟨AQ, cQ, rfl⟩ := Kd.R_slice hp5
  have HLQ := Aside0.mk (Kd.R_reads' hp5).2.1
  have HQ5 := Aside0.mk (Kd.R_reads' hp5).2.2
  clear hp5
  have Ha5 := Aside0.mk (Kd.C_below Ha4.out hb5)
  have Hb5 := Aside0.mk (Kd.C_below Hb4.out hb5)
  have HP5 := Aside0.mk (Kd.C_below HP4.out hb5)
  have HW5 := Aside0.mk (below_step HW4.out hb5)
  clear Ha4 Hb4 HP4 HW4
  go_wp2_with fail
  refine (Path A0 c0 a A0 c0 a w5 Ha5.out Ha5.out (by omega) (by omega)).mono ?_
  rintro e w6 ⟨⟨v6, rfl, hp6⟩, hb6⟩
  obtain ⟨AS, cS, rfl⟩ := Kd.R_slice hp6
  have HLS := Aside0.mk (Kd.R_reads' hp6).2.1
  have HS6 := Aside0.mk (Kd.R_reads' hp6).2.2
  clear hp6
  have Ha6 := Aside0.mk (Kd.C_below Ha5.out hb6)
  have Hb6 := Aside0.mk (Kd.C_below Hb5.out hb6)
  have HP6 := Aside0.mk (Kd.C_below HP5.out hb6)
  have HQ6 := Aside0.mk (Kd.C_below HQ5.out hb6)
  have HW6 := Aside0.mk (below_step HW5.out hb6)
  clear Ha5 Hb5 HP5 HQ5 HW5
  go_wp2_with fail
  have HA := Aside0.mk Ha6.out
  have HB := Aside0.mk Hb6.out
  have hab0 : commB (a.take 0) b = false := by rw [List.take_zero]; rfl
  go_loopg [11, 12] a.length (fun kq v11 v12 wr => ∃ i : Nat, v12 = .int .i64 i ∧ v11 = .bool (commB (a.take i) b) ∧ Aside0 (i + kq = a.length) ∧ Aside0 (Below w6.heap.size w6 wr))
  case atStart => exact ⟨0, rfl, by rw [hab0], ⟨Nat.zero_add _⟩, ⟨Below.refl _ _⟩⟩
  case round =>
    obtain ⟨i, rfl, rfl, HK, HBB⟩ := hrel
    clear hab0
    by_cases c2 : i < a.length
    · have c2b : decide ((i : Int) < (a.length : Int)) = true := decide_eq_true (by omega)
      obtain ⟨m, rfl⟩ : ∃ m, gk = m + 1 := ⟨gk - 1, by have := HK.out; omega⟩
      obtain ⟨ada, i1, hx0⟩ := Kd.at_string HA.out (i : Int) (by omega) (by omega)
      have hx1 : w6.cell? (ada.add i) = some (.string (rt a i)) := hx0
      have LA := Aside0.mk (World.block_lt_of_cell? w6 _ hx1)
      have HX := Aside0.mk hx1
      have hsn := commB_snoc a b c2
      have HS := Aside0.mk hsn
      have r1 : IntKind.i64.wrap ((i : Int) + 1) = (i : Int) + 1 := IntWalk.i64_in _ (by omega)
      have q9 := eq_true (show (0 : Int) ≤ (i : Int) by omega)
      have p1 := eq_true c2
      have p3 := eq_true (show (i : Int) < (a.length : Int) by omega)
      clear hx0 hx1 hsn
      generalize hcc : commB (a.take i) b = cc at *
      obtain ⟨W1, rfl⟩ : ∃ W, W = wr := ⟨_, rfl⟩
      go_wp2_with fail
      go_loopg [11, 13] b.length (fun kq v11 v13 wr => ∃ y : Nat, v13 = .int .i64 y ∧ v11 = .bool (cc || hasB (rt a i) (b.take y)) ∧ Aside0 (y + kq = b.length) ∧ Aside0 (Below w6.heap.size w6 wr))
      case atStart => exact ⟨0, rfl, by rw [List.take_zero, show hasB (rt a i) [] = false from rfl, Bool.or_false], ⟨Nat.zero_add _⟩, HBB⟩
      case round =>
        obtain ⟨y, rfl, rfl, HK2, HB2⟩ := hrel
        by_cases c3 : y < b.length
        · have c3b : decide ((y : Int) < (b.length : Int)) = true := decide_eq_true (by omega)
          cases i1
          obtain ⟨adb, i2, hy0⟩ := Kd.at_string HB.out (y : Int) (by omega) (by omega)
          cases i2
          have hy1 : w6.cell? (adb.add y) = some (.string (rt b y)) := hy0
          have LB := Aside0.mk (World.block_lt_of_cell? w6 _ hy1)
          have hx := (HB2.out.cell LA.out).trans HX.out
          have hy := (HB2.out.cell LB.out).trans hy1
          have r2 : IntKind.i64.wrap ((y : Int) + 1) = (y : Int) + 1 := IntWalk.i64_in _ (by omega)
          have q10 := eq_true (show (0 : Int) ≤ (y : Int) by omega)
          have p2 := eq_true c3
          have p4 := eq_true (show (y : Int) < (b.length : Int) by omega)
          have HS2 := Aside0.mk (show (cc || hasB (rt a i) (b.take (y + 1))) = ((cc || hasB (rt a i) (b.take y)) || eqB (rt a i) (rt b y)) by rw [hasB_snoc _ _ c3, Bool.or_assoc])
          clear hy0 hy1
          generalize (cc || hasB (rt a i) (b.take y)) = dd at *
          cases dd with
          | true =>
            rw [Bool.true_or] at HS2
            go_upto_region 15 with fail
            go_quiet (fail)
            have HB3 := Aside0.mk (pw_below_drewN HB2.out nq)
            generalize wr.drewN nq = W2 at *
            clear hx hy
            go_wp2_with fail
            go_roundg (gk - 1)
            case measure => have := HK2.out; omega
            case rel => exact ⟨y + 1, by go_num, by rw [HS2.out], ⟨by have := HK2.out; omega⟩, HB3⟩
          | false =>
            rw [Bool.false_or] at HS2
            go_upto_region 15 with fail
            go_quiet (fail)
            have HB3 := Aside0.mk (pw_below_drewN HB2.out nq)
            generalize wr.drewN nq = W2 at *
            clear hx hy
            go_wp2_with fail
            go_roundg (gk - 1)
            case measure => have := HK2.out; omega
            case rel => exact ⟨y + 1, by go_num, by rw [HS2.out]; rfl, ⟨by have := HK2.out; omega⟩, HB3⟩
        · have c3b : decide ((y : Int) < (b.length : Int)) = false := decide_eq_false (by omega)
          have c3n : decide (y < b.length) = false := decide_eq_false c3
          go_wp2_with fail
          go_roundg m
          case measure => omega
          case rel => exact ⟨i + 1, by go_num, by rw [HS.out, List.take_of_length_le (by omega)], ⟨by have := HK.out; omega⟩, HB2⟩
    · have c2b : decide ((i : Int) < (a.length : Int)) = false := decide_eq_false (by omega)
      have c2n : decide (i < a.length) = false := decide_eq_false c2
      rw [List.take_of_length_le (by omega), ← commB_G]
      have HW := Aside0.mk (below_step HW6.out HBB.out)
      have HP := Aside0.mk (Kd.C_below HP6.out HBB.out)
      have HQ := Aside0.mk (Kd.C_below HQ6.out HBB.out)
      have HS := Aside0.mk (Kd.C_below HS6.out HBB.out)
      have pl := path_length a a
      have gs := G_self a
      have ws : ((path a a).length : Int) = (a.length : Int) := by omega
      have bs : (((path a a).length : Int) == (a.length : Int)) = true := beq_iff_eq.2 ws
      have bs2 : ((path a a).length == a.length) = true := beq_iff_eq.2 (by omega)
      clear pl
      go_wp2_with fail
      refine (Same AP cP (path a b) wr HP.out (path_len _ _ (by omega) (by omega)) (path_steps _ _)).mono ?_
      rw [path_same]
      rintro e w7 ⟨rfl, rfl⟩
      go_wp2_with fail
      refine (Same AQ cQ (path b a) w7 HQ.out (path_len _ _ (by omega) (by omega)) (path_steps _ _)).mono ?_
      rw [path_same, G_comm b a]
      rintro e w8 ⟨rfl, rfl⟩
      go_wp2_with fail
      refine (Same AS cS (path a a) w8 HS.out (path_len _ _ (by omega) (by omega)) (path_steps _ _)).mono ?_
      rw [path_same, gs]
      rintro e w9 ⟨rfl, rfl⟩
      go_wp2_with fail
      refine (Same AP cP (path a b) w9 HP.out (path_len _ _ (by omega) (by omega)) (path_steps _ _)).mono ?_
      rw [path_same]
      rintro e w10 ⟨rfl, rfl⟩
      go_wp2_with fail
      go_ret
      exact ⟨rfl, HW.out⟩
set_option maxRecDepth 100000 in
set_option maxHeartbeats 8000000 in
theorem turned_many (A0 : Option Addr) (c0 : Nat) (a : List ByteArray) (A1 : Option Addr) (c1 : Nat) (b : List ByteArray) (w : World) (ha : Kd.C Kd.string w A0 a.length a) (hac : a.length ≤ c0) (hb : Kd.C Kd.string w A1 b.length b) (hbc : b.length ≤ c1) (k : Nat) (hk : snapferrylaw05_few.f k a = some false) :
    Calls Try.prog 4 #[.slice A0 a.length c0, .slice A1 b.length c1] w fun e w' => e = .returned (.bool true) ∧ Below w.heap.size w w' := by
  go_enter Try.func4, Try.ntmps4
  go_wp2_with fail
  refine (awake w).mono ?_
  rintro e w1 ⟨rfl, hb1⟩
  have Ha1 := Aside0.mk (Kd.C_below ha hb1)
  have Hb1 := Aside0.mk (Kd.C_below hb hb1)
  have HW1 := Aside0.mk (below_step (Below.refl w.heap.size w) hb1)
  go_wp2_with fail
  refine (snapferrylaw05_few.calls k A0 c0 a false w1 Ha1.out hac hk).mono ?_
  rintro e w2 ⟨rfl, hd2⟩
  have Ha2 := Aside0.mk (Kd.C_below Ha1.out hd2.below)
  have Hb2 := Aside0.mk (Kd.C_below Hb1.out hd2.below)
  have HW2 := Aside0.mk (below_step HW1.out hd2.below)
  clear Ha1 Hb1 HW1
  go_wp2_with fail
  go_ret
  exact ⟨rfl, HW2.out⟩
set_option maxRecDepth 100000 in
set_option maxHeartbeats 8000000 in
theorem turned_many2 (A0 : Option Addr) (c0 : Nat) (a : List ByteArray) (A1 : Option Addr) (c1 : Nat) (b : List ByteArray) (w : World) (ha : Kd.C Kd.string w A0 a.length a) (hac : a.length ≤ c0) (hb : Kd.C Kd.string w A1 b.length b) (hbc : b.length ≤ c1) (k : Nat) (hk : snapferrylaw05_few.f k a = some true) (k1 : Nat) (hk1 : snapferrylaw05_few.f k1 b = some false) :
    Calls Try.prog 4 #[.slice A0 a.length c0, .slice A1 b.length c1] w fun e w' => e = .returned (.bool true) ∧ Below w.heap.size w w' := by
  go_enter Try.func4, Try.ntmps4
  go_wp2_with fail
  refine (awake w).mono ?_
  rintro e w1 ⟨rfl, hb1⟩
  have Ha1 := Aside0.mk (Kd.C_below ha hb1)
  have Hb1 := Aside0.mk (Kd.C_below hb hb1)
  have HW1 := Aside0.mk (below_step (Below.refl w.heap.size w) hb1)
  go_wp2_with fail
  refine (snapferrylaw05_few.calls k A0 c0 a true w1 Ha1.out hac hk).mono ?_
  rintro e w2 ⟨rfl, hd2⟩
  have Ha2 := Aside0.mk (Kd.C_below Ha1.out hd2.below)
  have Hb2 := Aside0.mk (Kd.C_below Hb1.out hd2.below)
  have HW2 := Aside0.mk (below_step HW1.out hd2.below)
  clear Ha1 Hb1 HW1
  go_wp2_with fail
  refine (snapferrylaw05_few.calls k1 A1 c1 b false w2 Hb2.out hbc hk1).mono ?_
  rintro e w3 ⟨rfl, hd3⟩
  have Ha3 := Aside0.mk (Kd.C_below Ha2.out hd3.below)
  have Hb3 := Aside0.mk (Kd.C_below Hb2.out hd3.below)
  have HW3 := Aside0.mk (below_step HW2.out hd3.below)
  clear Ha2 Hb2 HW2
  go_wp2_with fail
  go_ret
  exact ⟨rfl, HW3.out⟩
theorem turned_all (A0 : Option Addr) (c0 : Nat) (a : List ByteArray) (A1 : Option Addr) (c1 : Nat) (b : List ByteArray) (w : World) (ha : Kd.C Kd.string w A0 a.length a) (hac : a.length ≤ c0) (hb : Kd.C Kd.string w A1 b.length b) (hbc : b.length ≤ c1) :
    Calls Try.prog 4 #[.slice A0 a.length c0, .slice A1 b.length c1] w fun e w' => e = .returned (.bool true) ∧ Below w.heap.size w w' := by
  rcases few_or a ha.2.1 with ⟨k, hk, hal⟩ | ⟨k, hk⟩
  · rcases few_or b hb.2.1 with ⟨k1, hk1, hbl⟩ | ⟨k1, hk1⟩
    · exact turned_walk A0 c0 a A1 c1 b w ha hac hb hbc k hk hal k1 hk1 hbl
    · exact turned_many2 A0 c0 a A1 c1 b w ha hac hb hbc k hk k1 hk1
  · exact turned_many A0 c0 a A1 c1 b w ha hac hb hbc k hk
end Go.Proofs.Ytcnlcmkhfdpidaa.Grid
