/- The functions that this claim reaches, as plain Lean functions, and the proofs that the program comes to them: written by a program of this session out of the translation. Each contract stands under its own function answering. -/
import Derived.Test.YtgjaehagmfkamaaQx0
import Derived.Test.YtgjaehagmfkamaaQx1
namespace Go.Proofs.Ytgjaehagmfkamaa.Q
open Go.RowKit Go.Proofs.YtgjaehagmfkamaaW.PrintWords Go.Proofs.YtgjaehagmfkamaaW.PrintLast Go.Proofs.YtgjaehagmfkamaaW.PrintMore
attribute [local go_sem] max2_int min2_int max_two min_two max_three min_three max_four min_four   -- for this text's walks alone
set_option linter.unusedVariables false
set_option linter.unusedSimpArgs false

/-! ### snapferrylaw02_CrcBack: function 4 -/
def snapferrylaw02_CrcBack.j0 : Nat → ByteArray → Int → Bool → Option (Bool)
  | 0, _, _, _ => none
  | k + 1, x0, x1, x21 => if x21 = true then (some true) else ((crc_Seal.f x0).bind fun t147 => ((crc_Open.f t147).bind fun bt148 => (if bt148.1.toList = x0.toList then (if bt148.2 = 0 then ((crc_Sum.f (([x0] : List ByteArray))).bind fun t153 => (if 0 ≤ x1 then (if x1 ≤ (x0.size : Int) then ((crc_Sum.f (([x0.extract 0 (x1 : Int).toNat, x0.extract (x1 : Int).toNat x0.size] : List ByteArray))).bind fun t157 => (if t153 = t157 then ((crc_Seal.f x0).bind fun t158 => (some ((t158.size : Int) == (wrap64 ((x0.size : Int) + 4))))) else (some false))) else (none)) else (none))) else (some false)) else (some false))))
def snapferrylaw02_CrcBack.f (k : Nat) (a0 : ByteArray) (a1 : Int) : Option (Bool) := (snapferrylaw02_awake.f).bind fun t146 => (if t146 = true then (if (a0.size : Int) > 3000 then (snapferrylaw02_CrcBack.j0 k a0 a1 true) else (if a1 < 0 then (snapferrylaw02_CrcBack.j0 k a0 a1 true) else (snapferrylaw02_CrcBack.j0 k a0 a1 (decide (a1 > (a0.size : Int)))))) else (some false))
theorem snapferrylaw02_CrcBack.mono_l : ∀ k, (∀ y0 y1 y2, LeO (snapferrylaw02_CrcBack.j0 k y0 y1 y2) (snapferrylaw02_CrcBack.j0 (k + 1) y0 y1 y2))
  | 0 => fun _ _ _ r h => by simp [snapferrylaw02_CrcBack.j0] at h
  | k + 1 => by
    have ih0 := snapferrylaw02_CrcBack.mono_l k
    · intro y0 y1 y2
      unfold snapferrylaw02_CrcBack.j0
      repeat' first
      | (with_reducible exact ih0 _ _ _)
      | (with_reducible exact LeO.refl _)
      | (with_reducible exact LeO.none _)
      | (with_reducible refine LeO.ite ?_ ?_)
      | (with_reducible refine LeO.bind ?_ (fun _ => ?_))
      | exact ih0 _ _ _
      | exact LeO.none _
      | refine LeO.ite ?_ ?_
      | refine LeO.bind ?_ (fun _ => ?_)
theorem snapferrylaw02_CrcBack.mono : ∀ a0 a1 k, LeO (snapferrylaw02_CrcBack.f k a0 a1) (snapferrylaw02_CrcBack.f (k + 1) a0 a1) := by
  intro a0 a1 k
  have ih0 := snapferrylaw02_CrcBack.mono_l k
  unfold snapferrylaw02_CrcBack.f
  repeat' first
      | (with_reducible exact ih0 _ _ _)
      | (with_reducible exact LeO.refl _)
      | (with_reducible exact LeO.none _)
      | (with_reducible refine LeO.ite ?_ ?_)
      | (with_reducible refine LeO.bind ?_ (fun _ => ?_))
      | exact ih0 _ _ _
      | exact LeO.none _
      | refine LeO.ite ?_ ?_
      | refine LeO.bind ?_ (fun _ => ?_)
def snapferrylaw02_CrcBack.T6 : Bool × List (List Nat × List Nat) := (true, [([], []), ([], []), ([0, 1], [0, 1]), ([2], [2]), ([3], [3]), ([4, 3], [3, 4]), ([3, 5], [3, 5]), ([6, 3], [6]), ([7], [7]), ([8, 7], [7, 8]), ([9, 7, 7], [7, 9]), ([7], [7]), ([7], [7]), ([11, 12, 7], [7, 11, 12]), ([7], [7]), ([7], [7]), ([14, 15, 7], [7, 14, 15]), ([13, 16, 7], [7, 13, 16]), ([17, 10, 7], [7, 17]), ([10, 18, 7], [7, 10, 18]), ([7, 19], [7, 19]), ([20, 18], [20]), ([21], [21]), ([22, 21, 21], [21, 22]), ([23, 21], [21, 23]), ([21], [21]), ([25, 21], [21, 25]), ([26, 21], [21, 26]), ([24, 27, 21], [21, 24, 27]), ([21, 28], [21, 28]), ([29, 23, 0, 1, 2, 3, 4, 5, 6, 7, 8, 9, 10, 11, 12, 13, 14, 15, 16, 17, 18, 19, 20, 21, 22, 23, 24, 25, 26, 27, 28, 29], [29])])
def snapferrylaw02_CrcBack.B6 : List Nat := [0, 0, 3, 7, 15, 31, 63, 127, 255, 511, 1023, 255, 255, 6399, 255, 255, 49407, 129279, 262143, 524287, 1048575, 2097151, 4194303, 8388607, 16777215, 4194303, 37748735, 104857599, 268435455, 536870911, 1073741823]
theorem snapferrylaw02_CrcBack.tab6 : rtab .any (opsOf Try.f4 6) = snapferrylaw02_CrcBack.T6 := by kernel_rfl
theorem snapferrylaw02_CrcBack.bits6 : waitsOk snapferrylaw02_CrcBack.T6.2 snapferrylaw02_CrcBack.B6 = true := by kernel_rfl
set_option maxHeartbeats 8000000 in
set_option maxRecDepth 100000 in
theorem snapferrylaw02_CrcBack.calls (k : Nat) (a0 : ByteArray) (a1 : Int) (r : Bool) (w : World) (h : snapferrylaw02_CrcBack.f k a0 a1 = some r) :
    Calls Try.prog 4 #[.string a0, .int .i64 a1] w fun e w' => e = .returned (.bool r) ∧ Below w.heap.size w w' := by
  have HB := Aside0.mk (Below.refl w.heap.size w)
  have H : ((snapferrylaw02_awake.f).bind fun t146 => (if t146 = true then (if (a0.size : Int) > 3000 then (snapferrylaw02_CrcBack.j0 k a0 a1 true) else (if a1 < 0 then (snapferrylaw02_CrcBack.j0 k a0 a1 true) else (snapferrylaw02_CrcBack.j0 k a0 a1 (decide (a1 > (a0.size : Int)))))) else (some false))) = some r := h
  clear h
  replace H := Option.bind_eq_some_iff.mp H
  obtain ⟨t146, A30, H⟩ := H
  replace H : (if t146 = true then (if (a0.size : Int) > 3000 then (snapferrylaw02_CrcBack.j0 k a0 a1 true) else (if a1 < 0 then (snapferrylaw02_CrcBack.j0 k a0 a1 true) else (snapferrylaw02_CrcBack.j0 k a0 a1 (decide (a1 > (a0.size : Int)))))) else (some false)) = some r := H
  have A3 := Aside0.mk A30
  clear A30
  by_cases c4 : t146 = true
  · subst c4
    have H1 : (if (a0.size : Int) > 3000 then (snapferrylaw02_CrcBack.j0 k a0 a1 true) else (if a1 < 0 then (snapferrylaw02_CrcBack.j0 k a0 a1 true) else (snapferrylaw02_CrcBack.j0 k a0 a1 (decide (a1 > (a0.size : Int)))))) = some r := by rw [if_pos rfl] at H; exact H
    clear H
    have H := H1
    clear H1
    have HC5 := Aside0.mk H
    clear H
    go_enter Try.func4, Try.ntmps4
    go_upto_region 3 with (first | ((with_reducible refine gate_callee (f := 7) rfl ?_); refine goesL_ (some 7) rfl rfl Try.func7 (by kernel_rfl) rfl #[] rfl (by (try simp only [List.map_toArray, List.map_cons, List.map_nil]); first | done | rfl | (simp only [List.length_drop, List.length_take]; rfl)) ?_; (with_reducible refine (snapferrylaw02_awake.calls  true _ A3.out).mono ?_); rintro e w6 ⟨rfl, hb⟩; refine ⟨_, rfl, ?_⟩; have n0_ := Aside0.mk (below_step (by repeat (first | (with_reducible first | exact HB.out | apply below_alloc | apply pw_below_drewN | apply below_drew1) | exact HB.out)) hb); clear HB; have HB := n0_; clear n0_; (try clear hb); (try clear hb2); (try clear hk); (try clear hi)))
    (try simp only [Act.put, List.setIfInBounds_toArray, List.set_cons_zero, List.set_cons_succ])
    go_cut [21] (fun v21 wc => ∃ (kq : Nat) (x21_4 : Bool), v21 = .bool x21_4 ∧ Aside0 (snapferrylaw02_CrcBack.j0 kq a0 a1 x21_4 = some r) ∧ Aside0 (kq ≤ k) ∧ Aside0 (Below w.heap.size w wc))
    case first =>
      have H := HC5.out
      clear HC5
      by_cases c7 : (a0.size : Int) > 3000
      · rw [if_pos c7] at H
        have c7b0 : decide (3000 < (a0.size : Int)) = true := decide_eq_true c7
        have c7b1 : decide (3000 < a0.size) = true := decide_eq_true (by omega)
        clear c7
        (first | rw [c7b0] | (simp only [i64_w, i32_w]; rw [c7b0]) | skip)
        have H' := Aside0.mk H
        clear H
        go_wp2
        go_meet
        case rel => exact ⟨_, (true), (by first | rfl | (simp; done) | (simp [*]; done)), H', ⟨by first | omega | exact Nat.le_refl _⟩, ⟨by repeat (first | (with_reducible first | exact HB.out | apply below_alloc | apply pw_below_drewN | apply below_drew1) | exact HB.out)⟩⟩
      · rw [if_neg c7] at H
        have c7b0 : decide (3000 < (a0.size : Int)) = false := decide_eq_false c7
        have c7b1 : decide (3000 < a0.size) = false := decide_eq_false (by omega)
        clear c7
        (first | rw [c7b0] | (simp only [i64_w, i32_w]; rw [c7b0]) | skip)
        by_cases c8 : a1 < 0
        · rw [if_pos c8] at H
          have c8b0 : decide (a1 < 0) = true := decide_eq_true c8
          clear c8
          have H' := Aside0.mk H
          clear H
          go_wp2
          go_meet
          case rel => exact ⟨_, (true), (by first | rfl | (simp; done) | (simp [*]; done)), H', ⟨by first | omega | exact Nat.le_refl _⟩, ⟨by repeat (first | (with_reducible first | exact HB.out | apply below_alloc | apply pw_below_drewN | apply below_drew1) | exact HB.out)⟩⟩
        · rw [if_neg c8] at H
          have c8b0 : decide (a1 < 0) = false := decide_eq_false c8
          clear c8
          have H' := Aside0.mk H
          clear H
          go_wp2
          go_meet
          case rel => exact ⟨_, (decide (a1 > (a0.size : Int))), (by first | rfl | (simp; done) | (simp [*]; done)), H', ⟨by first | omega | exact Nat.le_refl _⟩, ⟨by repeat (first | (with_reducible first | exact HB.out | apply below_alloc | apply pw_below_drewN | apply below_drew1) | exact HB.out)⟩⟩
    case rest =>
      clear HC5
      try clear p2
      try clear c4
      try clear c7
      try clear c7b0
      try clear c7b1
      try clear c8
      try clear c8b0
      obtain ⟨kq, x21_4, rfl, HA, HJ4, HB⟩ := hcut
      cases kq with
      | zero => exact absurd HA.out (by simp [snapferrylaw02_CrcBack.j0])
      | succ kj4 =>
        have H := HA.out
        clear HA
        simp only [snapferrylaw02_CrcBack.j0] at H
        by_cases c9 : x21_4 = true
        · subst c9
          have H1 : (some true) = some r := by rw [if_pos rfl] at H; exact H
          clear H
          have H := H1
          clear H1
          obtain rfl := Option.some.inj H
          go_wp2
          go_ret
          exact ⟨by first | rfl | (simp [errW_none, errW_some] <;> rfl) | (simp [*, errW_none, errW_some] <;> rfl), by repeat (first | (with_reducible first | exact HB.out | apply below_alloc | apply pw_below_drewN | apply below_drew1) | exact HB.out)⟩
        · replace c9 := Bool.eq_false_iff.mpr c9
          subst c9
          have H1 : ((crc_Seal.f a0).bind fun t147 => ((crc_Open.f t147).bind fun bt148 => (if bt148.1.toList = a0.toList then (if bt148.2 = 0 then ((crc_Sum.f (([a0] : List ByteArray))).bind fun t153 => (if 0 ≤ a1 then (if a1 ≤ (a0.size : Int) then ((crc_Sum.f (([a0.extract 0 (a1 : Int).toNat, a0.extract (a1 : Int).toNat a0.size] : List ByteArray))).bind fun t157 => (if t153 = t157 then ((crc_Seal.f a0).bind fun t158 => (some ((t158.size : Int) == (wrap64 ((a0.size : Int) + 4))))) else (some false))) else (none)) else (none))) else (some false)) else (some false)))) = some r := by rw [if_neg (show ¬ (false = true) by decide)] at H; exact H
          clear H
          have H := H1
          clear H1
          replace H := Option.bind_eq_some_iff.mp H
          obtain ⟨t147, A100, H⟩ := H
          replace H : ((crc_Open.f t147).bind fun bt148 => (if bt148.1.toList = a0.toList then (if bt148.2 = 0 then ((crc_Sum.f (([a0] : List ByteArray))).bind fun t153 => (if 0 ≤ a1 then (if a1 ≤ (a0.size : Int) then ((crc_Sum.f (([a0.extract 0 (a1 : Int).toNat, a0.extract (a1 : Int).toNat a0.size] : List ByteArray))).bind fun t157 => (if t153 = t157 then ((crc_Seal.f a0).bind fun t158 => (some ((t158.size : Int) == (wrap64 ((a0.size : Int) + 4))))) else (some false))) else (none)) else (none))) else (some false)) else (some false))) = some r := H
          have A10 := Aside0.mk A100
          clear A100
          replace H := Option.bind_eq_some_iff.mp H
          obtain ⟨⟨t148, t149⟩, A110, H⟩ := H
          replace H : (if t148.toList = a0.toList then (if t149 = 0 then ((crc_Sum.f (([a0] : List ByteArray))).bind fun t153 => (if 0 ≤ a1 then (if a1 ≤ (a0.size : Int) then ((crc_Sum.f (([a0.extract 0 (a1 : Int).toNat, a0.extract (a1 : Int).toNat a0.size] : List ByteArray))).bind fun t157 => (if t153 = t157 then ((crc_Seal.f a0).bind fun t158 => (some ((t158.size : Int) == (wrap64 ((a0.size : Int) + 4))))) else (some false))) else (none)) else (none))) else (some false)) else (some false)) = some r := H
          have A11 := Aside0.mk A110
          clear A110
          by_cases c12 : t148.toList = a0.toList
          · rw [if_pos c12] at H
            have c12b0 : (t148.toList == a0.toList) = true := beq_iff_eq.mpr c12
            have c12b1 : (t148.toList != a0.toList) = false := bne_eq_false_iff_eq.mpr c12
            clear c12
            by_cases c13 : t149 = 0
            · rw [if_pos c13] at H
              have c13b0 : (t149 == 0) = true := beq_iff_eq.mpr c13
              have c13b1 : (t149 != 0) = false := bne_eq_false_iff_eq.mpr c13
              clear c13
              obtain ⟨y150, hy150⟩ : ∃ y_ : List ByteArray, y_ = (([a0] : List ByteArray)) := ⟨_, rfl⟩
              replace H : ((crc_Sum.f y150).bind fun t153 => (if 0 ≤ a1 then (if a1 ≤ (a0.size : Int) then ((crc_Sum.f (([a0.extract 0 (a1 : Int).toNat, a0.extract (a1 : Int).toNat a0.size] : List ByteArray))).bind fun t157 => (if t153 = t157 then ((crc_Seal.f a0).bind fun t158 => (some ((t158.size : Int) == (wrap64 ((a0.size : Int) + 4))))) else (some false))) else (none)) else (none))) = some r := by first | (rw [hy150]; with_reducible exact H) | (have H2_ := (Option.bind_some _ _).symm.trans H; rw [hy150]; with_reducible exact H2_) | (have H2_ := (Option.bind_some _ _).symm.trans H; with_reducible exact H2_) | with_reducible exact H | (rw [hy150]; exact H) | exact H
              have Ny150 := Aside0.mk hy150
              clear hy150
              replace H := Option.bind_eq_some_iff.mp H
              obtain ⟨t153, A140, H⟩ := H
              replace H : (if 0 ≤ a1 then (if a1 ≤ (a0.size : Int) then ((crc_Sum.f (([a0.extract 0 (a1 : Int).toNat, a0.extract (a1 : Int).toNat a0.size] : List ByteArray))).bind fun t157 => (if t153 = t157 then ((crc_Seal.f a0).bind fun t158 => (some ((t158.size : Int) == (wrap64 ((a0.size : Int) + 4))))) else (some false))) else (none)) else (none)) = some r := H
              have A14 := Aside0.mk A140
              clear A140
              by_cases c15 : 0 ≤ a1
              · rw [if_pos c15] at H
                have c15b0 := eq_true c15
                have c15b1 : decide (0 ≤ a1) = true := decide_eq_true c15
                clear c15
                by_cases c16 : a1 ≤ (a0.size : Int)
                · rw [if_pos c16] at H
                  have c16b0 := eq_true c16
                  have c16b1 : decide (a1 ≤ (a0.size : Int)) = true := decide_eq_true c16
                  clear c16
                  have c17b0 := eq_true (of_decide_eq_true (by first | (with_reducible assumption) | assumption) : 0 ≤ a1)
                  have c18b0 := eq_true (of_decide_eq_true (by first | (with_reducible assumption) | assumption) : a1 ≤ (a0.size : Int))
                  obtain ⟨y154, hy154⟩ : ∃ y_ : List ByteArray, y_ = (([a0.extract 0 (a1 : Int).toNat, a0.extract (a1 : Int).toNat a0.size] : List ByteArray)) := ⟨_, rfl⟩
                  replace H : ((crc_Sum.f y154).bind fun t157 => (if t153 = t157 then ((crc_Seal.f a0).bind fun t158 => (some ((t158.size : Int) == (wrap64 ((a0.size : Int) + 4))))) else (some false))) = some r := by first | (rw [hy154]; with_reducible exact H) | (have H2_ := (Option.bind_some _ _).symm.trans H; rw [hy154]; with_reducible exact H2_) | (have H2_ := (Option.bind_some _ _).symm.trans H; with_reducible exact H2_) | with_reducible exact H | (rw [hy154]; exact H) | exact H
                  have Ny154 := Aside0.mk hy154
                  clear hy154
                  replace H := Option.bind_eq_some_iff.mp H
                  obtain ⟨t157, A190, H⟩ := H
                  replace H : (if t153 = t157 then ((crc_Seal.f a0).bind fun t158 => (some ((t158.size : Int) == (wrap64 ((a0.size : Int) + 4))))) else (some false)) = some r := H
                  have A19 := Aside0.mk A190
                  clear A190
                  by_cases c20 : t153 = t157
                  · rw [if_pos c20] at H
                    have c20b0 : (t153 == t157) = true := beq_iff_eq.mpr c20
                    have c20b1 : (t153 != t157) = false := bne_eq_false_iff_eq.mpr c20
                    clear c20
                    replace H := Option.bind_eq_some_iff.mp H
                    obtain ⟨t158, A210, H⟩ := H
                    replace H : (some ((t158.size : Int) == (wrap64 ((a0.size : Int) + 4)))) = some r := H
                    have A21 := Aside0.mk A210
                    clear A210
                    obtain rfl := Option.some.inj H
                    try go_wp2_with (first | ((with_reducible refine gate_callee (f := 12) rfl ?_); refine goesL_ (some 24) rfl rfl Try.func12 (by kernel_rfl) rfl #[.string a0] rfl (by (try simp only [List.map_toArray, List.map_cons, List.map_nil]); first | done | rfl | (simp only [List.length_drop, List.length_take]; rfl)) ?_; (with_reducible refine (crc_Seal.calls a0 t147 _ A10.out).mono ?_); rintro e w22 ⟨rfl, hb⟩; refine ⟨_, rfl, ?_⟩; have n0_ := Aside0.mk (below_step (by repeat (first | (with_reducible first | exact HB.out | apply below_alloc | apply pw_below_drewN | apply below_drew1) | exact HB.out)) hb); clear HB; have HB := n0_; clear n0_; (try clear hb); (try clear hb2); (try clear hk); (try clear hi)) | ((with_reducible refine gate_callee (f := 8) rfl ?_); refine goesL_ (some 25) rfl rfl Try.func8 (by kernel_rfl) rfl #[.string t147] rfl (by (try simp only [List.map_toArray, List.map_cons, List.map_nil]); first | done | rfl | (simp only [List.length_drop, List.length_take]; rfl)) ?_; (with_reducible refine (crc_Open.calls t147 t148 t149 _ A11.out).mono ?_); rintro e w23 ⟨rfl, hb⟩; refine ⟨_, rfl, ?_⟩; have n0_ := Aside0.mk (below_step (by repeat (first | (with_reducible first | exact HB.out | apply below_alloc | apply pw_below_drewN | apply below_drew1) | exact HB.out)) hb); clear HB; have HB := n0_; clear n0_; (try clear hb); (try clear hb2); (try clear hk); (try clear hi)))
                    have n0_ := Aside0.mk (below_drew1 HB.out)
                    clear HB
                    have HB := n0_
                    clear n0_
                    refine start_ (n := 31) (S := fun w' => True) (ds := []) #[false, false, false, false, false, false, false, false, false, false, false, false, false, false, false, false, false, false, false, false, false, false, false, false, false, false, false, false, false, false, false] (by kernel_rfl) rfl rfl trivial (fun hHeld => ?_); refine with_tabW snapferrylaw02_CrcBack.tab6 snapferrylaw02_CrcBack.bits6 (fun HT_ HW_ => ?_)
                    generalize w23.drew = w24 at HB hHeld ⊢
                    refine pure_ (i := 0) (N := some 28) (v := ?_) (a' := ?_) #[true, false, false, false, false, false, false, false, false, false, false, false, false, false, false, false, false, false, false, false, false, false, false, false, false, false, false, false, false, false, false] rfl rfl (any_of HT_.out (by kernel_rfl)) (fun _ _ _ h => h) (Or.inl ⟨by rfl, ?_⟩) ?_ ?_
                    rotate_left
                    · intro w'
                      go_simp
                      with_reducible rfl
                    rotate_left
                    · simp only [Act.put, List.setIfInBounds_toArray, List.set_cons_zero, List.set_cons_succ, i64_w, i32_w]
                      rfl
                    refine pure_ (i := 1) (N := some 29) (v := ?_) (a' := ?_) #[true, true, false, false, false, false, false, false, false, false, false, false, false, false, false, false, false, false, false, false, false, false, false, false, false, false, false, false, false, false, false] rfl rfl (any_of HT_.out (by kernel_rfl)) (fun _ _ _ h => h) (Or.inl ⟨by rfl, ?_⟩) ?_ ?_
                    rotate_left
                    · intro w'
                      go_simp
                      with_reducible rfl
                    rotate_left
                    · simp only [Act.put, List.setIfInBounds_toArray, List.set_cons_zero, List.set_cons_succ, i64_w, i32_w]
                      rfl
                    refine inv_at [2, 3, 4, 5, 6, 7, 8, 9, 10, 11, 12, 13, 14, 15, 16, 17, 18, 19, 20, 21, 22, 23, 24, 25, 26, 27, 28, 29, 30] (fun a0_ b a w' => ∃ (v151 : Value) (v155 : Value), a = putSel a0_ b [(2, 30, .bool (t148.toList == a0.toList)), (3, 31, .bool (t148.toList == a0.toList)), (4, 32, .int .i64 t149), (5, 33, .bool (t149 == 0)), (6, 34, .bool (t149 == 0)), (7, 35, .bool (t149 == 0)), (8, 36, .string a0), (9, 37, v151), (10, 38, .int .u32 t153), (11, 39, .string a0), (12, 40, .int .i64 a1), (13, 41, .string (a0.extract 0 (a1 : Int).toNat)), (14, 42, .string a0), (15, 43, .int .i64 a1), (16, 44, .string (a0.extract (a1 : Int).toNat a0.size)), (17, 45, v155), (18, 46, .int .u32 t157), (19, 47, .bool (t153 == t157)), (20, 48, .bool (t153 == t157)), (21, 49, .bool (t153 == t157)), (22, 50, .string a0), (23, 51, .string t158), (24, 52, .int .i64 (t158.size : Int)), (25, 53, .string a0), (26, 54, .int .i64 (a0.size : Int)), (27, 55, .int .i64 (wrap64 ((a0.size : Int) + 4))), (28, 56, .bool ((t158.size : Int) == (wrap64 ((a0.size : Int) + 4)))), (29, 57, .bool ((t158.size : Int) == (wrap64 ((a0.size : Int) + 4)))), (30, 4, .bool ((t158.size : Int) == (wrap64 ((a0.size : Int) + 4))))] ∧ (Below w.heap.size w w') ∧ (b 9 = true → Kd.R Kd.string 9 w' w.heap.size (fun _ => True) v151 y150) ∧ (b 17 = true → Kd.R Kd.string 9 w' w.heap.size (fun _ => True) v155 y154)) HT_.out HW_.out (by kernel_rfl) (by kernel_rfl) ?_ ?_ ?_
                    · exact ⟨.bool false, .bool false, by simp only [putSel, Bool.false_eq_true, if_false], HB.out, fun h_ => absurd h_ (by decide), fun h_ => absurd h_ (by decide)⟩
                    · skip
                      clear HB
                      refine steps_cons ?_ ?_
                      · rintro b a w' ⟨v151, v155, ha, Q_HB, Q_HO152, Q_HO156⟩ hb_ hon hoff
                        refine ⟨_, rfl, fun K hK => ?_⟩
                        have e28 : a.tmps[28]? = some (.string t148) := by rw [ha]; exact (putSel_off rfl).trans rfl
                        have e29 : a.tmps[29]? = some (.string a0) := by rw [ha]; exact (putSel_off rfl).trans rfl
                        replace ha := Aside0.mk ha
                        have HB := Aside0.mk Q_HB
                        refine value_ (w1 := w') (v := .bool (t148.toList == a0.toList)) (by rfl) rfl ?_ ?_
                        · go_simp
                          (try simp only [i64_w])
                          try rfl
                        refine hK.out _ _ ⟨v151, v155, (by rw [ha.out]; exact putSel_upk 0 hb_ rfl rfl rfl), Q_HB, fun h0_ => absurd ((hoff 9 (by kernel_rfl)).symm.trans h0_) (by decide), fun h0_ => absurd ((hoff 17 (by kernel_rfl)).symm.trans h0_) (by decide)⟩
                      refine steps_cons ?_ ?_
                      · rintro b a w' ⟨v151, v155, ha, Q_HB, Q_HO152, Q_HO156⟩ hb_ hon hoff
                        refine ⟨_, rfl, fun K hK => ?_⟩
                        have e30 : a.tmps[30]? = some (.bool (t148.toList == a0.toList)) := by rw [ha]; exact putSel_on (e := (2, 30, .bool (t148.toList == a0.toList))) 0 rfl rfl (hon 2 (by kernel_rfl)) rfl
                        replace ha := Aside0.mk ha
                        have HB := Aside0.mk Q_HB
                        refine value_ (w1 := w') (v := .bool (t148.toList == a0.toList)) (by rfl) rfl ?_ ?_
                        · go_simp
                          (try simp only [i64_w])
                          try rfl
                        refine hK.out _ _ ⟨v151, v155, (by rw [ha.out]; exact putSel_upk 1 hb_ rfl rfl rfl), Q_HB, fun h0_ => absurd ((hoff 9 (by kernel_rfl)).symm.trans h0_) (by decide), fun h0_ => absurd ((hoff 17 (by kernel_rfl)).symm.trans h0_) (by decide)⟩
                      refine steps_cons ?_ ?_
                      · rintro b a w' ⟨v151, v155, ha, Q_HB, Q_HO152, Q_HO156⟩ hb_ hon hoff
                        refine ⟨_, rfl, fun K hK => ?_⟩
                        have e6 : a.tmps[6]? = some (.int .i64 t149) := by rw [ha]; exact (putSel_off rfl).trans rfl
                        have e31 : a.tmps[31]? = some (.bool (t148.toList == a0.toList)) := by rw [ha]; exact putSel_on (e := (3, 31, .bool (t148.toList == a0.toList))) 1 rfl rfl (hon 3 (by kernel_rfl)) rfl
                        replace ha := Aside0.mk ha
                        have HB := Aside0.mk Q_HB
                        refine value_ (w1 := w') (v := .int .i64 t149) (wanted_on rfl rfl rfl (e31.trans (by first | rfl | (simp [*]; done)))) rfl ?_ ?_
                        · go_simp
                          (try simp only [i64_w])
                          try rfl
                        refine hK.out _ _ ⟨v151, v155, (by rw [ha.out]; exact putSel_upk 2 hb_ rfl rfl rfl), Q_HB, fun h0_ => absurd ((hoff 9 (by kernel_rfl)).symm.trans h0_) (by decide), fun h0_ => absurd ((hoff 17 (by kernel_rfl)).symm.trans h0_) (by decide)⟩
                      refine steps_cons ?_ ?_
                      · rintro b a w' ⟨v151, v155, ha, Q_HB, Q_HO152, Q_HO156⟩ hb_ hon hoff
                        refine ⟨_, rfl, fun K hK => ?_⟩
                        have e32 : a.tmps[32]? = some (.int .i64 t149) := by rw [ha]; exact putSel_on (e := (4, 32, .int .i64 t149)) 2 rfl rfl (hon 4 (by kernel_rfl)) rfl
                        have e31 : a.tmps[31]? = some (.bool (t148.toList == a0.toList)) := by rw [ha]; exact putSel_on (e := (3, 31, .bool (t148.toList == a0.toList))) 1 rfl rfl (hon 3 (by kernel_rfl)) rfl
                        replace ha := Aside0.mk ha
                        have HB := Aside0.mk Q_HB
                        refine value_ (w1 := w') (v := .bool (t149 == 0)) (wanted_on rfl rfl rfl (e31.trans (by first | rfl | (simp [*]; done)))) rfl ?_ ?_
                        · go_simp
                          (try simp only [i64_w])
                          try rfl
                        refine hK.out _ _ ⟨v151, v155, (by rw [ha.out]; exact putSel_upk 3 hb_ rfl rfl rfl), Q_HB, fun h0_ => absurd ((hoff 9 (by kernel_rfl)).symm.trans h0_) (by decide), fun h0_ => absurd ((hoff 17 (by kernel_rfl)).symm.trans h0_) (by decide)⟩
                      refine steps_cons ?_ ?_
                      · rintro b a w' ⟨v151, v155, ha, Q_HB, Q_HO152, Q_HO156⟩ hb_ hon hoff
                        refine ⟨_, rfl, fun K hK => ?_⟩
                        have e31 : a.tmps[31]? = some (.bool (t148.toList == a0.toList)) := by rw [ha]; exact putSel_on (e := (3, 31, .bool (t148.toList == a0.toList))) 1 rfl rfl (hon 3 (by kernel_rfl)) rfl
                        have e33 : a.tmps[33]? = some (.bool (t149 == 0)) := by rw [ha]; exact putSel_on (e := (5, 33, .bool (t149 == 0))) 3 rfl rfl (hon 5 (by kernel_rfl)) rfl
                        replace ha := Aside0.mk ha
                        have HB := Aside0.mk Q_HB
                        refine value_ (w1 := w') (v := .bool (t149 == 0)) (by rfl) rfl ?_ ?_
                        · go_simp
                          (try simp only [i64_w])
                          try rfl
                        refine hK.out _ _ ⟨v151, v155, (by rw [ha.out]; exact putSel_upk 4 hb_ rfl rfl rfl), Q_HB, fun h0_ => absurd ((hoff 9 (by kernel_rfl)).symm.trans h0_) (by decide), fun h0_ => absurd ((hoff 17 (by kernel_rfl)).symm.trans h0_) (by decide)⟩
                      refine steps_cons ?_ ?_
                      · rintro b a w' ⟨v151, v155, ha, Q_HB, Q_HO152, Q_HO156⟩ hb_ hon hoff
                        refine ⟨_, rfl, fun K hK => ?_⟩
                        have e34 : a.tmps[34]? = some (.bool (t149 == 0)) := by rw [ha]; exact putSel_on (e := (6, 34, .bool (t149 == 0))) 4 rfl rfl (hon 6 (by kernel_rfl)) rfl
                        replace ha := Aside0.mk ha
                        have HB := Aside0.mk Q_HB
                        refine value_ (w1 := w') (v := .bool (t149 == 0)) (by rfl) rfl ?_ ?_
                        · go_simp
                          (try simp only [i64_w])
                          try rfl
                        refine hK.out _ _ ⟨v151, v155, (by rw [ha.out]; exact putSel_upk 5 hb_ rfl rfl rfl), Q_HB, fun h0_ => absurd ((hoff 9 (by kernel_rfl)).symm.trans h0_) (by decide), fun h0_ => absurd ((hoff 17 (by kernel_rfl)).symm.trans h0_) (by decide)⟩
                      refine steps_cons ?_ ?_
                      · rintro b a w' ⟨v151, v155, ha, Q_HB, Q_HO152, Q_HO156⟩ hb_ hon hoff
                        refine ⟨_, rfl, fun K hK => ?_⟩
                        have e0 : a.tmps[0]? = some (.string a0) := by rw [ha]; exact (putSel_off rfl).trans rfl
                        have e35 : a.tmps[35]? = some (.bool (t149 == 0)) := by rw [ha]; exact putSel_on (e := (7, 35, .bool (t149 == 0))) 5 rfl rfl (hon 7 (by kernel_rfl)) rfl
                        replace ha := Aside0.mk ha
                        have HB := Aside0.mk Q_HB
                        refine value_ (w1 := w') (v := .string a0) (wanted_on rfl rfl rfl (e35.trans (by first | rfl | (simp [*]; done)))) rfl ?_ ?_
                        · go_simp
                          (try simp only [i64_w])
                          try rfl
                        refine hK.out _ _ ⟨v151, v155, (by rw [ha.out]; exact putSel_upk 6 hb_ rfl rfl rfl), Q_HB, fun h0_ => absurd ((hoff 9 (by kernel_rfl)).symm.trans h0_) (by decide), Q_HO156⟩
                      refine steps_cons ?_ ?_
                      · rintro b a w' ⟨v151, v155, ha, Q_HB, Q_HO152, Q_HO156⟩ hb_ hon hoff
                        refine ⟨_, rfl, fun K hK => ?_⟩
                        have e36 : a.tmps[36]? = some (.string a0) := by rw [ha]; exact putSel_on (e := (8, 36, .string a0)) 6 rfl rfl (hon 8 (by kernel_rfl)) rfl
                        have e35 : a.tmps[35]? = some (.bool (t149 == 0)) := by rw [ha]; exact putSel_on (e := (7, 35, .bool (t149 == 0))) 5 rfl rfl (hon 7 (by kernel_rfl)) rfl
                        replace ha := Aside0.mk ha
                        have HB := Aside0.mk Q_HB
                        refine Kd.R_lit_step Kd.string _ 9 ?hg (N := 37) ?hd (xs := ([a0] : List ByteArray)) (inner := [.string a0]) (ok := fun _ => True) (okp := fun _ => True) ?hr ?hp (fun _ hk => hk) trivial (Below.refl _ _) (Nat.le_refl _) (by simp) ?_; (case hd => rfl); (case hg => exact (wanted_on rfl rfl rfl (e35.trans (by first | rfl | (simp [*]; done))))); (case hr => first | (go_simp; done) | (go_simp; rfl)); (case hp => exact (Reps.one (show Kd.M Kd.string _ _ _ a0 [.string a0] from rfl) (Reps.none _ _)))
                        intro v151 w25 ho26 hb hg_ hnew_
                        clear hg_ hnew_
                        (first | rw [← Ny150.out] at ho26 | (simp only [Int.reduceToNat] at ho26; rw [← Ny150.out] at ho26))
                        have n0_ := Aside0.mk (Kd.R_lower ho26 (below_size (by repeat (first | (with_reducible first | exact HB.out | apply below_alloc | apply pw_below_drewN | apply below_drew1) | exact HB.out))))
                        have n1_ := Aside0.mk (below_step (by repeat (first | (with_reducible first | exact HB.out | apply below_alloc | apply pw_below_drewN | apply below_drew1) | exact HB.out)) hb)
                        have z_HO156 := fun (h0_ : b 17 = true) => (show Kd.R Kd.string 9 w25 w.heap.size (fun _ => True) v155 y154 from by first | exact (Kd.R_elder' (by (with_reducible repeat (first | apply Kd.R_alloc | apply Kd.R_drewN | apply Kd.R_drew)); exact (Q_HO156 h0_)) (Kd.R_base ho26) hb) | exact Kd.R_mono (Kd.R_elder' (by (with_reducible repeat (first | apply Kd.R_alloc | apply Kd.R_drewN | apply Kd.R_drew)); exact (Q_HO156 h0_)) (Kd.R_base ho26) hb) (fun _ h_ => by first | trivial | exact h_ | exact h_.1))
                        clear HB
                        have HO152 := n0_
                        have HB := n1_
                        clear n0_ n1_
                        clear hb ho26
                        refine hK.out _ _ ⟨v151, v155, (by rw [ha.out]; exact putSel_upk 7 hb_ rfl rfl rfl), (by repeat (first | (with_reducible first | exact HB.out | apply below_alloc | apply pw_below_drewN | apply below_drew1) | exact HB.out)), fun _ => (by (with_reducible repeat (first | apply Kd.R_alloc | apply Kd.R_drewN | apply Kd.R_drew)); exact HO152.out), z_HO156⟩
                      refine steps_cons ?_ ?_
                      · rintro b a w' ⟨v151, v155, ha, Q_HB, Q_HO152, Q_HO156⟩ hb_ hon hoff
                        refine ⟨_, rfl, fun K hK => ?_⟩
                        have e37 : a.tmps[37]? = some (v151) := by rw [ha]; exact putSel_on (e := (9, 37, v151)) 7 rfl rfl (hon 9 (by kernel_rfl)) rfl
                        have e35 : a.tmps[35]? = some (.bool (t149 == 0)) := by rw [ha]; exact putSel_on (e := (7, 35, .bool (t149 == 0))) 5 rfl rfl (hon 7 (by kernel_rfl)) rfl
                        replace ha := Aside0.mk ha
                        have HB := Aside0.mk Q_HB
                        have HO152 := Aside0.mk (Q_HO152 (hon 9 (by kernel_rfl)))
                        obtain ⟨Ao28, co28, eo28⟩ := Kd.R_slice HO152.out
                        (first | subst eo28 | (injection eo28 with f1_ f2_ f3_; have f4_ := f1_.symm; have f5_ := f3_.symm; clear f1_ f2_ f3_; subst f4_; subst f5_))
                        refine goes_ Try.func10 (by kernel_rfl) rfl #[.slice Ao28 y150.length co28] (wanted_on rfl rfl rfl (e35.trans (by first | rfl | (simp [*]; done)))) rfl rfl (by first | (simp only [List.map_toArray, List.map_cons, List.map_nil, Act.eval, Array.getD_eq_getD_getElem?, Option.getD_some, e37, e35]; done) | (simp only [List.map_toArray, List.map_cons, List.map_nil, Act.eval, Array.getD_eq_getD_getElem?, Option.getD_some, e37, e35]; rfl)) ?_
                        with_reducible refine (crc_Sum.calls _ _ y150 t153 _ ?side1 ?side2 A14.out).mono ?_
                        (case side1 => repeat (first | exact (Kd.R_reads' HO152.out).2.2 | (with_reducible refine Kd.C_alloc ?_ _) | (with_reducible refine Kd.C_drewN ?_ _) | (with_reducible refine Kd.C_drew ?_)))
                        (case side2 => exact (Kd.R_reads' HO152.out).2.1)
                        rintro e w29 ⟨rfl, hb⟩
                        refine ⟨_, rfl, ?_⟩
                        have n0_ := Aside0.mk (Kd.R_below (by (with_reducible repeat (first | apply Kd.R_alloc | apply Kd.R_drewN | apply Kd.R_drew)); exact HO152.out) hb)
                        have n1_ := Aside0.mk (below_step (by repeat (first | (with_reducible first | exact HB.out | apply below_alloc | apply pw_below_drewN | apply below_drew1) | exact HB.out)) hb)
                        have z_HO156 := fun (h0_ : b 17 = true) => (show Kd.R Kd.string 9 w29 w.heap.size (fun _ => True) v155 y154 from by first | exact (Kd.R_below (by (with_reducible repeat (first | apply Kd.R_alloc | apply Kd.R_drewN | apply Kd.R_drew)); exact (Q_HO156 h0_)) hb) | exact Kd.R_mono (Kd.R_below (by (with_reducible repeat (first | apply Kd.R_alloc | apply Kd.R_drewN | apply Kd.R_drew)); exact (Q_HO156 h0_)) hb) (fun _ h_ => by first | trivial | exact h_ | exact h_.1))
                        clear HO152
                        clear HB
                        have HO152 := n0_
                        have HB := n1_
                        clear n0_ n1_
                        (try clear hb)
                        (try clear hb2)
                        (try clear hk)
                        (try clear hi)
                        refine hK.out _ _ ⟨.slice Ao28 y150.length co28, v155, (by rw [ha.out]; exact putSel_upk 8 hb_ rfl rfl rfl), (by repeat (first | (with_reducible first | exact HB.out | apply below_alloc | apply pw_below_drewN | apply below_drew1) | exact HB.out)), fun _ => (by (with_reducible repeat (first | apply Kd.R_alloc | apply Kd.R_drewN | apply Kd.R_drew)); exact HO152.out), z_HO156⟩
                      refine steps_cons ?_ ?_
                      · rintro b a w' ⟨v151, v155, ha, Q_HB, Q_HO152, Q_HO156⟩ hb_ hon hoff
                        refine ⟨_, rfl, fun K hK => ?_⟩
                        have e0 : a.tmps[0]? = some (.string a0) := by rw [ha]; exact (putSel_off rfl).trans rfl
                        have e35 : a.tmps[35]? = some (.bool (t149 == 0)) := by rw [ha]; exact putSel_on (e := (7, 35, .bool (t149 == 0))) 5 rfl rfl (hon 7 (by kernel_rfl)) rfl
                        replace ha := Aside0.mk ha
                        have HB := Aside0.mk Q_HB
                        refine value_ (w1 := w') (v := .string a0) (wanted_on rfl rfl rfl (e35.trans (by first | rfl | (simp [*]; done)))) rfl ?_ ?_
                        · go_simp
                          (try simp only [i64_w])
                          try rfl
                        refine hK.out _ _ ⟨v151, v155, (by rw [ha.out]; exact putSel_upk 9 hb_ rfl rfl rfl), Q_HB, Q_HO152, fun h0_ => absurd ((hoff 17 (by kernel_rfl)).symm.trans h0_) (by decide)⟩
                      refine steps_cons ?_ ?_
                      · rintro b a w' ⟨v151, v155, ha, Q_HB, Q_HO152, Q_HO156⟩ hb_ hon hoff
                        refine ⟨_, rfl, fun K hK => ?_⟩
                        have e1 : a.tmps[1]? = some (.int .i64 a1) := by rw [ha]; exact (putSel_off rfl).trans rfl
                        have e35 : a.tmps[35]? = some (.bool (t149 == 0)) := by rw [ha]; exact putSel_on (e := (7, 35, .bool (t149 == 0))) 5 rfl rfl (hon 7 (by kernel_rfl)) rfl
                        replace ha := Aside0.mk ha
                        have HB := Aside0.mk Q_HB
                        refine value_ (w1 := w') (v := .int .i64 a1) (wanted_on rfl rfl rfl (e35.trans (by first | rfl | (simp [*]; done)))) rfl ?_ ?_
                        · go_simp
                          (try simp only [i64_w])
                          try rfl
                        refine hK.out _ _ ⟨v151, v155, (by rw [ha.out]; exact putSel_upk 10 hb_ rfl rfl rfl), Q_HB, Q_HO152, fun h0_ => absurd ((hoff 17 (by kernel_rfl)).symm.trans h0_) (by decide)⟩
                      refine steps_cons ?_ ?_
                      · rintro b a w' ⟨v151, v155, ha, Q_HB, Q_HO152, Q_HO156⟩ hb_ hon hoff
                        refine ⟨_, rfl, fun K hK => ?_⟩
                        have e39 : a.tmps[39]? = some (.string a0) := by rw [ha]; exact putSel_on (e := (11, 39, .string a0)) 9 rfl rfl (hon 11 (by kernel_rfl)) rfl
                        have e40 : a.tmps[40]? = some (.int .i64 a1) := by rw [ha]; exact putSel_on (e := (12, 40, .int .i64 a1)) 10 rfl rfl (hon 12 (by kernel_rfl)) rfl
                        have e35 : a.tmps[35]? = some (.bool (t149 == 0)) := by rw [ha]; exact putSel_on (e := (7, 35, .bool (t149 == 0))) 5 rfl rfl (hon 7 (by kernel_rfl)) rfl
                        replace ha := Aside0.mk ha
                        have HB := Aside0.mk Q_HB
                        refine value_ (w1 := w') (v := .string (a0.extract 0 (a1 : Int).toNat)) (wanted_on rfl rfl rfl (e35.trans (by first | rfl | (simp [*]; done)))) rfl ?_ ?_
                        · go_simp
                          (try simp only [i64_w])
                          try rfl
                        refine hK.out _ _ ⟨v151, v155, (by rw [ha.out]; exact putSel_upk 11 hb_ rfl rfl rfl), Q_HB, Q_HO152, fun h0_ => absurd ((hoff 17 (by kernel_rfl)).symm.trans h0_) (by decide)⟩
                      refine steps_cons ?_ ?_
                      · rintro b a w' ⟨v151, v155, ha, Q_HB, Q_HO152, Q_HO156⟩ hb_ hon hoff
                        refine ⟨_, rfl, fun K hK => ?_⟩
                        have e0 : a.tmps[0]? = some (.string a0) := by rw [ha]; exact (putSel_off rfl).trans rfl
                        have e35 : a.tmps[35]? = some (.bool (t149 == 0)) := by rw [ha]; exact putSel_on (e := (7, 35, .bool (t149 == 0))) 5 rfl rfl (hon 7 (by kernel_rfl)) rfl
                        replace ha := Aside0.mk ha
                        have HB := Aside0.mk Q_HB
                        refine value_ (w1 := w') (v := .string a0) (wanted_on rfl rfl rfl (e35.trans (by first | rfl | (simp [*]; done)))) rfl ?_ ?_
                        · go_simp
                          (try simp only [i64_w])
                          try rfl
                        refine hK.out _ _ ⟨v151, v155, (by rw [ha.out]; exact putSel_upk 12 hb_ rfl rfl rfl), Q_HB, Q_HO152, fun h0_ => absurd ((hoff 17 (by kernel_rfl)).symm.trans h0_) (by decide)⟩
                      refine steps_cons ?_ ?_
                      · rintro b a w' ⟨v151, v155, ha, Q_HB, Q_HO152, Q_HO156⟩ hb_ hon hoff
                        refine ⟨_, rfl, fun K hK => ?_⟩
                        have e1 : a.tmps[1]? = some (.int .i64 a1) := by rw [ha]; exact (putSel_off rfl).trans rfl
                        have e35 : a.tmps[35]? = some (.bool (t149 == 0)) := by rw [ha]; exact putSel_on (e := (7, 35, .bool (t149 == 0))) 5 rfl rfl (hon 7 (by kernel_rfl)) rfl
                        replace ha := Aside0.mk ha
                        have HB := Aside0.mk Q_HB
                        refine value_ (w1 := w') (v := .int .i64 a1) (wanted_on rfl rfl rfl (e35.trans (by first | rfl | (simp [*]; done)))) rfl ?_ ?_
                        · go_simp
                          (try simp only [i64_w])
                          try rfl
                        refine hK.out _ _ ⟨v151, v155, (by rw [ha.out]; exact putSel_upk 13 hb_ rfl rfl rfl), Q_HB, Q_HO152, fun h0_ => absurd ((hoff 17 (by kernel_rfl)).symm.trans h0_) (by decide)⟩
                      refine steps_cons ?_ ?_
                      · rintro b a w' ⟨v151, v155, ha, Q_HB, Q_HO152, Q_HO156⟩ hb_ hon hoff
                        refine ⟨_, rfl, fun K hK => ?_⟩
                        have e42 : a.tmps[42]? = some (.string a0) := by rw [ha]; exact putSel_on (e := (14, 42, .string a0)) 12 rfl rfl (hon 14 (by kernel_rfl)) rfl
                        have e43 : a.tmps[43]? = some (.int .i64 a1) := by rw [ha]; exact putSel_on (e := (15, 43, .int .i64 a1)) 13 rfl rfl (hon 15 (by kernel_rfl)) rfl
                        have e35 : a.tmps[35]? = some (.bool (t149 == 0)) := by rw [ha]; exact putSel_on (e := (7, 35, .bool (t149 == 0))) 5 rfl rfl (hon 7 (by kernel_rfl)) rfl
                        replace ha := Aside0.mk ha
                        have HB := Aside0.mk Q_HB
                        refine value_ (w1 := w') (v := .string (a0.extract (a1 : Int).toNat a0.size)) (wanted_on rfl rfl rfl (e35.trans (by first | rfl | (simp [*]; done)))) rfl ?_ ?_
                        · go_simp
                          (try simp only [i64_w])
                          try rfl
                        refine hK.out _ _ ⟨v151, v155, (by rw [ha.out]; exact putSel_upk 14 hb_ rfl rfl rfl), Q_HB, Q_HO152, fun h0_ => absurd ((hoff 17 (by kernel_rfl)).symm.trans h0_) (by decide)⟩
                      refine steps_cons ?_ ?_
                      · rintro b a w' ⟨v151, v155, ha, Q_HB, Q_HO152, Q_HO156⟩ hb_ hon hoff
                        refine ⟨_, rfl, fun K hK => ?_⟩
                        have e41 : a.tmps[41]? = some (.string (a0.extract 0 (a1 : Int).toNat)) := by rw [ha]; exact putSel_on (e := (13, 41, .string (a0.extract 0 (a1 : Int).toNat))) 11 rfl rfl (hon 13 (by kernel_rfl)) rfl
                        have e44 : a.tmps[44]? = some (.string (a0.extract (a1 : Int).toNat a0.size)) := by rw [ha]; exact putSel_on (e := (16, 44, .string (a0.extract (a1 : Int).toNat a0.size))) 14 rfl rfl (hon 16 (by kernel_rfl)) rfl
                        have e35 : a.tmps[35]? = some (.bool (t149 == 0)) := by rw [ha]; exact putSel_on (e := (7, 35, .bool (t149 == 0))) 5 rfl rfl (hon 7 (by kernel_rfl)) rfl
                        replace ha := Aside0.mk ha
                        have HB := Aside0.mk Q_HB
                        refine Kd.R_lit_step Kd.string _ 9 ?hg (N := 45) ?hd (xs := ([a0.extract 0 (a1 : Int).toNat, a0.extract (a1 : Int).toNat a0.size] : List ByteArray)) (inner := [.string (a0.extract 0 (a1 : Int).toNat), .string (a0.extract (a1 : Int).toNat a0.size)]) (ok := fun _ => True) (okp := fun _ => True) ?hr ?hp (fun _ hk => hk) trivial (Below.refl _ _) (Nat.le_refl _) (by simp) ?_; (case hd => rfl); (case hg => exact (wanted_on rfl rfl rfl (e35.trans (by first | rfl | (simp [*]; done))))); (case hr => first | (go_simp; done) | (go_simp; rfl)); (case hp => exact (Reps.one (show Kd.M Kd.string _ _ _ (a0.extract 0 (a1 : Int).toNat) [.string (a0.extract 0 (a1 : Int).toNat)] from rfl) (Reps.one (show Kd.M Kd.string _ _ _ (a0.extract (a1 : Int).toNat a0.size) [.string (a0.extract (a1 : Int).toNat a0.size)] from rfl) (Reps.none _ _))))
                        intro v155 w25 ho26 hb hg_ hnew_
                        clear hg_ hnew_
                        (first | rw [← Ny154.out] at ho26 | (simp only [Int.reduceToNat] at ho26; rw [← Ny154.out] at ho26))
                        have n0_ := Aside0.mk (Kd.R_lower ho26 (below_size (by repeat (first | (with_reducible first | exact HB.out | apply below_alloc | apply pw_below_drewN | apply below_drew1) | exact HB.out))))
                        have n1_ := Aside0.mk (below_step (by repeat (first | (with_reducible first | exact HB.out | apply below_alloc | apply pw_below_drewN | apply below_drew1) | exact HB.out)) hb)
                        have z_HO152 := fun (h0_ : b 9 = true) => (show Kd.R Kd.string 9 w25 w.heap.size (fun _ => True) v151 y150 from by first | exact (Kd.R_elder' (by (with_reducible repeat (first | apply Kd.R_alloc | apply Kd.R_drewN | apply Kd.R_drew)); exact (Q_HO152 h0_)) (Kd.R_base ho26) hb) | exact Kd.R_mono (Kd.R_elder' (by (with_reducible repeat (first | apply Kd.R_alloc | apply Kd.R_drewN | apply Kd.R_drew)); exact (Q_HO152 h0_)) (Kd.R_base ho26) hb) (fun _ h_ => by first | trivial | exact h_ | exact h_.1))
                        clear HB
                        have HO156 := n0_
                        have HB := n1_
                        clear n0_ n1_
                        clear hb ho26
                        refine hK.out _ _ ⟨v151, v155, (by rw [ha.out]; exact putSel_upk 15 hb_ rfl rfl rfl), (by repeat (first | (with_reducible first | exact HB.out | apply below_alloc | apply pw_below_drewN | apply below_drew1) | exact HB.out)), z_HO152, fun _ => (by (with_reducible repeat (first | apply Kd.R_alloc | apply Kd.R_drewN | apply Kd.R_drew)); exact HO156.out)⟩
                      refine steps_cons ?_ ?_
                      · rintro b a w' ⟨v151, v155, ha, Q_HB, Q_HO152, Q_HO156⟩ hb_ hon hoff
                        refine ⟨_, rfl, fun K hK => ?_⟩
                        have e45 : a.tmps[45]? = some (v155) := by rw [ha]; exact putSel_on (e := (17, 45, v155)) 15 rfl rfl (hon 17 (by kernel_rfl)) rfl
                        have e35 : a.tmps[35]? = some (.bool (t149 == 0)) := by rw [ha]; exact putSel_on (e := (7, 35, .bool (t149 == 0))) 5 rfl rfl (hon 7 (by kernel_rfl)) rfl
                        replace ha := Aside0.mk ha
                        have HB := Aside0.mk Q_HB
                        have HO152 := Aside0.mk (Q_HO152 (hon 9 (by kernel_rfl)))
                        have HO156 := Aside0.mk (Q_HO156 (hon 17 (by kernel_rfl)))
                        obtain ⟨Ao32, co32, eo32⟩ := Kd.R_slice HO156.out
                        (first | subst eo32 | (injection eo32 with f1_ f2_ f3_; have f4_ := f1_.symm; have f5_ := f3_.symm; clear f1_ f2_ f3_; subst f4_; subst f5_))
                        refine goes_ Try.func10 (by kernel_rfl) rfl #[.slice Ao32 y154.length co32] (wanted_on rfl rfl rfl (e35.trans (by first | rfl | (simp [*]; done)))) rfl rfl (by first | (simp only [List.map_toArray, List.map_cons, List.map_nil, Act.eval, Array.getD_eq_getD_getElem?, Option.getD_some, e45, e35]; done) | (simp only [List.map_toArray, List.map_cons, List.map_nil, Act.eval, Array.getD_eq_getD_getElem?, Option.getD_some, e45, e35]; rfl)) ?_
                        with_reducible refine (crc_Sum.calls _ _ y154 t157 _ ?side1 ?side2 A19.out).mono ?_
                        (case side1 => repeat (first | exact (Kd.R_reads' HO156.out).2.2 | (with_reducible refine Kd.C_alloc ?_ _) | (with_reducible refine Kd.C_drewN ?_ _) | (with_reducible refine Kd.C_drew ?_)))
                        (case side2 => exact (Kd.R_reads' HO156.out).2.1)
                        rintro e w33 ⟨rfl, hb⟩
                        refine ⟨_, rfl, ?_⟩
                        have n0_ := Aside0.mk (Kd.R_below (by (with_reducible repeat (first | apply Kd.R_alloc | apply Kd.R_drewN | apply Kd.R_drew)); exact HO152.out) hb)
                        have n1_ := Aside0.mk (Kd.R_below (by (with_reducible repeat (first | apply Kd.R_alloc | apply Kd.R_drewN | apply Kd.R_drew)); exact HO156.out) hb)
                        have n2_ := Aside0.mk (below_step (by repeat (first | (with_reducible first | exact HB.out | apply below_alloc | apply pw_below_drewN | apply below_drew1) | exact HB.out)) hb)
                        clear HO152
                        clear HO156
                        clear HB
                        have HO152 := n0_
                        have HO156 := n1_
                        have HB := n2_
                        clear n0_ n1_ n2_
                        (try clear hb)
                        (try clear hb2)
                        (try clear hk)
                        (try clear hi)
                        refine hK.out _ _ ⟨v151, .slice Ao32 y154.length co32, (by rw [ha.out]; exact putSel_upk 16 hb_ rfl rfl rfl), (by repeat (first | (with_reducible first | exact HB.out | apply below_alloc | apply pw_below_drewN | apply below_drew1) | exact HB.out)), fun _ => (by (with_reducible repeat (first | apply Kd.R_alloc | apply Kd.R_drewN | apply Kd.R_drew)); exact HO152.out), fun _ => (by (with_reducible repeat (first | apply Kd.R_alloc | apply Kd.R_drewN | apply Kd.R_drew)); exact HO156.out)⟩
                      refine steps_cons ?_ ?_
                      · rintro b a w' ⟨v151, v155, ha, Q_HB, Q_HO152, Q_HO156⟩ hb_ hon hoff
                        refine ⟨_, rfl, fun K hK => ?_⟩
                        have e38 : a.tmps[38]? = some (.int .u32 t153) := by rw [ha]; exact putSel_on (e := (10, 38, .int .u32 t153)) 8 rfl rfl (hon 10 (by kernel_rfl)) rfl
                        have e46 : a.tmps[46]? = some (.int .u32 t157) := by rw [ha]; exact putSel_on (e := (18, 46, .int .u32 t157)) 16 rfl rfl (hon 18 (by kernel_rfl)) rfl
                        have e35 : a.tmps[35]? = some (.bool (t149 == 0)) := by rw [ha]; exact putSel_on (e := (7, 35, .bool (t149 == 0))) 5 rfl rfl (hon 7 (by kernel_rfl)) rfl
                        replace ha := Aside0.mk ha
                        have HB := Aside0.mk Q_HB
                        have HO152 := Aside0.mk (Q_HO152 (hon 9 (by kernel_rfl)))
                        have HO156 := Aside0.mk (Q_HO156 (hon 17 (by kernel_rfl)))
                        refine value_ (w1 := w') (v := .bool (t153 == t157)) (wanted_on rfl rfl rfl (e35.trans (by first | rfl | (simp [*]; done)))) rfl ?_ ?_
                        · go_simp
                          (try simp only [i64_w])
                          try rfl
                        refine hK.out _ _ ⟨v151, v155, (by rw [ha.out]; exact putSel_upk 17 hb_ rfl rfl rfl), Q_HB, Q_HO152, Q_HO156⟩
                      refine steps_cons ?_ ?_
                      · rintro b a w' ⟨v151, v155, ha, Q_HB, Q_HO152, Q_HO156⟩ hb_ hon hoff
                        refine ⟨_, rfl, fun K hK => ?_⟩
                        have e35 : a.tmps[35]? = some (.bool (t149 == 0)) := by rw [ha]; exact putSel_on (e := (7, 35, .bool (t149 == 0))) 5 rfl rfl (hon 7 (by kernel_rfl)) rfl
                        have e47 : a.tmps[47]? = some (.bool (t153 == t157)) := by rw [ha]; exact putSel_on (e := (19, 47, .bool (t153 == t157))) 17 rfl rfl (hon 19 (by kernel_rfl)) rfl
                        replace ha := Aside0.mk ha
                        have HB := Aside0.mk Q_HB
                        have HO152 := Aside0.mk (Q_HO152 (hon 9 (by kernel_rfl)))
                        have HO156 := Aside0.mk (Q_HO156 (hon 17 (by kernel_rfl)))
                        refine value_ (w1 := w') (v := .bool (t153 == t157)) (by rfl) rfl ?_ ?_
                        · go_simp
                          (try simp only [i64_w])
                          try rfl
                        refine hK.out _ _ ⟨v151, v155, (by rw [ha.out]; exact putSel_upk 18 hb_ rfl rfl rfl), Q_HB, Q_HO152, Q_HO156⟩
                      refine steps_cons ?_ ?_
                      · rintro b a w' ⟨v151, v155, ha, Q_HB, Q_HO152, Q_HO156⟩ hb_ hon hoff
                        refine ⟨_, rfl, fun K hK => ?_⟩
                        have e48 : a.tmps[48]? = some (.bool (t153 == t157)) := by rw [ha]; exact putSel_on (e := (20, 48, .bool (t153 == t157))) 18 rfl rfl (hon 20 (by kernel_rfl)) rfl
                        replace ha := Aside0.mk ha
                        have HB := Aside0.mk Q_HB
                        have HO152 := Aside0.mk (Q_HO152 (hon 9 (by kernel_rfl)))
                        have HO156 := Aside0.mk (Q_HO156 (hon 17 (by kernel_rfl)))
                        refine value_ (w1 := w') (v := .bool (t153 == t157)) (by rfl) rfl ?_ ?_
                        · go_simp
                          (try simp only [i64_w])
                          try rfl
                        refine hK.out _ _ ⟨v151, v155, (by rw [ha.out]; exact putSel_upk 19 hb_ rfl rfl rfl), Q_HB, Q_HO152, Q_HO156⟩
                      refine steps_cons ?_ ?_
                      · rintro b a w' ⟨v151, v155, ha, Q_HB, Q_HO152, Q_HO156⟩ hb_ hon hoff
                        refine ⟨_, rfl, fun K hK => ?_⟩
                        have e0 : a.tmps[0]? = some (.string a0) := by rw [ha]; exact (putSel_off rfl).trans rfl
                        have e49 : a.tmps[49]? = some (.bool (t153 == t157)) := by rw [ha]; exact putSel_on (e := (21, 49, .bool (t153 == t157))) 19 rfl rfl (hon 21 (by kernel_rfl)) rfl
                        replace ha := Aside0.mk ha
                        have HB := Aside0.mk Q_HB
                        have HO152 := Aside0.mk (Q_HO152 (hon 9 (by kernel_rfl)))
                        have HO156 := Aside0.mk (Q_HO156 (hon 17 (by kernel_rfl)))
                        refine value_ (w1 := w') (v := .string a0) (wanted_on rfl rfl rfl (e49.trans (by first | rfl | (simp [*]; done)))) rfl ?_ ?_
                        · go_simp
                          (try simp only [i64_w])
                          try rfl
                        refine hK.out _ _ ⟨v151, v155, (by rw [ha.out]; exact putSel_upk 20 hb_ rfl rfl rfl), Q_HB, Q_HO152, Q_HO156⟩
                      refine steps_cons ?_ ?_
                      · rintro b a w' ⟨v151, v155, ha, Q_HB, Q_HO152, Q_HO156⟩ hb_ hon hoff
                        refine ⟨_, rfl, fun K hK => ?_⟩
                        have e50 : a.tmps[50]? = some (.string a0) := by rw [ha]; exact putSel_on (e := (22, 50, .string a0)) 20 rfl rfl (hon 22 (by kernel_rfl)) rfl
                        have e49 : a.tmps[49]? = some (.bool (t153 == t157)) := by rw [ha]; exact putSel_on (e := (21, 49, .bool (t153 == t157))) 19 rfl rfl (hon 21 (by kernel_rfl)) rfl
                        replace ha := Aside0.mk ha
                        have HB := Aside0.mk Q_HB
                        have HO152 := Aside0.mk (Q_HO152 (hon 9 (by kernel_rfl)))
                        have HO156 := Aside0.mk (Q_HO156 (hon 17 (by kernel_rfl)))
                        refine goes_ Try.func12 (by kernel_rfl) rfl #[.string a0] (wanted_on rfl rfl rfl (e49.trans (by first | rfl | (simp [*]; done)))) rfl rfl (by first | (simp only [List.map_toArray, List.map_cons, List.map_nil, Act.eval, Array.getD_eq_getD_getElem?, Option.getD_some, e50, e49]; done) | (simp only [List.map_toArray, List.map_cons, List.map_nil, Act.eval, Array.getD_eq_getD_getElem?, Option.getD_some, e50, e49]; rfl)) ?_
                        with_reducible refine (crc_Seal.calls a0 t158 _ A21.out).mono ?_
                        rintro e w34 ⟨rfl, hb⟩
                        refine ⟨_, rfl, ?_⟩
                        have n0_ := Aside0.mk (Kd.R_below (by (with_reducible repeat (first | apply Kd.R_alloc | apply Kd.R_drewN | apply Kd.R_drew)); exact HO152.out) hb)
                        have n1_ := Aside0.mk (Kd.R_below (by (with_reducible repeat (first | apply Kd.R_alloc | apply Kd.R_drewN | apply Kd.R_drew)); exact HO156.out) hb)
                        have n2_ := Aside0.mk (below_step (by repeat (first | (with_reducible first | exact HB.out | apply below_alloc | apply pw_below_drewN | apply below_drew1) | exact HB.out)) hb)
                        clear HO152
                        clear HO156
                        clear HB
                        have HO152 := n0_
                        have HO156 := n1_
                        have HB := n2_
                        clear n0_ n1_ n2_
                        (try clear hb)
                        (try clear hb2)
                        (try clear hk)
                        (try clear hi)
                        refine hK.out _ _ ⟨v151, v155, (by rw [ha.out]; exact putSel_upk 21 hb_ rfl rfl rfl), (by repeat (first | (with_reducible first | exact HB.out | apply below_alloc | apply pw_below_drewN | apply below_drew1) | exact HB.out)), fun _ => (by (with_reducible repeat (first | apply Kd.R_alloc | apply Kd.R_drewN | apply Kd.R_drew)); exact HO152.out), fun _ => (by (with_reducible repeat (first | apply Kd.R_alloc | apply Kd.R_drewN | apply Kd.R_drew)); exact HO156.out)⟩
                      refine steps_cons ?_ ?_
                      · rintro b a w' ⟨v151, v155, ha, Q_HB, Q_HO152, Q_HO156⟩ hb_ hon hoff
                        refine ⟨_, rfl, fun K hK => ?_⟩
                        have e51 : a.tmps[51]? = some (.string t158) := by rw [ha]; exact putSel_on (e := (23, 51, .string t158)) 21 rfl rfl (hon 23 (by kernel_rfl)) rfl
                        have e49 : a.tmps[49]? = some (.bool (t153 == t157)) := by rw [ha]; exact putSel_on (e := (21, 49, .bool (t153 == t157))) 19 rfl rfl (hon 21 (by kernel_rfl)) rfl
                        replace ha := Aside0.mk ha
                        have HB := Aside0.mk Q_HB
                        have HO152 := Aside0.mk (Q_HO152 (hon 9 (by kernel_rfl)))
                        have HO156 := Aside0.mk (Q_HO156 (hon 17 (by kernel_rfl)))
                        refine value_ (w1 := w') (v := .int .i64 (t158.size : Int)) (wanted_on rfl rfl rfl (e49.trans (by first | rfl | (simp [*]; done)))) rfl ?_ ?_
                        · go_simp
                          (try simp only [i64_w])
                          try rfl
                        refine hK.out _ _ ⟨v151, v155, (by rw [ha.out]; exact putSel_upk 22 hb_ rfl rfl rfl), Q_HB, Q_HO152, Q_HO156⟩
                      refine steps_cons ?_ ?_
                      · rintro b a w' ⟨v151, v155, ha, Q_HB, Q_HO152, Q_HO156⟩ hb_ hon hoff
                        refine ⟨_, rfl, fun K hK => ?_⟩
                        have e0 : a.tmps[0]? = some (.string a0) := by rw [ha]; exact (putSel_off rfl).trans rfl
                        have e49 : a.tmps[49]? = some (.bool (t153 == t157)) := by rw [ha]; exact putSel_on (e := (21, 49, .bool (t153 == t157))) 19 rfl rfl (hon 21 (by kernel_rfl)) rfl
                        replace ha := Aside0.mk ha
                        have HB := Aside0.mk Q_HB
                        have HO152 := Aside0.mk (Q_HO152 (hon 9 (by kernel_rfl)))
                        have HO156 := Aside0.mk (Q_HO156 (hon 17 (by kernel_rfl)))
                        refine value_ (w1 := w') (v := .string a0) (wanted_on rfl rfl rfl (e49.trans (by first | rfl | (simp [*]; done)))) rfl ?_ ?_
                        · go_simp
                          (try simp only [i64_w])
                          try rfl
                        refine hK.out _ _ ⟨v151, v155, (by rw [ha.out]; exact putSel_upk 23 hb_ rfl rfl rfl), Q_HB, Q_HO152, Q_HO156⟩
                      refine steps_cons ?_ ?_
                      · rintro b a w' ⟨v151, v155, ha, Q_HB, Q_HO152, Q_HO156⟩ hb_ hon hoff
                        refine ⟨_, rfl, fun K hK => ?_⟩
                        have e53 : a.tmps[53]? = some (.string a0) := by rw [ha]; exact putSel_on (e := (25, 53, .string a0)) 23 rfl rfl (hon 25 (by kernel_rfl)) rfl
                        have e49 : a.tmps[49]? = some (.bool (t153 == t157)) := by rw [ha]; exact putSel_on (e := (21, 49, .bool (t153 == t157))) 19 rfl rfl (hon 21 (by kernel_rfl)) rfl
                        replace ha := Aside0.mk ha
                        have HB := Aside0.mk Q_HB
                        have HO152 := Aside0.mk (Q_HO152 (hon 9 (by kernel_rfl)))
                        have HO156 := Aside0.mk (Q_HO156 (hon 17 (by kernel_rfl)))
                        refine value_ (w1 := w') (v := .int .i64 (a0.size : Int)) (wanted_on rfl rfl rfl (e49.trans (by first | rfl | (simp [*]; done)))) rfl ?_ ?_
                        · go_simp
                          (try simp only [i64_w])
                          try rfl
                        refine hK.out _ _ ⟨v151, v155, (by rw [ha.out]; exact putSel_upk 24 hb_ rfl rfl rfl), Q_HB, Q_HO152, Q_HO156⟩
                      refine steps_cons ?_ ?_
                      · rintro b a w' ⟨v151, v155, ha, Q_HB, Q_HO152, Q_HO156⟩ hb_ hon hoff
                        refine ⟨_, rfl, fun K hK => ?_⟩
                        have e54 : a.tmps[54]? = some (.int .i64 (a0.size : Int)) := by rw [ha]; exact putSel_on (e := (26, 54, .int .i64 (a0.size : Int))) 24 rfl rfl (hon 26 (by kernel_rfl)) rfl
                        have e49 : a.tmps[49]? = some (.bool (t153 == t157)) := by rw [ha]; exact putSel_on (e := (21, 49, .bool (t153 == t157))) 19 rfl rfl (hon 21 (by kernel_rfl)) rfl
                        replace ha := Aside0.mk ha
                        have HB := Aside0.mk Q_HB
                        have HO152 := Aside0.mk (Q_HO152 (hon 9 (by kernel_rfl)))
                        have HO156 := Aside0.mk (Q_HO156 (hon 17 (by kernel_rfl)))
                        refine value_ (w1 := w') (v := .int .i64 (wrap64 ((a0.size : Int) + 4))) (wanted_on rfl rfl rfl (e49.trans (by first | rfl | (simp [*]; done)))) rfl ?_ ?_
                        · go_simp
                          (try simp only [i64_w])
                          try rfl
                        refine hK.out _ _ ⟨v151, v155, (by rw [ha.out]; exact putSel_upk 25 hb_ rfl rfl rfl), Q_HB, Q_HO152, Q_HO156⟩
                      refine steps_cons ?_ ?_
                      · rintro b a w' ⟨v151, v155, ha, Q_HB, Q_HO152, Q_HO156⟩ hb_ hon hoff
                        refine ⟨_, rfl, fun K hK => ?_⟩
                        have e52 : a.tmps[52]? = some (.int .i64 (t158.size : Int)) := by rw [ha]; exact putSel_on (e := (24, 52, .int .i64 (t158.size : Int))) 22 rfl rfl (hon 24 (by kernel_rfl)) rfl
                        have e55 : a.tmps[55]? = some (.int .i64 (wrap64 ((a0.size : Int) + 4))) := by rw [ha]; exact putSel_on (e := (27, 55, .int .i64 (wrap64 ((a0.size : Int) + 4)))) 25 rfl rfl (hon 27 (by kernel_rfl)) rfl
                        have e49 : a.tmps[49]? = some (.bool (t153 == t157)) := by rw [ha]; exact putSel_on (e := (21, 49, .bool (t153 == t157))) 19 rfl rfl (hon 21 (by kernel_rfl)) rfl
                        replace ha := Aside0.mk ha
                        have HB := Aside0.mk Q_HB
                        have HO152 := Aside0.mk (Q_HO152 (hon 9 (by kernel_rfl)))
                        have HO156 := Aside0.mk (Q_HO156 (hon 17 (by kernel_rfl)))
                        refine value_ (w1 := w') (v := .bool ((t158.size : Int) == (wrap64 ((a0.size : Int) + 4)))) (wanted_on rfl rfl rfl (e49.trans (by first | rfl | (simp [*]; done)))) rfl ?_ ?_
                        · go_simp
                          (try simp only [i64_w])
                          try rfl
                        refine hK.out _ _ ⟨v151, v155, (by rw [ha.out]; exact putSel_upk 26 hb_ rfl rfl rfl), Q_HB, Q_HO152, Q_HO156⟩
                      refine steps_cons ?_ ?_
                      · rintro b a w' ⟨v151, v155, ha, Q_HB, Q_HO152, Q_HO156⟩ hb_ hon hoff
                        refine ⟨_, rfl, fun K hK => ?_⟩
                        have e49 : a.tmps[49]? = some (.bool (t153 == t157)) := by rw [ha]; exact putSel_on (e := (21, 49, .bool (t153 == t157))) 19 rfl rfl (hon 21 (by kernel_rfl)) rfl
                        have e56 : a.tmps[56]? = some (.bool ((t158.size : Int) == (wrap64 ((a0.size : Int) + 4)))) := by rw [ha]; exact putSel_on (e := (28, 56, .bool ((t158.size : Int) == (wrap64 ((a0.size : Int) + 4))))) 26 rfl rfl (hon 28 (by kernel_rfl)) rfl
                        replace ha := Aside0.mk ha
                        have HB := Aside0.mk Q_HB
                        have HO152 := Aside0.mk (Q_HO152 (hon 9 (by kernel_rfl)))
                        have HO156 := Aside0.mk (Q_HO156 (hon 17 (by kernel_rfl)))
                        refine value_ (w1 := w') (v := .bool ((t158.size : Int) == (wrap64 ((a0.size : Int) + 4)))) (by rfl) rfl ?_ ?_
                        · go_simp
                          (try simp only [i64_w])
                          try rfl
                        refine hK.out _ _ ⟨v151, v155, (by rw [ha.out]; exact putSel_upk 27 hb_ rfl rfl rfl), Q_HB, Q_HO152, Q_HO156⟩
                      refine steps_cons ?_ ?_
                      · rintro b a w' ⟨v151, v155, ha, Q_HB, Q_HO152, Q_HO156⟩ hb_ hon hoff
                        refine ⟨_, rfl, fun K hK => ?_⟩
                        have e57 : a.tmps[57]? = some (.bool ((t158.size : Int) == (wrap64 ((a0.size : Int) + 4)))) := by rw [ha]; exact putSel_on (e := (29, 57, .bool ((t158.size : Int) == (wrap64 ((a0.size : Int) + 4))))) 27 rfl rfl (hon 29 (by kernel_rfl)) rfl
                        replace ha := Aside0.mk ha
                        have HB := Aside0.mk Q_HB
                        have HO152 := Aside0.mk (Q_HO152 (hon 9 (by kernel_rfl)))
                        have HO156 := Aside0.mk (Q_HO156 (hon 17 (by kernel_rfl)))
                        refine value_ (w1 := w') (v := .bool ((t158.size : Int) == (wrap64 ((a0.size : Int) + 4)))) (by rfl) rfl ?_ ?_
                        · go_simp
                          (try simp only [i64_w])
                          try rfl
                        refine hK.out _ _ ⟨v151, v155, (by rw [ha.out]; exact putSel_upk 28 hb_ rfl rfl rfl), Q_HB, Q_HO152, Q_HO156⟩
                      exact steps_nil
                    rintro b a w34 hall ⟨v151, v155, ha, Q_HB, Q_HO152, Q_HO156⟩
                    clear HB
                    have hb2_ := hall 2 (by kernel_rfl)
                    have hb3_ := hall 3 (by kernel_rfl)
                    have hb4_ := hall 4 (by kernel_rfl)
                    have hb5_ := hall 5 (by kernel_rfl)
                    have hb6_ := hall 6 (by kernel_rfl)
                    have hb7_ := hall 7 (by kernel_rfl)
                    have hb8_ := hall 8 (by kernel_rfl)
                    have hb9_ := hall 9 (by kernel_rfl)
                    have hb10_ := hall 10 (by kernel_rfl)
                    have hb11_ := hall 11 (by kernel_rfl)
                    have hb12_ := hall 12 (by kernel_rfl)
                    have hb13_ := hall 13 (by kernel_rfl)
                    have hb14_ := hall 14 (by kernel_rfl)
                    have hb15_ := hall 15 (by kernel_rfl)
                    have hb16_ := hall 16 (by kernel_rfl)
                    have hb17_ := hall 17 (by kernel_rfl)
                    have hb18_ := hall 18 (by kernel_rfl)
                    have hb19_ := hall 19 (by kernel_rfl)
                    have hb20_ := hall 20 (by kernel_rfl)
                    have hb21_ := hall 21 (by kernel_rfl)
                    have hb22_ := hall 22 (by kernel_rfl)
                    have hb23_ := hall 23 (by kernel_rfl)
                    have hb24_ := hall 24 (by kernel_rfl)
                    have hb25_ := hall 25 (by kernel_rfl)
                    have hb26_ := hall 26 (by kernel_rfl)
                    have hb27_ := hall 27 (by kernel_rfl)
                    have hb28_ := hall 28 (by kernel_rfl)
                    have hb29_ := hall 29 (by kernel_rfl)
                    have hb30_ := hall 30 (by kernel_rfl)
                    subst ha
                    simp only [putSel, hb2_, hb3_, hb4_, hb5_, hb6_, hb7_, hb8_, hb9_, hb10_, hb11_, hb12_, hb13_, hb14_, hb15_, hb16_, hb17_, hb18_, hb19_, hb20_, hb21_, hb22_, hb23_, hb24_, hb25_, hb26_, hb27_, hb28_, hb29_, hb30_, if_true, Act.put, List.setIfInBounds_toArray, List.set_cons_zero, List.set_cons_succ]
                    have HB := Aside0.mk Q_HB
                    clear Q_HB
                    have HO152 := Aside0.mk (Q_HO152 hb9_)
                    clear Q_HO152
                    have HO156 := Aside0.mk (Q_HO156 hb17_)
                    clear Q_HO156
                    clear hall hb2_ hb3_ hb4_ hb5_ hb6_ hb7_ hb8_ hb9_ hb10_ hb11_ hb12_ hb13_ hb14_ hb15_ hb16_ hb17_ hb18_ hb19_ hb20_ hb21_ hb22_ hb23_ hb24_ hb25_ hb26_ hb27_ hb28_ hb29_ hb30_
                    try go_wp2
                    go_ret
                    exact ⟨by first | rfl | (simp [errW_none, errW_some] <;> rfl) | (simp [*, errW_none, errW_some] <;> rfl), by repeat (first | (with_reducible first | exact HB.out | apply below_alloc | apply pw_below_drewN | apply below_drew1) | exact HB.out)⟩
                  · rw [if_neg c20] at H
                    have c20b0 : (t153 == t157) = false := beq_eq_false_iff_ne.mpr c20
                    have c20b1 : (t153 != t157) = true := bne_iff_ne.mpr c20
                    obtain rfl := Option.some.inj H
                    try go_wp2_with (first | ((with_reducible refine gate_callee (f := 12) rfl ?_); refine goesL_ (some 24) rfl rfl Try.func12 (by kernel_rfl) rfl #[.string a0] rfl (by (try simp only [List.map_toArray, List.map_cons, List.map_nil]); first | done | rfl | (simp only [List.length_drop, List.length_take]; rfl)) ?_; (with_reducible refine (crc_Seal.calls a0 t147 _ A10.out).mono ?_); rintro e w35 ⟨rfl, hb⟩; refine ⟨_, rfl, ?_⟩; have n0_ := Aside0.mk (below_step (by repeat (first | (with_reducible first | exact HB.out | apply below_alloc | apply pw_below_drewN | apply below_drew1) | exact HB.out)) hb); clear HB; have HB := n0_; clear n0_; (try clear hb); (try clear hb2); (try clear hk); (try clear hi)) | ((with_reducible refine gate_callee (f := 8) rfl ?_); refine goesL_ (some 25) rfl rfl Try.func8 (by kernel_rfl) rfl #[.string t147] rfl (by (try simp only [List.map_toArray, List.map_cons, List.map_nil]); first | done | rfl | (simp only [List.length_drop, List.length_take]; rfl)) ?_; (with_reducible refine (crc_Open.calls t147 t148 t149 _ A11.out).mono ?_); rintro e w36 ⟨rfl, hb⟩; refine ⟨_, rfl, ?_⟩; have n0_ := Aside0.mk (below_step (by repeat (first | (with_reducible first | exact HB.out | apply below_alloc | apply pw_below_drewN | apply below_drew1) | exact HB.out)) hb); clear HB; have HB := n0_; clear n0_; (try clear hb); (try clear hb2); (try clear hk); (try clear hi)))
                    have n0_ := Aside0.mk (below_drew1 HB.out)
                    clear HB
                    have HB := n0_
                    clear n0_
                    refine start_ (n := 31) (S := fun w' => True) (ds := []) #[false, false, false, false, false, false, false, false, false, false, false, false, false, false, false, false, false, false, false, false, false, false, false, false, false, false, false, false, false, false, false] (by kernel_rfl) rfl rfl trivial (fun hHeld => ?_); refine with_tabW snapferrylaw02_CrcBack.tab6 snapferrylaw02_CrcBack.bits6 (fun HT_ HW_ => ?_)
                    generalize w36.drew = w37 at HB hHeld ⊢
                    refine pure_ (i := 0) (N := some 28) (v := ?_) (a' := ?_) #[true, false, false, false, false, false, false, false, false, false, false, false, false, false, false, false, false, false, false, false, false, false, false, false, false, false, false, false, false, false, false] rfl rfl (any_of HT_.out (by kernel_rfl)) (fun _ _ _ h => h) (Or.inl ⟨by rfl, ?_⟩) ?_ ?_
                    rotate_left
                    · intro w'
                      go_simp
                      with_reducible rfl
                    rotate_left
                    · simp only [Act.put, List.setIfInBounds_toArray, List.set_cons_zero, List.set_cons_succ, i64_w, i32_w]
                      rfl
                    refine pure_ (i := 1) (N := some 29) (v := ?_) (a' := ?_) #[true, true, false, false, false, false, false, false, false, false, false, false, false, false, false, false, false, false, false, false, false, false, false, false, false, false, false, false, false, false, false] rfl rfl (any_of HT_.out (by kernel_rfl)) (fun _ _ _ h => h) (Or.inl ⟨by rfl, ?_⟩) ?_ ?_
                    rotate_left
                    · intro w'
                      go_simp
                      with_reducible rfl
                    rotate_left
                    · simp only [Act.put, List.setIfInBounds_toArray, List.set_cons_zero, List.set_cons_succ, i64_w, i32_w]
                      rfl
                    refine inv_at [2, 3, 4, 5, 6, 7, 8, 9, 10, 11, 12, 13, 14, 15, 16, 17, 18, 19, 20, 21, 22, 23, 24, 25, 26, 27, 28, 29, 30] (fun a0_ b a w' => ∃ (v151 : Value) (v155 : Value), a = putSel a0_ b [(2, 30, .bool (t148.toList == a0.toList)), (3, 31, .bool (t148.toList == a0.toList)), (4, 32, .int .i64 t149), (5, 33, .bool (t149 == 0)), (6, 34, .bool (t149 == 0)), (7, 35, .bool (t149 == 0)), (8, 36, .string a0), (9, 37, v151), (10, 38, .int .u32 t153), (11, 39, .string a0), (12, 40, .int .i64 a1), (13, 41, .string (a0.extract 0 (a1 : Int).toNat)), (14, 42, .string a0), (15, 43, .int .i64 a1), (16, 44, .string (a0.extract (a1 : Int).toNat a0.size)), (17, 45, v155), (18, 46, .int .u32 t157), (19, 47, .bool (t153 == t157)), (20, 48, .bool (t153 == t157)), (21, 49, .bool (t153 == t157)), (22, 50, undef), (23, 51, undef), (24, 52, undef), (25, 53, undef), (26, 54, undef), (27, 55, undef), (28, 56, undef), (29, 57, .bool false), (30, 4, .bool false)] ∧ (Below w.heap.size w w') ∧ (b 9 = true → Kd.R Kd.string 9 w' w.heap.size (fun _ => True) v151 y150) ∧ (b 17 = true → Kd.R Kd.string 9 w' w.heap.size (fun _ => True) v155 y154)) HT_.out HW_.out (by kernel_rfl) (by kernel_rfl) ?_ ?_ ?_
                    · exact ⟨.bool false, .bool false, by simp only [putSel, Bool.false_eq_true, if_false], HB.out, fun h_ => absurd h_ (by decide), fun h_ => absurd h_ (by decide)⟩
                    · skip
                      clear HB
                      refine steps_cons ?_ ?_
                      · rintro b a w' ⟨v151, v155, ha, Q_HB, Q_HO152, Q_HO156⟩ hb_ hon hoff
                        refine ⟨_, rfl, fun K hK => ?_⟩
                        have e28 : a.tmps[28]? = some (.string t148) := by rw [ha]; exact (putSel_off rfl).trans rfl
                        have e29 : a.tmps[29]? = some (.string a0) := by rw [ha]; exact (putSel_off rfl).trans rfl
                        replace ha := Aside0.mk ha
                        have HB := Aside0.mk Q_HB
                        refine value_ (w1 := w') (v := .bool (t148.toList == a0.toList)) (by rfl) rfl ?_ ?_
                        · go_simp
                          (try simp only [i64_w])
                          try rfl
                        refine hK.out _ _ ⟨v151, v155, (by rw [ha.out]; exact putSel_upk 0 hb_ rfl rfl rfl), Q_HB, fun h0_ => absurd ((hoff 9 (by kernel_rfl)).symm.trans h0_) (by decide), fun h0_ => absurd ((hoff 17 (by kernel_rfl)).symm.trans h0_) (by decide)⟩
                      refine steps_cons ?_ ?_
                      · rintro b a w' ⟨v151, v155, ha, Q_HB, Q_HO152, Q_HO156⟩ hb_ hon hoff
                        refine ⟨_, rfl, fun K hK => ?_⟩
                        have e30 : a.tmps[30]? = some (.bool (t148.toList == a0.toList)) := by rw [ha]; exact putSel_on (e := (2, 30, .bool (t148.toList == a0.toList))) 0 rfl rfl (hon 2 (by kernel_rfl)) rfl
                        replace ha := Aside0.mk ha
                        have HB := Aside0.mk Q_HB
                        refine value_ (w1 := w') (v := .bool (t148.toList == a0.toList)) (by rfl) rfl ?_ ?_
                        · go_simp
                          (try simp only [i64_w])
                          try rfl
                        refine hK.out _ _ ⟨v151, v155, (by rw [ha.out]; exact putSel_upk 1 hb_ rfl rfl rfl), Q_HB, fun h0_ => absurd ((hoff 9 (by kernel_rfl)).symm.trans h0_) (by decide), fun h0_ => absurd ((hoff 17 (by kernel_rfl)).symm.trans h0_) (by decide)⟩
                      refine steps_cons ?_ ?_
                      · rintro b a w' ⟨v151, v155, ha, Q_HB, Q_HO152, Q_HO156⟩ hb_ hon hoff
                        refine ⟨_, rfl, fun K hK => ?_⟩
                        have e6 : a.tmps[6]? = some (.int .i64 t149) := by rw [ha]; exact (putSel_off rfl).trans rfl
                        have e31 : a.tmps[31]? = some (.bool (t148.toList == a0.toList)) := by rw [ha]; exact putSel_on (e := (3, 31, .bool (t148.toList == a0.toList))) 1 rfl rfl (hon 3 (by kernel_rfl)) rfl
                        replace ha := Aside0.mk ha
                        have HB := Aside0.mk Q_HB
                        refine value_ (w1 := w') (v := .int .i64 t149) (wanted_on rfl rfl rfl (e31.trans (by first | rfl | (simp [*]; done)))) rfl ?_ ?_
                        · go_simp
                          (try simp only [i64_w])
                          try rfl
                        refine hK.out _ _ ⟨v151, v155, (by rw [ha.out]; exact putSel_upk 2 hb_ rfl rfl rfl), Q_HB, fun h0_ => absurd ((hoff 9 (by kernel_rfl)).symm.trans h0_) (by decide), fun h0_ => absurd ((hoff 17 (by kernel_rfl)).symm.trans h0_) (by decide)⟩
                      refine steps_cons ?_ ?_
                      · rintro b a w' ⟨v151, v155, ha, Q_HB, Q_HO152, Q_HO156⟩ hb_ hon hoff
                        refine ⟨_, rfl, fun K hK => ?_⟩
                        have e32 : a.tmps[32]? = some (.int .i64 t149) := by rw [ha]; exact putSel_on (e := (4, 32, .int .i64 t149)) 2 rfl rfl (hon 4 (by kernel_rfl)) rfl
                        have e31 : a.tmps[31]? = some (.bool (t148.toList == a0.toList)) := by rw [ha]; exact putSel_on (e := (3, 31, .bool (t148.toList == a0.toList))) 1 rfl rfl (hon 3 (by kernel_rfl)) rfl
                        replace ha := Aside0.mk ha
                        have HB := Aside0.mk Q_HB
                        refine value_ (w1 := w') (v := .bool (t149 == 0)) (wanted_on rfl rfl rfl (e31.trans (by first | rfl | (simp [*]; done)))) rfl ?_ ?_
                        · go_simp
                          (try simp only [i64_w])
                          try rfl
                        refine hK.out _ _ ⟨v151, v155, (by rw [ha.out]; exact putSel_upk 3 hb_ rfl rfl rfl), Q_HB, fun h0_ => absurd ((hoff 9 (by kernel_rfl)).symm.trans h0_) (by decide), fun h0_ => absurd ((hoff 17 (by kernel_rfl)).symm.trans h0_) (by decide)⟩
                      refine steps_cons ?_ ?_
                      · rintro b a w' ⟨v151, v155, ha, Q_HB, Q_HO152, Q_HO156⟩ hb_ hon hoff
                        refine ⟨_, rfl, fun K hK => ?_⟩
                        have e31 : a.tmps[31]? = some (.bool (t148.toList == a0.toList)) := by rw [ha]; exact putSel_on (e := (3, 31, .bool (t148.toList == a0.toList))) 1 rfl rfl (hon 3 (by kernel_rfl)) rfl
                        have e33 : a.tmps[33]? = some (.bool (t149 == 0)) := by rw [ha]; exact putSel_on (e := (5, 33, .bool (t149 == 0))) 3 rfl rfl (hon 5 (by kernel_rfl)) rfl
                        replace ha := Aside0.mk ha
                        have HB := Aside0.mk Q_HB
                        refine value_ (w1 := w') (v := .bool (t149 == 0)) (by rfl) rfl ?_ ?_
                        · go_simp
                          (try simp only [i64_w])
                          try rfl
                        refine hK.out _ _ ⟨v151, v155, (by rw [ha.out]; exact putSel_upk 4 hb_ rfl rfl rfl), Q_HB, fun h0_ => absurd ((hoff 9 (by kernel_rfl)).symm.trans h0_) (by decide), fun h0_ => absurd ((hoff 17 (by kernel_rfl)).symm.trans h0_) (by decide)⟩
                      refine steps_cons ?_ ?_
                      · rintro b a w' ⟨v151, v155, ha, Q_HB, Q_HO152, Q_HO156⟩ hb_ hon hoff
                        refine ⟨_, rfl, fun K hK => ?_⟩
                        have e34 : a.tmps[34]? = some (.bool (t149 == 0)) := by rw [ha]; exact putSel_on (e := (6, 34, .bool (t149 == 0))) 4 rfl rfl (hon 6 (by kernel_rfl)) rfl
                        replace ha := Aside0.mk ha
                        have HB := Aside0.mk Q_HB
                        refine value_ (w1 := w') (v := .bool (t149 == 0)) (by rfl) rfl ?_ ?_
                        · go_simp
                          (try simp only [i64_w])
                          try rfl
                        refine hK.out _ _ ⟨v151, v155, (by rw [ha.out]; exact putSel_upk 5 hb_ rfl rfl rfl), Q_HB, fun h0_ => absurd ((hoff 9 (by kernel_rfl)).symm.trans h0_) (by decide), fun h0_ => absurd ((hoff 17 (by kernel_rfl)).symm.trans h0_) (by decide)⟩
                      refine steps_cons ?_ ?_
                      · rintro b a w' ⟨v151, v155, ha, Q_HB, Q_HO152, Q_HO156⟩ hb_ hon hoff
                        refine ⟨_, rfl, fun K hK => ?_⟩
                        have e0 : a.tmps[0]? = some (.string a0) := by rw [ha]; exact (putSel_off rfl).trans rfl
                        have e35 : a.tmps[35]? = some (.bool (t149 == 0)) := by rw [ha]; exact putSel_on (e := (7, 35, .bool (t149 == 0))) 5 rfl rfl (hon 7 (by kernel_rfl)) rfl
                        replace ha := Aside0.mk ha
                        have HB := Aside0.mk Q_HB
                        refine value_ (w1 := w') (v := .string a0) (wanted_on rfl rfl rfl (e35.trans (by first | rfl | (simp [*]; done)))) rfl ?_ ?_
                        · go_simp
                          (try simp only [i64_w])
                          try rfl
                        refine hK.out _ _ ⟨v151, v155, (by rw [ha.out]; exact putSel_upk 6 hb_ rfl rfl rfl), Q_HB, fun h0_ => absurd ((hoff 9 (by kernel_rfl)).symm.trans h0_) (by decide), Q_HO156⟩
                      refine steps_cons ?_ ?_
                      · rintro b a w' ⟨v151, v155, ha, Q_HB, Q_HO152, Q_HO156⟩ hb_ hon hoff
                        refine ⟨_, rfl, fun K hK => ?_⟩
                        have e36 : a.tmps[36]? = some (.string a0) := by rw [ha]; exact putSel_on (e := (8, 36, .string a0)) 6 rfl rfl (hon 8 (by kernel_rfl)) rfl
                        have e35 : a.tmps[35]? = some (.bool (t149 == 0)) := by rw [ha]; exact putSel_on (e := (7, 35, .bool (t149 == 0))) 5 rfl rfl (hon 7 (by kernel_rfl)) rfl
                        replace ha := Aside0.mk ha
                        have HB := Aside0.mk Q_HB
                        refine Kd.R_lit_step Kd.string _ 9 ?hg (N := 37) ?hd (xs := ([a0] : List ByteArray)) (inner := [.string a0]) (ok := fun _ => True) (okp := fun _ => True) ?hr ?hp (fun _ hk => hk) trivial (Below.refl _ _) (Nat.le_refl _) (by simp) ?_; (case hd => rfl); (case hg => exact (wanted_on rfl rfl rfl (e35.trans (by first | rfl | (simp [*]; done))))); (case hr => first | (go_simp; done) | (go_simp; rfl)); (case hp => exact (Reps.one (show Kd.M Kd.string _ _ _ a0 [.string a0] from rfl) (Reps.none _ _)))
                        intro v151 w38 ho39 hb hg_ hnew_
                        clear hg_ hnew_
                        (first | rw [← Ny150.out] at ho39 | (simp only [Int.reduceToNat] at ho39; rw [← Ny150.out] at ho39))
                        have n0_ := Aside0.mk (Kd.R_lower ho39 (below_size (by repeat (first | (with_reducible first | exact HB.out | apply below_alloc | apply pw_below_drewN | apply below_drew1) | exact HB.out))))
                        have n1_ := Aside0.mk (below_step (by repeat (first | (with_reducible first | exact HB.out | apply below_alloc | apply pw_below_drewN | apply below_drew1) | exact HB.out)) hb)
                        have z_HO156 := fun (h0_ : b 17 = true) => (show Kd.R Kd.string 9 w38 w.heap.size (fun _ => True) v155 y154 from by first | exact (Kd.R_elder' (by (with_reducible repeat (first | apply Kd.R_alloc | apply Kd.R_drewN | apply Kd.R_drew)); exact (Q_HO156 h0_)) (Kd.R_base ho39) hb) | exact Kd.R_mono (Kd.R_elder' (by (with_reducible repeat (first | apply Kd.R_alloc | apply Kd.R_drewN | apply Kd.R_drew)); exact (Q_HO156 h0_)) (Kd.R_base ho39) hb) (fun _ h_ => by first | trivial | exact h_ | exact h_.1))
                        clear HB
                        have HO152 := n0_
                        have HB := n1_
                        clear n0_ n1_
                        clear hb ho39
                        refine hK.out _ _ ⟨v151, v155, (by rw [ha.out]; exact putSel_upk 7 hb_ rfl rfl rfl), (by repeat (first | (with_reducible first | exact HB.out | apply below_alloc | apply pw_below_drewN | apply below_drew1) | exact HB.out)), fun _ => (by (with_reducible repeat (first | apply Kd.R_alloc | apply Kd.R_drewN | apply Kd.R_drew)); exact HO152.out), z_HO156⟩
                      refine steps_cons ?_ ?_
                      · rintro b a w' ⟨v151, v155, ha, Q_HB, Q_HO152, Q_HO156⟩ hb_ hon hoff
                        refine ⟨_, rfl, fun K hK => ?_⟩
                        have e37 : a.tmps[37]? = some (v151) := by rw [ha]; exact putSel_on (e := (9, 37, v151)) 7 rfl rfl (hon 9 (by kernel_rfl)) rfl
                        have e35 : a.tmps[35]? = some (.bool (t149 == 0)) := by rw [ha]; exact putSel_on (e := (7, 35, .bool (t149 == 0))) 5 rfl rfl (hon 7 (by kernel_rfl)) rfl
                        replace ha := Aside0.mk ha
                        have HB := Aside0.mk Q_HB
                        have HO152 := Aside0.mk (Q_HO152 (hon 9 (by kernel_rfl)))
                        obtain ⟨Ao41, co41, eo41⟩ := Kd.R_slice HO152.out
                        (first | subst eo41 | (injection eo41 with f1_ f2_ f3_; have f4_ := f1_.symm; have f5_ := f3_.symm; clear f1_ f2_ f3_; subst f4_; subst f5_))
                        refine goes_ Try.func10 (by kernel_rfl) rfl #[.slice Ao41 y150.length co41] (wanted_on rfl rfl rfl (e35.trans (by first | rfl | (simp [*]; done)))) rfl rfl (by first | (simp only [List.map_toArray, List.map_cons, List.map_nil, Act.eval, Array.getD_eq_getD_getElem?, Option.getD_some, e37, e35]; done) | (simp only [List.map_toArray, List.map_cons, List.map_nil, Act.eval, Array.getD_eq_getD_getElem?, Option.getD_some, e37, e35]; rfl)) ?_
                        with_reducible refine (crc_Sum.calls _ _ y150 t153 _ ?side1 ?side2 A14.out).mono ?_
                        (case side1 => repeat (first | exact (Kd.R_reads' HO152.out).2.2 | (with_reducible refine Kd.C_alloc ?_ _) | (with_reducible refine Kd.C_drewN ?_ _) | (with_reducible refine Kd.C_drew ?_)))
                        (case side2 => exact (Kd.R_reads' HO152.out).2.1)
                        rintro e w42 ⟨rfl, hb⟩
                        refine ⟨_, rfl, ?_⟩
                        have n0_ := Aside0.mk (Kd.R_below (by (with_reducible repeat (first | apply Kd.R_alloc | apply Kd.R_drewN | apply Kd.R_drew)); exact HO152.out) hb)
                        have n1_ := Aside0.mk (below_step (by repeat (first | (with_reducible first | exact HB.out | apply below_alloc | apply pw_below_drewN | apply below_drew1) | exact HB.out)) hb)
                        have z_HO156 := fun (h0_ : b 17 = true) => (show Kd.R Kd.string 9 w42 w.heap.size (fun _ => True) v155 y154 from by first | exact (Kd.R_below (by (with_reducible repeat (first | apply Kd.R_alloc | apply Kd.R_drewN | apply Kd.R_drew)); exact (Q_HO156 h0_)) hb) | exact Kd.R_mono (Kd.R_below (by (with_reducible repeat (first | apply Kd.R_alloc | apply Kd.R_drewN | apply Kd.R_drew)); exact (Q_HO156 h0_)) hb) (fun _ h_ => by first | trivial | exact h_ | exact h_.1))
                        clear HO152
                        clear HB
                        have HO152 := n0_
                        have HB := n1_
                        clear n0_ n1_
                        (try clear hb)
                        (try clear hb2)
                        (try clear hk)
                        (try clear hi)
                        refine hK.out _ _ ⟨.slice Ao41 y150.length co41, v155, (by rw [ha.out]; exact putSel_upk 8 hb_ rfl rfl rfl), (by repeat (first | (with_reducible first | exact HB.out | apply below_alloc | apply pw_below_drewN | apply below_drew1) | exact HB.out)), fun _ => (by (with_reducible repeat (first | apply Kd.R_alloc | apply Kd.R_drewN | apply Kd.R_drew)); exact HO152.out), z_HO156⟩
                      refine steps_cons ?_ ?_
                      · rintro b a w' ⟨v151, v155, ha, Q_HB, Q_HO152, Q_HO156⟩ hb_ hon hoff
                        refine ⟨_, rfl, fun K hK => ?_⟩
                        have e0 : a.tmps[0]? = some (.string a0) := by rw [ha]; exact (putSel_off rfl).trans rfl
                        have e35 : a.tmps[35]? = some (.bool (t149 == 0)) := by rw [ha]; exact putSel_on (e := (7, 35, .bool (t149 == 0))) 5 rfl rfl (hon 7 (by kernel_rfl)) rfl
                        replace ha := Aside0.mk ha
                        have HB := Aside0.mk Q_HB
                        refine value_ (w1 := w') (v := .string a0) (wanted_on rfl rfl rfl (e35.trans (by first | rfl | (simp [*]; done)))) rfl ?_ ?_
                        · go_simp
                          (try simp only [i64_w])
                          try rfl
                        refine hK.out _ _ ⟨v151, v155, (by rw [ha.out]; exact putSel_upk 9 hb_ rfl rfl rfl), Q_HB, Q_HO152, fun h0_ => absurd ((hoff 17 (by kernel_rfl)).symm.trans h0_) (by decide)⟩
                      refine steps_cons ?_ ?_
                      · rintro b a w' ⟨v151, v155, ha, Q_HB, Q_HO152, Q_HO156⟩ hb_ hon hoff
                        refine ⟨_, rfl, fun K hK => ?_⟩
                        have e1 : a.tmps[1]? = some (.int .i64 a1) := by rw [ha]; exact (putSel_off rfl).trans rfl
                        have e35 : a.tmps[35]? = some (.bool (t149 == 0)) := by rw [ha]; exact putSel_on (e := (7, 35, .bool (t149 == 0))) 5 rfl rfl (hon 7 (by kernel_rfl)) rfl
                        replace ha := Aside0.mk ha
                        have HB := Aside0.mk Q_HB
                        refine value_ (w1 := w') (v := .int .i64 a1) (wanted_on rfl rfl rfl (e35.trans (by first | rfl | (simp [*]; done)))) rfl ?_ ?_
                        · go_simp
                          (try simp only [i64_w])
                          try rfl
                        refine hK.out _ _ ⟨v151, v155, (by rw [ha.out]; exact putSel_upk 10 hb_ rfl rfl rfl), Q_HB, Q_HO152, fun h0_ => absurd ((hoff 17 (by kernel_rfl)).symm.trans h0_) (by decide)⟩
                      refine steps_cons ?_ ?_
                      · rintro b a w' ⟨v151, v155, ha, Q_HB, Q_HO152, Q_HO156⟩ hb_ hon hoff
                        refine ⟨_, rfl, fun K hK => ?_⟩
                        have e39 : a.tmps[39]? = some (.string a0) := by rw [ha]; exact putSel_on (e := (11, 39, .string a0)) 9 rfl rfl (hon 11 (by kernel_rfl)) rfl
                        have e40 : a.tmps[40]? = some (.int .i64 a1) := by rw [ha]; exact putSel_on (e := (12, 40, .int .i64 a1)) 10 rfl rfl (hon 12 (by kernel_rfl)) rfl
                        have e35 : a.tmps[35]? = some (.bool (t149 == 0)) := by rw [ha]; exact putSel_on (e := (7, 35, .bool (t149 == 0))) 5 rfl rfl (hon 7 (by kernel_rfl)) rfl
                        replace ha := Aside0.mk ha
                        have HB := Aside0.mk Q_HB
                        refine value_ (w1 := w') (v := .string (a0.extract 0 (a1 : Int).toNat)) (wanted_on rfl rfl rfl (e35.trans (by first | rfl | (simp [*]; done)))) rfl ?_ ?_
                        · go_simp
                          (try simp only [i64_w])
                          try rfl
                        refine hK.out _ _ ⟨v151, v155, (by rw [ha.out]; exact putSel_upk 11 hb_ rfl rfl rfl), Q_HB, Q_HO152, fun h0_ => absurd ((hoff 17 (by kernel_rfl)).symm.trans h0_) (by decide)⟩
                      refine steps_cons ?_ ?_
                      · rintro b a w' ⟨v151, v155, ha, Q_HB, Q_HO152, Q_HO156⟩ hb_ hon hoff
                        refine ⟨_, rfl, fun K hK => ?_⟩
                        have e0 : a.tmps[0]? = some (.string a0) := by rw [ha]; exact (putSel_off rfl).trans rfl
                        have e35 : a.tmps[35]? = some (.bool (t149 == 0)) := by rw [ha]; exact putSel_on (e := (7, 35, .bool (t149 == 0))) 5 rfl rfl (hon 7 (by kernel_rfl)) rfl
                        replace ha := Aside0.mk ha
                        have HB := Aside0.mk Q_HB
                        refine value_ (w1 := w') (v := .string a0) (wanted_on rfl rfl rfl (e35.trans (by first | rfl | (simp [*]; done)))) rfl ?_ ?_
                        · go_simp
                          (try simp only [i64_w])
                          try rfl
                        refine hK.out _ _ ⟨v151, v155, (by rw [ha.out]; exact putSel_upk 12 hb_ rfl rfl rfl), Q_HB, Q_HO152, fun h0_ => absurd ((hoff 17 (by kernel_rfl)).symm.trans h0_) (by decide)⟩
                      refine steps_cons ?_ ?_
                      · rintro b a w' ⟨v151, v155, ha, Q_HB, Q_HO152, Q_HO156⟩ hb_ hon hoff
                        refine ⟨_, rfl, fun K hK => ?_⟩
                        have e1 : a.tmps[1]? = some (.int .i64 a1) := by rw [ha]; exact (putSel_off rfl).trans rfl
                        have e35 : a.tmps[35]? = some (.bool (t149 == 0)) := by rw [ha]; exact putSel_on (e := (7, 35, .bool (t149 == 0))) 5 rfl rfl (hon 7 (by kernel_rfl)) rfl
                        replace ha := Aside0.mk ha
                        have HB := Aside0.mk Q_HB
                        refine value_ (w1 := w') (v := .int .i64 a1) (wanted_on rfl rfl rfl (e35.trans (by first | rfl | (simp [*]; done)))) rfl ?_ ?_
                        · go_simp
                          (try simp only [i64_w])
                          try rfl
                        refine hK.out _ _ ⟨v151, v155, (by rw [ha.out]; exact putSel_upk 13 hb_ rfl rfl rfl), Q_HB, Q_HO152, fun h0_ => absurd ((hoff 17 (by kernel_rfl)).symm.trans h0_) (by decide)⟩
                      refine steps_cons ?_ ?_
                      · rintro b a w' ⟨v151, v155, ha, Q_HB, Q_HO152, Q_HO156⟩ hb_ hon hoff
                        refine ⟨_, rfl, fun K hK => ?_⟩
                        have e42 : a.tmps[42]? = some (.string a0) := by rw [ha]; exact putSel_on (e := (14, 42, .string a0)) 12 rfl rfl (hon 14 (by kernel_rfl)) rfl
                        have e43 : a.tmps[43]? = some (.int .i64 a1) := by rw [ha]; exact putSel_on (e := (15, 43, .int .i64 a1)) 13 rfl rfl (hon 15 (by kernel_rfl)) rfl
                        have e35 : a.tmps[35]? = some (.bool (t149 == 0)) := by rw [ha]; exact putSel_on (e := (7, 35, .bool (t149 == 0))) 5 rfl rfl (hon 7 (by kernel_rfl)) rfl
                        replace ha := Aside0.mk ha
                        have HB := Aside0.mk Q_HB
                        refine value_ (w1 := w') (v := .string (a0.extract (a1 : Int).toNat a0.size)) (wanted_on rfl rfl rfl (e35.trans (by first | rfl | (simp [*]; done)))) rfl ?_ ?_
                        · go_simp
                          (try simp only [i64_w])
                          try rfl
                        refine hK.out _ _ ⟨v151, v155, (by rw [ha.out]; exact putSel_upk 14 hb_ rfl rfl rfl), Q_HB, Q_HO152, fun h0_ => absurd ((hoff 17 (by kernel_rfl)).symm.trans h0_) (by decide)⟩
                      refine steps_cons ?_ ?_
                      · rintro b a w' ⟨v151, v155, ha, Q_HB, Q_HO152, Q_HO156⟩ hb_ hon hoff
                        refine ⟨_, rfl, fun K hK => ?_⟩
                        have e41 : a.tmps[41]? = some (.string (a0.extract 0 (a1 : Int).toNat)) := by rw [ha]; exact putSel_on (e := (13, 41, .string (a0.extract 0 (a1 : Int).toNat))) 11 rfl rfl (hon 13 (by kernel_rfl)) rfl
                        have e44 : a.tmps[44]? = some (.string (a0.extract (a1 : Int).toNat a0.size)) := by rw [ha]; exact putSel_on (e := (16, 44, .string (a0.extract (a1 : Int).toNat a0.size))) 14 rfl rfl (hon 16 (by kernel_rfl)) rfl
                        have e35 : a.tmps[35]? = some (.bool (t149 == 0)) := by rw [ha]; exact putSel_on (e := (7, 35, .bool (t149 == 0))) 5 rfl rfl (hon 7 (by kernel_rfl)) rfl
                        replace ha := Aside0.mk ha
                        have HB := Aside0.mk Q_HB
                        refine Kd.R_lit_step Kd.string _ 9 ?hg (N := 45) ?hd (xs := ([a0.extract 0 (a1 : Int).toNat, a0.extract (a1 : Int).toNat a0.size] : List ByteArray)) (inner := [.string (a0.extract 0 (a1 : Int).toNat), .string (a0.extract (a1 : Int).toNat a0.size)]) (ok := fun _ => True) (okp := fun _ => True) ?hr ?hp (fun _ hk => hk) trivial (Below.refl _ _) (Nat.le_refl _) (by simp) ?_; (case hd => rfl); (case hg => exact (wanted_on rfl rfl rfl (e35.trans (by first | rfl | (simp [*]; done))))); (case hr => first | (go_simp; done) | (go_simp; rfl)); (case hp => exact (Reps.one (show Kd.M Kd.string _ _ _ (a0.extract 0 (a1 : Int).toNat) [.string (a0.extract 0 (a1 : Int).toNat)] from rfl) (Reps.one (show Kd.M Kd.string _ _ _ (a0.extract (a1 : Int).toNat a0.size) [.string (a0.extract (a1 : Int).toNat a0.size)] from rfl) (Reps.none _ _))))
                        intro v155 w38 ho39 hb hg_ hnew_
                        clear hg_ hnew_
                        (first | rw [← Ny154.out] at ho39 | (simp only [Int.reduceToNat] at ho39; rw [← Ny154.out] at ho39))
                        have n0_ := Aside0.mk (Kd.R_lower ho39 (below_size (by repeat (first | (with_reducible first | exact HB.out | apply below_alloc | apply pw_below_drewN | apply below_drew1) | exact HB.out))))
                        have n1_ := Aside0.mk (below_step (by repeat (first | (with_reducible first | exact HB.out | apply below_alloc | apply pw_below_drewN | apply below_drew1) | exact HB.out)) hb)
                        have z_HO152 := fun (h0_ : b 9 = true) => (show Kd.R Kd.string 9 w38 w.heap.size (fun _ => True) v151 y150 from by first | exact (Kd.R_elder' (by (with_reducible repeat (first | apply Kd.R_alloc | apply Kd.R_drewN | apply Kd.R_drew)); exact (Q_HO152 h0_)) (Kd.R_base ho39) hb) | exact Kd.R_mono (Kd.R_elder' (by (with_reducible repeat (first | apply Kd.R_alloc | apply Kd.R_drewN | apply Kd.R_drew)); exact (Q_HO152 h0_)) (Kd.R_base ho39) hb) (fun _ h_ => by first | trivial | exact h_ | exact h_.1))
                        clear HB
                        have HO156 := n0_
                        have HB := n1_
                        clear n0_ n1_
                        clear hb ho39
                        refine hK.out _ _ ⟨v151, v155, (by rw [ha.out]; exact putSel_upk 15 hb_ rfl rfl rfl), (by repeat (first | (with_reducible first | exact HB.out | apply below_alloc | apply pw_below_drewN | apply below_drew1) | exact HB.out)), z_HO152, fun _ => (by (with_reducible repeat (first | apply Kd.R_alloc | apply Kd.R_drewN | apply Kd.R_drew)); exact HO156.out)⟩
                      refine steps_cons ?_ ?_
                      · rintro b a w' ⟨v151, v155, ha, Q_HB, Q_HO152, Q_HO156⟩ hb_ hon hoff
                        refine ⟨_, rfl, fun K hK => ?_⟩
                        have e45 : a.tmps[45]? = some (v155) := by rw [ha]; exact putSel_on (e := (17, 45, v155)) 15 rfl rfl (hon 17 (by kernel_rfl)) rfl
                        have e35 : a.tmps[35]? = some (.bool (t149 == 0)) := by rw [ha]; exact putSel_on (e := (7, 35, .bool (t149 == 0))) 5 rfl rfl (hon 7 (by kernel_rfl)) rfl
                        replace ha := Aside0.mk ha
                        have HB := Aside0.mk Q_HB
                        have HO152 := Aside0.mk (Q_HO152 (hon 9 (by kernel_rfl)))
                        have HO156 := Aside0.mk (Q_HO156 (hon 17 (by kernel_rfl)))
                        obtain ⟨Ao45, co45, eo45⟩ := Kd.R_slice HO156.out
                        (first | subst eo45 | (injection eo45 with f1_ f2_ f3_; have f4_ := f1_.symm; have f5_ := f3_.symm; clear f1_ f2_ f3_; subst f4_; subst f5_))
                        refine goes_ Try.func10 (by kernel_rfl) rfl #[.slice Ao45 y154.length co45] (wanted_on rfl rfl rfl (e35.trans (by first | rfl | (simp [*]; done)))) rfl rfl (by first | (simp only [List.map_toArray, List.map_cons, List.map_nil, Act.eval, Array.getD_eq_getD_getElem?, Option.getD_some, e45, e35]; done) | (simp only [List.map_toArray, List.map_cons, List.map_nil, Act.eval, Array.getD_eq_getD_getElem?, Option.getD_some, e45, e35]; rfl)) ?_
                        with_reducible refine (crc_Sum.calls _ _ y154 t157 _ ?side1 ?side2 A19.out).mono ?_
                        (case side1 => repeat (first | exact (Kd.R_reads' HO156.out).2.2 | (with_reducible refine Kd.C_alloc ?_ _) | (with_reducible refine Kd.C_drewN ?_ _) | (with_reducible refine Kd.C_drew ?_)))
                        (case side2 => exact (Kd.R_reads' HO156.out).2.1)
                        rintro e w46 ⟨rfl, hb⟩
                        refine ⟨_, rfl, ?_⟩
                        have n0_ := Aside0.mk (Kd.R_below (by (with_reducible repeat (first | apply Kd.R_alloc | apply Kd.R_drewN | apply Kd.R_drew)); exact HO152.out) hb)
                        have n1_ := Aside0.mk (Kd.R_below (by (with_reducible repeat (first | apply Kd.R_alloc | apply Kd.R_drewN | apply Kd.R_drew)); exact HO156.out) hb)
                        have n2_ := Aside0.mk (below_step (by repeat (first | (with_reducible first | exact HB.out | apply below_alloc | apply pw_below_drewN | apply below_drew1) | exact HB.out)) hb)
                        clear HO152
                        clear HO156
                        clear HB
                        have HO152 := n0_
                        have HO156 := n1_
                        have HB := n2_
                        clear n0_ n1_ n2_
                        (try clear hb)
                        (try clear hb2)
                        (try clear hk)
                        (try clear hi)
                        refine hK.out _ _ ⟨v151, .slice Ao45 y154.length co45, (by rw [ha.out]; exact putSel_upk 16 hb_ rfl rfl rfl), (by repeat (first | (with_reducible first | exact HB.out | apply below_alloc | apply pw_below_drewN | apply below_drew1) | exact HB.out)), fun _ => (by (with_reducible repeat (first | apply Kd.R_alloc | apply Kd.R_drewN | apply Kd.R_drew)); exact HO152.out), fun _ => (by (with_reducible repeat (first | apply Kd.R_alloc | apply Kd.R_drewN | apply Kd.R_drew)); exact HO156.out)⟩
                      refine steps_cons ?_ ?_
                      · rintro b a w' ⟨v151, v155, ha, Q_HB, Q_HO152, Q_HO156⟩ hb_ hon hoff
                        refine ⟨_, rfl, fun K hK => ?_⟩
                        have e38 : a.tmps[38]? = some (.int .u32 t153) := by rw [ha]; exact putSel_on (e := (10, 38, .int .u32 t153)) 8 rfl rfl (hon 10 (by kernel_rfl)) rfl
                        have e46 : a.tmps[46]? = some (.int .u32 t157) := by rw [ha]; exact putSel_on (e := (18, 46, .int .u32 t157)) 16 rfl rfl (hon 18 (by kernel_rfl)) rfl
                        have e35 : a.tmps[35]? = some (.bool (t149 == 0)) := by rw [ha]; exact putSel_on (e := (7, 35, .bool (t149 == 0))) 5 rfl rfl (hon 7 (by kernel_rfl)) rfl
                        replace ha := Aside0.mk ha
                        have HB := Aside0.mk Q_HB
                        have HO152 := Aside0.mk (Q_HO152 (hon 9 (by kernel_rfl)))
                        have HO156 := Aside0.mk (Q_HO156 (hon 17 (by kernel_rfl)))
                        refine value_ (w1 := w') (v := .bool (t153 == t157)) (wanted_on rfl rfl rfl (e35.trans (by first | rfl | (simp [*]; done)))) rfl ?_ ?_
                        · go_simp
                          (try simp only [i64_w])
                          try rfl
                        refine hK.out _ _ ⟨v151, v155, (by rw [ha.out]; exact putSel_upk 17 hb_ rfl rfl rfl), Q_HB, Q_HO152, Q_HO156⟩
                      refine steps_cons ?_ ?_
                      · rintro b a w' ⟨v151, v155, ha, Q_HB, Q_HO152, Q_HO156⟩ hb_ hon hoff
                        refine ⟨_, rfl, fun K hK => ?_⟩
                        have e35 : a.tmps[35]? = some (.bool (t149 == 0)) := by rw [ha]; exact putSel_on (e := (7, 35, .bool (t149 == 0))) 5 rfl rfl (hon 7 (by kernel_rfl)) rfl
                        have e47 : a.tmps[47]? = some (.bool (t153 == t157)) := by rw [ha]; exact putSel_on (e := (19, 47, .bool (t153 == t157))) 17 rfl rfl (hon 19 (by kernel_rfl)) rfl
                        replace ha := Aside0.mk ha
                        have HB := Aside0.mk Q_HB
                        have HO152 := Aside0.mk (Q_HO152 (hon 9 (by kernel_rfl)))
                        have HO156 := Aside0.mk (Q_HO156 (hon 17 (by kernel_rfl)))
                        refine value_ (w1 := w') (v := .bool (t153 == t157)) (by rfl) rfl ?_ ?_
                        · go_simp
                          (try simp only [i64_w])
                          try rfl
                        refine hK.out _ _ ⟨v151, v155, (by rw [ha.out]; exact putSel_upk 18 hb_ rfl rfl rfl), Q_HB, Q_HO152, Q_HO156⟩
                      refine steps_cons ?_ ?_
                      · rintro b a w' ⟨v151, v155, ha, Q_HB, Q_HO152, Q_HO156⟩ hb_ hon hoff
                        refine ⟨_, rfl, fun K hK => ?_⟩
                        have e48 : a.tmps[48]? = some (.bool (t153 == t157)) := by rw [ha]; exact putSel_on (e := (20, 48, .bool (t153 == t157))) 18 rfl rfl (hon 20 (by kernel_rfl)) rfl
                        replace ha := Aside0.mk ha
                        have HB := Aside0.mk Q_HB
                        have HO152 := Aside0.mk (Q_HO152 (hon 9 (by kernel_rfl)))
                        have HO156 := Aside0.mk (Q_HO156 (hon 17 (by kernel_rfl)))
                        refine value_ (w1 := w') (v := .bool (t153 == t157)) (by rfl) rfl ?_ ?_
                        · go_simp
                          (try simp only [i64_w])
                          try rfl
                        refine hK.out _ _ ⟨v151, v155, (by rw [ha.out]; exact putSel_upk 19 hb_ rfl rfl rfl), Q_HB, Q_HO152, Q_HO156⟩
                      refine steps_cons ?_ ?_
                      · rintro b a w' ⟨v151, v155, ha, Q_HB, Q_HO152, Q_HO156⟩ hb_ hon hoff
                        refine ⟨_, rfl, fun K hK => ?_⟩
                        have e49 : a.tmps[49]? = some (.bool (t153 == t157)) := by rw [ha]; exact putSel_on (e := (21, 49, .bool (t153 == t157))) 19 rfl rfl (hon 21 (by kernel_rfl)) rfl
                        replace ha := Aside0.mk ha
                        have HB := Aside0.mk Q_HB
                        have HO152 := Aside0.mk (Q_HO152 (hon 9 (by kernel_rfl)))
                        have HO156 := Aside0.mk (Q_HO156 (hon 17 (by kernel_rfl)))
                        refine off_ (wanted_off rfl rfl rfl (e49.trans (by first | rfl | (simp [*]; done)))) ?_
                        refine hK.out _ _ ⟨v151, v155, (by rw [ha.out]; exact putSel_upk 20 hb_ rfl rfl rfl), Q_HB, Q_HO152, Q_HO156⟩
                      refine steps_cons ?_ ?_
                      · rintro b a w' ⟨v151, v155, ha, Q_HB, Q_HO152, Q_HO156⟩ hb_ hon hoff
                        refine ⟨_, rfl, fun K hK => ?_⟩
                        have e49 : a.tmps[49]? = some (.bool (t153 == t157)) := by rw [ha]; exact putSel_on (e := (21, 49, .bool (t153 == t157))) 19 rfl rfl (hon 21 (by kernel_rfl)) rfl
                        replace ha := Aside0.mk ha
                        have HB := Aside0.mk Q_HB
                        have HO152 := Aside0.mk (Q_HO152 (hon 9 (by kernel_rfl)))
                        have HO156 := Aside0.mk (Q_HO156 (hon 17 (by kernel_rfl)))
                        refine off_ (wanted_off rfl rfl rfl (e49.trans (by first | rfl | (simp [*]; done)))) ?_
                        refine hK.out _ _ ⟨v151, v155, (by rw [ha.out]; exact putSel_upk 21 hb_ rfl rfl rfl), Q_HB, Q_HO152, Q_HO156⟩
                      refine steps_cons ?_ ?_
                      · rintro b a w' ⟨v151, v155, ha, Q_HB, Q_HO152, Q_HO156⟩ hb_ hon hoff
                        refine ⟨_, rfl, fun K hK => ?_⟩
                        have e49 : a.tmps[49]? = some (.bool (t153 == t157)) := by rw [ha]; exact putSel_on (e := (21, 49, .bool (t153 == t157))) 19 rfl rfl (hon 21 (by kernel_rfl)) rfl
                        replace ha := Aside0.mk ha
                        have HB := Aside0.mk Q_HB
                        have HO152 := Aside0.mk (Q_HO152 (hon 9 (by kernel_rfl)))
                        have HO156 := Aside0.mk (Q_HO156 (hon 17 (by kernel_rfl)))
                        refine off_ (wanted_off rfl rfl rfl (e49.trans (by first | rfl | (simp [*]; done)))) ?_
                        refine hK.out _ _ ⟨v151, v155, (by rw [ha.out]; exact putSel_upk 22 hb_ rfl rfl rfl), Q_HB, Q_HO152, Q_HO156⟩
                      refine steps_cons ?_ ?_
                      · rintro b a w' ⟨v151, v155, ha, Q_HB, Q_HO152, Q_HO156⟩ hb_ hon hoff
                        refine ⟨_, rfl, fun K hK => ?_⟩
                        have e49 : a.tmps[49]? = some (.bool (t153 == t157)) := by rw [ha]; exact putSel_on (e := (21, 49, .bool (t153 == t157))) 19 rfl rfl (hon 21 (by kernel_rfl)) rfl
                        replace ha := Aside0.mk ha
                        have HB := Aside0.mk Q_HB
                        have HO152 := Aside0.mk (Q_HO152 (hon 9 (by kernel_rfl)))
                        have HO156 := Aside0.mk (Q_HO156 (hon 17 (by kernel_rfl)))
                        refine off_ (wanted_off rfl rfl rfl (e49.trans (by first | rfl | (simp [*]; done)))) ?_
                        refine hK.out _ _ ⟨v151, v155, (by rw [ha.out]; exact putSel_upk 23 hb_ rfl rfl rfl), Q_HB, Q_HO152, Q_HO156⟩
                      refine steps_cons ?_ ?_
                      · rintro b a w' ⟨v151, v155, ha, Q_HB, Q_HO152, Q_HO156⟩ hb_ hon hoff
                        refine ⟨_, rfl, fun K hK => ?_⟩
                        have e49 : a.tmps[49]? = some (.bool (t153 == t157)) := by rw [ha]; exact putSel_on (e := (21, 49, .bool (t153 == t157))) 19 rfl rfl (hon 21 (by kernel_rfl)) rfl
                        replace ha := Aside0.mk ha
                        have HB := Aside0.mk Q_HB
                        have HO152 := Aside0.mk (Q_HO152 (hon 9 (by kernel_rfl)))
                        have HO156 := Aside0.mk (Q_HO156 (hon 17 (by kernel_rfl)))
                        refine off_ (wanted_off rfl rfl rfl (e49.trans (by first | rfl | (simp [*]; done)))) ?_
                        refine hK.out _ _ ⟨v151, v155, (by rw [ha.out]; exact putSel_upk 24 hb_ rfl rfl rfl), Q_HB, Q_HO152, Q_HO156⟩
                      refine steps_cons ?_ ?_
                      · rintro b a w' ⟨v151, v155, ha, Q_HB, Q_HO152, Q_HO156⟩ hb_ hon hoff
                        refine ⟨_, rfl, fun K hK => ?_⟩
                        have e49 : a.tmps[49]? = some (.bool (t153 == t157)) := by rw [ha]; exact putSel_on (e := (21, 49, .bool (t153 == t157))) 19 rfl rfl (hon 21 (by kernel_rfl)) rfl
                        replace ha := Aside0.mk ha
                        have HB := Aside0.mk Q_HB
                        have HO152 := Aside0.mk (Q_HO152 (hon 9 (by kernel_rfl)))
                        have HO156 := Aside0.mk (Q_HO156 (hon 17 (by kernel_rfl)))
                        refine off_ (wanted_off rfl rfl rfl (e49.trans (by first | rfl | (simp [*]; done)))) ?_
                        refine hK.out _ _ ⟨v151, v155, (by rw [ha.out]; exact putSel_upk 25 hb_ rfl rfl rfl), Q_HB, Q_HO152, Q_HO156⟩
                      refine steps_cons ?_ ?_
                      · rintro b a w' ⟨v151, v155, ha, Q_HB, Q_HO152, Q_HO156⟩ hb_ hon hoff
                        refine ⟨_, rfl, fun K hK => ?_⟩
                        have e49 : a.tmps[49]? = some (.bool (t153 == t157)) := by rw [ha]; exact putSel_on (e := (21, 49, .bool (t153 == t157))) 19 rfl rfl (hon 21 (by kernel_rfl)) rfl
                        replace ha := Aside0.mk ha
                        have HB := Aside0.mk Q_HB
                        have HO152 := Aside0.mk (Q_HO152 (hon 9 (by kernel_rfl)))
                        have HO156 := Aside0.mk (Q_HO156 (hon 17 (by kernel_rfl)))
                        refine off_ (wanted_off rfl rfl rfl (e49.trans (by first | rfl | (simp [*]; done)))) ?_
                        refine hK.out _ _ ⟨v151, v155, (by rw [ha.out]; exact putSel_upk 26 hb_ rfl rfl rfl), Q_HB, Q_HO152, Q_HO156⟩
                      refine steps_cons ?_ ?_
                      · rintro b a w' ⟨v151, v155, ha, Q_HB, Q_HO152, Q_HO156⟩ hb_ hon hoff
                        refine ⟨_, rfl, fun K hK => ?_⟩
                        have e49 : a.tmps[49]? = some (.bool (t153 == t157)) := by rw [ha]; exact putSel_on (e := (21, 49, .bool (t153 == t157))) 19 rfl rfl (hon 21 (by kernel_rfl)) rfl
                        have e56 : a.tmps[56]? = some (undef) := by rw [ha]; exact putSel_on (e := (28, 56, undef)) 26 rfl rfl (hon 28 (by kernel_rfl)) rfl
                        replace ha := Aside0.mk ha
                        have HB := Aside0.mk Q_HB
                        have HO152 := Aside0.mk (Q_HO152 (hon 9 (by kernel_rfl)))
                        have HO156 := Aside0.mk (Q_HO156 (hon 17 (by kernel_rfl)))
                        refine value_ (w1 := w') (v := .bool false) (by rfl) rfl ?_ ?_
                        · go_simp
                          (try simp only [i64_w])
                          try rfl
                        refine hK.out _ _ ⟨v151, v155, (by rw [ha.out]; exact putSel_upk 27 hb_ rfl rfl rfl), Q_HB, Q_HO152, Q_HO156⟩
                      refine steps_cons ?_ ?_
                      · rintro b a w' ⟨v151, v155, ha, Q_HB, Q_HO152, Q_HO156⟩ hb_ hon hoff
                        refine ⟨_, rfl, fun K hK => ?_⟩
                        have e57 : a.tmps[57]? = some (.bool false) := by rw [ha]; exact putSel_on (e := (29, 57, .bool false)) 27 rfl rfl (hon 29 (by kernel_rfl)) rfl
                        replace ha := Aside0.mk ha
                        have HB := Aside0.mk Q_HB
                        have HO152 := Aside0.mk (Q_HO152 (hon 9 (by kernel_rfl)))
                        have HO156 := Aside0.mk (Q_HO156 (hon 17 (by kernel_rfl)))
                        refine value_ (w1 := w') (v := .bool false) (by rfl) rfl ?_ ?_
                        · go_simp
                          (try simp only [i64_w])
                          try rfl
                        refine hK.out _ _ ⟨v151, v155, (by rw [ha.out]; exact putSel_upk 28 hb_ rfl rfl rfl), Q_HB, Q_HO152, Q_HO156⟩
                      exact steps_nil
                    rintro b a w46 hall ⟨v151, v155, ha, Q_HB, Q_HO152, Q_HO156⟩
                    clear HB
                    have hb2_ := hall 2 (by kernel_rfl)
                    have hb3_ := hall 3 (by kernel_rfl)
                    have hb4_ := hall 4 (by kernel_rfl)
                    have hb5_ := hall 5 (by kernel_rfl)
                    have hb6_ := hall 6 (by kernel_rfl)
                    have hb7_ := hall 7 (by kernel_rfl)
                    have hb8_ := hall 8 (by kernel_rfl)
                    have hb9_ := hall 9 (by kernel_rfl)
                    have hb10_ := hall 10 (by kernel_rfl)
                    have hb11_ := hall 11 (by kernel_rfl)
                    have hb12_ := hall 12 (by kernel_rfl)
                    have hb13_ := hall 13 (by kernel_rfl)
                    have hb14_ := hall 14 (by kernel_rfl)
                    have hb15_ := hall 15 (by kernel_rfl)
                    have hb16_ := hall 16 (by kernel_rfl)
                    have hb17_ := hall 17 (by kernel_rfl)
                    have hb18_ := hall 18 (by kernel_rfl)
                    have hb19_ := hall 19 (by kernel_rfl)
                    have hb20_ := hall 20 (by kernel_rfl)
                    have hb21_ := hall 21 (by kernel_rfl)
                    have hb22_ := hall 22 (by kernel_rfl)
                    have hb23_ := hall 23 (by kernel_rfl)
                    have hb24_ := hall 24 (by kernel_rfl)
                    have hb25_ := hall 25 (by kernel_rfl)
                    have hb26_ := hall 26 (by kernel_rfl)
                    have hb27_ := hall 27 (by kernel_rfl)
                    have hb28_ := hall 28 (by kernel_rfl)
                    have hb29_ := hall 29 (by kernel_rfl)
                    have hb30_ := hall 30 (by kernel_rfl)
                    subst ha
                    simp only [putSel, hb2_, hb3_, hb4_, hb5_, hb6_, hb7_, hb8_, hb9_, hb10_, hb11_, hb12_, hb13_, hb14_, hb15_, hb16_, hb17_, hb18_, hb19_, hb20_, hb21_, hb22_, hb23_, hb24_, hb25_, hb26_, hb27_, hb28_, hb29_, hb30_, if_true, Act.put, List.setIfInBounds_toArray, List.set_cons_zero, List.set_cons_succ]
                    have HB := Aside0.mk Q_HB
                    clear Q_HB
                    have HO152 := Aside0.mk (Q_HO152 hb9_)
                    clear Q_HO152
                    have HO156 := Aside0.mk (Q_HO156 hb17_)
                    clear Q_HO156
                    clear hall hb2_ hb3_ hb4_ hb5_ hb6_ hb7_ hb8_ hb9_ hb10_ hb11_ hb12_ hb13_ hb14_ hb15_ hb16_ hb17_ hb18_ hb19_ hb20_ hb21_ hb22_ hb23_ hb24_ hb25_ hb26_ hb27_ hb28_ hb29_ hb30_
                    try go_wp2
                    go_ret
                    exact ⟨by first | rfl | (simp [errW_none, errW_some] <;> rfl) | (simp [*, errW_none, errW_some] <;> rfl), by repeat (first | (with_reducible first | exact HB.out | apply below_alloc | apply pw_below_drewN | apply below_drew1) | exact HB.out)⟩
                · rw [if_neg c16] at H
                  exact absurd H (by simp)
              · rw [if_neg c15] at H
                exact absurd H (by simp)
            · rw [if_neg c13] at H
              have c13b0 : (t149 == 0) = false := beq_eq_false_iff_ne.mpr c13
              have c13b1 : (t149 != 0) = true := bne_iff_ne.mpr c13
              obtain rfl := Option.some.inj H
              try go_wp2_with (first | ((with_reducible refine gate_callee (f := 12) rfl ?_); refine goesL_ (some 24) rfl rfl Try.func12 (by kernel_rfl) rfl #[.string a0] rfl (by (try simp only [List.map_toArray, List.map_cons, List.map_nil]); first | done | rfl | (simp only [List.length_drop, List.length_take]; rfl)) ?_; (with_reducible refine (crc_Seal.calls a0 t147 _ A10.out).mono ?_); rintro e w47 ⟨rfl, hb⟩; refine ⟨_, rfl, ?_⟩; have n0_ := Aside0.mk (below_step (by repeat (first | (with_reducible first | exact HB.out | apply below_alloc | apply pw_below_drewN | apply below_drew1) | exact HB.out)) hb); clear HB; have HB := n0_; clear n0_; (try clear hb); (try clear hb2); (try clear hk); (try clear hi)) | ((with_reducible refine gate_callee (f := 8) rfl ?_); refine goesL_ (some 25) rfl rfl Try.func8 (by kernel_rfl) rfl #[.string t147] rfl (by (try simp only [List.map_toArray, List.map_cons, List.map_nil]); first | done | rfl | (simp only [List.length_drop, List.length_take]; rfl)) ?_; (with_reducible refine (crc_Open.calls t147 t148 t149 _ A11.out).mono ?_); rintro e w48 ⟨rfl, hb⟩; refine ⟨_, rfl, ?_⟩; have n0_ := Aside0.mk (below_step (by repeat (first | (with_reducible first | exact HB.out | apply below_alloc | apply pw_below_drewN | apply below_drew1) | exact HB.out)) hb); clear HB; have HB := n0_; clear n0_; (try clear hb); (try clear hb2); (try clear hk); (try clear hi)))
              have n0_ := Aside0.mk (below_drew1 HB.out)
              clear HB
              have HB := n0_
              clear n0_
              refine start_ (n := 31) (S := fun w' => True) (ds := []) #[false, false, false, false, false, false, false, false, false, false, false, false, false, false, false, false, false, false, false, false, false, false, false, false, false, false, false, false, false, false, false] (by kernel_rfl) rfl rfl trivial (fun hHeld => ?_); refine with_tabW snapferrylaw02_CrcBack.tab6 snapferrylaw02_CrcBack.bits6 (fun HT_ HW_ => ?_)
              generalize w48.drew = w49 at HB hHeld ⊢
              refine pure_ (i := 0) (N := some 28) (v := ?_) (a' := ?_) #[true, false, false, false, false, false, false, false, false, false, false, false, false, false, false, false, false, false, false, false, false, false, false, false, false, false, false, false, false, false, false] rfl rfl (any_of HT_.out (by kernel_rfl)) (fun _ _ _ h => h) (Or.inl ⟨by rfl, ?_⟩) ?_ ?_
              rotate_left
              · intro w'
                go_simp
                with_reducible rfl
              rotate_left
              · simp only [Act.put, List.setIfInBounds_toArray, List.set_cons_zero, List.set_cons_succ, i64_w, i32_w]
                rfl
              refine pure_ (i := 1) (N := some 29) (v := ?_) (a' := ?_) #[true, true, false, false, false, false, false, false, false, false, false, false, false, false, false, false, false, false, false, false, false, false, false, false, false, false, false, false, false, false, false] rfl rfl (any_of HT_.out (by kernel_rfl)) (fun _ _ _ h => h) (Or.inl ⟨by rfl, ?_⟩) ?_ ?_
              rotate_left
              · intro w'
                go_simp
                with_reducible rfl
              rotate_left
              · simp only [Act.put, List.setIfInBounds_toArray, List.set_cons_zero, List.set_cons_succ, i64_w, i32_w]
                rfl
              refine pure_ (i := 2) (N := some 30) (v := ?_) (a' := ?_) #[true, true, true, false, false, false, false, false, false, false, false, false, false, false, false, false, false, false, false, false, false, false, false, false, false, false, false, false, false, false, false] rfl rfl (any_of HT_.out (by kernel_rfl)) (fun _ _ _ h => h) (Or.inl ⟨by rfl, ?_⟩) ?_ ?_
              rotate_left
              · intro w'
                go_simp
                with_reducible rfl
              rotate_left
              · simp only [Act.put, List.setIfInBounds_toArray, List.set_cons_zero, List.set_cons_succ, i64_w, i32_w]
                rfl
              refine pure_ (i := 3) (N := some 31) (v := ?_) (a' := ?_) #[true, true, true, true, false, false, false, false, false, false, false, false, false, false, false, false, false, false, false, false, false, false, false, false, false, false, false, false, false, false, false] rfl rfl (any_of HT_.out (by kernel_rfl)) (fun _ _ _ h => h) (Or.inl ⟨by rfl, ?_⟩) ?_ ?_
              rotate_left
              · intro w'
                go_simp
                with_reducible rfl
              rotate_left
              · simp only [Act.put, List.setIfInBounds_toArray, List.set_cons_zero, List.set_cons_succ, i64_w, i32_w]
                rfl
              refine pure_ (i := 4) (N := some 32) (v := ?_) (a' := ?_) #[true, true, true, true, true, false, false, false, false, false, false, false, false, false, false, false, false, false, false, false, false, false, false, false, false, false, false, false, false, false, false] rfl rfl (any_of HT_.out (by kernel_rfl)) (fun _ _ _ h => h) (Or.inl ⟨by rfl, ?_⟩) ?_ ?_
              rotate_left
              · intro w'
                go_simp
                with_reducible rfl
              rotate_left
              · simp only [Act.put, List.setIfInBounds_toArray, List.set_cons_zero, List.set_cons_succ, i64_w, i32_w]
                rfl
              refine pure_ (i := 5) (N := some 33) (v := ?_) (a' := ?_) #[true, true, true, true, true, true, false, false, false, false, false, false, false, false, false, false, false, false, false, false, false, false, false, false, false, false, false, false, false, false, false] rfl rfl (any_of HT_.out (by kernel_rfl)) (fun _ _ _ h => h) (Or.inl ⟨by rfl, ?_⟩) ?_ ?_
              rotate_left
              · intro w'
                go_simp
                with_reducible rfl
              rotate_left
              · simp only [Act.put, List.setIfInBounds_toArray, List.set_cons_zero, List.set_cons_succ, i64_w, i32_w]
                rfl
              refine pure_ (i := 6) (N := some 34) (v := ?_) (a' := ?_) #[true, true, true, true, true, true, true, false, false, false, false, false, false, false, false, false, false, false, false, false, false, false, false, false, false, false, false, false, false, false, false] rfl rfl (any_of HT_.out (by kernel_rfl)) (fun _ _ _ h => h) (Or.inl ⟨by rfl, ?_⟩) ?_ ?_
              rotate_left
              · intro w'
                go_simp
                with_reducible rfl
              rotate_left
              · simp only [Act.put, List.setIfInBounds_toArray, List.set_cons_zero, List.set_cons_succ, i64_w, i32_w]
                rfl
              refine pure_ (i := 7) (N := some 35) (v := ?_) (a' := ?_) #[true, true, true, true, true, true, true, true, false, false, false, false, false, false, false, false, false, false, false, false, false, false, false, false, false, false, false, false, false, false, false] rfl rfl (any_of HT_.out (by kernel_rfl)) (fun _ _ _ h => h) (Or.inl ⟨by rfl, ?_⟩) ?_ ?_
              rotate_left
              · intro w'
                go_simp
                with_reducible rfl
              rotate_left
              · simp only [Act.put, List.setIfInBounds_toArray, List.set_cons_zero, List.set_cons_succ, i64_w, i32_w]
                rfl
              refine pure_ (i := 8) (N := some 36) (v := undef) (a' := ?_) #[true, true, true, true, true, true, true, true, true, false, false, false, false, false, false, false, false, false, false, false, false, false, false, false, false, false, false, false, false, false, false] rfl rfl (any_of HT_.out (by kernel_rfl)) (fun _ _ _ h => h) (Or.inr ⟨by rfl, rfl⟩) ?_ ?_
              rotate_left
              · simp only [Act.put, List.setIfInBounds_toArray, List.set_cons_zero, List.set_cons_succ, i64_w, i32_w]
                rfl
              refine pure_ (i := 9) (N := some 37) (v := undef) (a' := ?_) #[true, true, true, true, true, true, true, true, true, true, false, false, false, false, false, false, false, false, false, false, false, false, false, false, false, false, false, false, false, false, false] rfl rfl (any_of HT_.out (by kernel_rfl)) (fun _ _ _ h => h) (Or.inr ⟨by rfl, rfl⟩) ?_ ?_
              rotate_left
              · simp only [Act.put, List.setIfInBounds_toArray, List.set_cons_zero, List.set_cons_succ, i64_w, i32_w]
                rfl
              refine pure_ (i := 10) (N := some 38) (v := undef) (a' := ?_) #[true, true, true, true, true, true, true, true, true, true, true, false, false, false, false, false, false, false, false, false, false, false, false, false, false, false, false, false, false, false, false] rfl rfl (any_of HT_.out (by kernel_rfl)) (fun _ _ _ h => h) (Or.inr ⟨by rfl, rfl⟩) ?_ ?_
              rotate_left
              · simp only [Act.put, List.setIfInBounds_toArray, List.set_cons_zero, List.set_cons_succ, i64_w, i32_w]
                rfl
              refine pure_ (i := 11) (N := some 39) (v := undef) (a' := ?_) #[true, true, true, true, true, true, true, true, true, true, true, true, false, false, false, false, false, false, false, false, false, false, false, false, false, false, false, false, false, false, false] rfl rfl (any_of HT_.out (by kernel_rfl)) (fun _ _ _ h => h) (Or.inr ⟨by rfl, rfl⟩) ?_ ?_
              rotate_left
              · simp only [Act.put, List.setIfInBounds_toArray, List.set_cons_zero, List.set_cons_succ, i64_w, i32_w]
                rfl
              refine pure_ (i := 12) (N := some 40) (v := undef) (a' := ?_) #[true, true, true, true, true, true, true, true, true, true, true, true, true, false, false, false, false, false, false, false, false, false, false, false, false, false, false, false, false, false, false] rfl rfl (any_of HT_.out (by kernel_rfl)) (fun _ _ _ h => h) (Or.inr ⟨by rfl, rfl⟩) ?_ ?_
              rotate_left
              · simp only [Act.put, List.setIfInBounds_toArray, List.set_cons_zero, List.set_cons_succ, i64_w, i32_w]
                rfl
              refine pure_ (i := 13) (N := some 41) (v := undef) (a' := ?_) #[true, true, true, true, true, true, true, true, true, true, true, true, true, true, false, false, false, false, false, false, false, false, false, false, false, false, false, false, false, false, false] rfl rfl (any_of HT_.out (by kernel_rfl)) (fun _ _ _ h => h) (Or.inr ⟨by rfl, rfl⟩) ?_ ?_
              rotate_left
              · simp only [Act.put, List.setIfInBounds_toArray, List.set_cons_zero, List.set_cons_succ, i64_w, i32_w]
                rfl
              refine pure_ (i := 14) (N := some 42) (v := undef) (a' := ?_) #[true, true, true, true, true, true, true, true, true, true, true, true, true, true, true, false, false, false, false, false, false, false, false, false, false, false, false, false, false, false, false] rfl rfl (any_of HT_.out (by kernel_rfl)) (fun _ _ _ h => h) (Or.inr ⟨by rfl, rfl⟩) ?_ ?_
              rotate_left
              · simp only [Act.put, List.setIfInBounds_toArray, List.set_cons_zero, List.set_cons_succ, i64_w, i32_w]
                rfl
              refine pure_ (i := 15) (N := some 43) (v := undef) (a' := ?_) #[true, true, true, true, true, true, true, true, true, true, true, true, true, true, true, true, false, false, false, false, false, false, false, false, false, false, false, false, false, false, false] rfl rfl (any_of HT_.out (by kernel_rfl)) (fun _ _ _ h => h) (Or.inr ⟨by rfl, rfl⟩) ?_ ?_
              rotate_left
              · simp only [Act.put, List.setIfInBounds_toArray, List.set_cons_zero, List.set_cons_succ, i64_w, i32_w]
                rfl
              refine pure_ (i := 16) (N := some 44) (v := undef) (a' := ?_) #[true, true, true, true, true, true, true, true, true, true, true, true, true, true, true, true, true, false, false, false, false, false, false, false, false, false, false, false, false, false, false] rfl rfl (any_of HT_.out (by kernel_rfl)) (fun _ _ _ h => h) (Or.inr ⟨by rfl, rfl⟩) ?_ ?_
              rotate_left
              · simp only [Act.put, List.setIfInBounds_toArray, List.set_cons_zero, List.set_cons_succ, i64_w, i32_w]
                rfl
              refine pure_ (i := 17) (N := some 45) (v := undef) (a' := ?_) #[true, true, true, true, true, true, true, true, true, true, true, true, true, true, true, true, true, true, false, false, false, false, false, false, false, false, false, false, false, false, false] rfl rfl (any_of HT_.out (by kernel_rfl)) (fun _ _ _ h => h) (Or.inr ⟨by rfl, rfl⟩) ?_ ?_
              rotate_left
              · simp only [Act.put, List.setIfInBounds_toArray, List.set_cons_zero, List.set_cons_succ, i64_w, i32_w]
                rfl
              refine pure_ (i := 18) (N := some 46) (v := undef) (a' := ?_) #[true, true, true, true, true, true, true, true, true, true, true, true, true, true, true, true, true, true, true, false, false, false, false, false, false, false, false, false, false, false, false] rfl rfl (any_of HT_.out (by kernel_rfl)) (fun _ _ _ h => h) (Or.inr ⟨by rfl, rfl⟩) ?_ ?_
              rotate_left
              · simp only [Act.put, List.setIfInBounds_toArray, List.set_cons_zero, List.set_cons_succ, i64_w, i32_w]
                rfl
              refine pure_ (i := 19) (N := some 47) (v := undef) (a' := ?_) #[true, true, true, true, true, true, true, true, true, true, true, true, true, true, true, true, true, true, true, true, false, false, false, false, false, false, false, false, false, false, false] rfl rfl (any_of HT_.out (by kernel_rfl)) (fun _ _ _ h => h) (Or.inr ⟨by rfl, rfl⟩) ?_ ?_
              rotate_left
              · simp only [Act.put, List.setIfInBounds_toArray, List.set_cons_zero, List.set_cons_succ, i64_w, i32_w]
                rfl
              refine pure_ (i := 20) (N := some 48) (v := ?_) (a' := ?_) #[true, true, true, true, true, true, true, true, true, true, true, true, true, true, true, true, true, true, true, true, true, false, false, false, false, false, false, false, false, false, false] rfl rfl (any_of HT_.out (by kernel_rfl)) (fun _ _ _ h => h) (Or.inl ⟨by rfl, ?_⟩) ?_ ?_
              rotate_left
              · intro w'
                go_simp
                with_reducible rfl
              rotate_left
              · simp only [Act.put, List.setIfInBounds_toArray, List.set_cons_zero, List.set_cons_succ, i64_w, i32_w]
                rfl
              refine pure_ (i := 21) (N := some 49) (v := ?_) (a' := ?_) #[true, true, true, true, true, true, true, true, true, true, true, true, true, true, true, true, true, true, true, true, true, true, false, false, false, false, false, false, false, false, false] rfl rfl (any_of HT_.out (by kernel_rfl)) (fun _ _ _ h => h) (Or.inl ⟨by rfl, ?_⟩) ?_ ?_
              rotate_left
              · intro w'
                go_simp
                with_reducible rfl
              rotate_left
              · simp only [Act.put, List.setIfInBounds_toArray, List.set_cons_zero, List.set_cons_succ, i64_w, i32_w]
                rfl
              refine pure_ (i := 22) (N := some 50) (v := undef) (a' := ?_) #[true, true, true, true, true, true, true, true, true, true, true, true, true, true, true, true, true, true, true, true, true, true, true, false, false, false, false, false, false, false, false] rfl rfl (any_of HT_.out (by kernel_rfl)) (fun _ _ _ h => h) (Or.inr ⟨by rfl, rfl⟩) ?_ ?_
              rotate_left
              · simp only [Act.put, List.setIfInBounds_toArray, List.set_cons_zero, List.set_cons_succ, i64_w, i32_w]
                rfl
              refine pure_ (i := 23) (N := some 51) (v := undef) (a' := ?_) #[true, true, true, true, true, true, true, true, true, true, true, true, true, true, true, true, true, true, true, true, true, true, true, true, false, false, false, false, false, false, false] rfl rfl (any_of HT_.out (by kernel_rfl)) (fun _ _ _ h => h) (Or.inr ⟨by rfl, rfl⟩) ?_ ?_
              rotate_left
              · simp only [Act.put, List.setIfInBounds_toArray, List.set_cons_zero, List.set_cons_succ, i64_w, i32_w]
                rfl
              refine pure_ (i := 24) (N := some 52) (v := undef) (a' := ?_) #[true, true, true, true, true, true, true, true, true, true, true, true, true, true, true, true, true, true, true, true, true, true, true, true, true, false, false, false, false, false, false] rfl rfl (any_of HT_.out (by kernel_rfl)) (fun _ _ _ h => h) (Or.inr ⟨by rfl, rfl⟩) ?_ ?_
              rotate_left
              · simp only [Act.put, List.setIfInBounds_toArray, List.set_cons_zero, List.set_cons_succ, i64_w, i32_w]
                rfl
              refine pure_ (i := 25) (N := some 53) (v := undef) (a' := ?_) #[true, true, true, true, true, true, true, true, true, true, true, true, true, true, true, true, true, true, true, true, true, true, true, true, true, true, false, false, false, false, false] rfl rfl (any_of HT_.out (by kernel_rfl)) (fun _ _ _ h => h) (Or.inr ⟨by rfl, rfl⟩) ?_ ?_
              rotate_left
              · simp only [Act.put, List.setIfInBounds_toArray, List.set_cons_zero, List.set_cons_succ, i64_w, i32_w]
                rfl
              refine pure_ (i := 26) (N := some 54) (v := undef) (a' := ?_) #[true, true, true, true, true, true, true, true, true, true, true, true, true, true, true, true, true, true, true, true, true, true, true, true, true, true, true, false, false, false, false] rfl rfl (any_of HT_.out (by kernel_rfl)) (fun _ _ _ h => h) (Or.inr ⟨by rfl, rfl⟩) ?_ ?_
              rotate_left
              · simp only [Act.put, List.setIfInBounds_toArray, List.set_cons_zero, List.set_cons_succ, i64_w, i32_w]
                rfl
              refine pure_ (i := 27) (N := some 55) (v := undef) (a' := ?_) #[true, true, true, true, true, true, true, true, true, true, true, true, true, true, true, true, true, true, true, true, true, true, true, true, true, true, true, true, false, false, false] rfl rfl (any_of HT_.out (by kernel_rfl)) (fun _ _ _ h => h) (Or.inr ⟨by rfl, rfl⟩) ?_ ?_
              rotate_left
              · simp only [Act.put, List.setIfInBounds_toArray, List.set_cons_zero, List.set_cons_succ, i64_w, i32_w]
                rfl
              refine pure_ (i := 28) (N := some 56) (v := undef) (a' := ?_) #[true, true, true, true, true, true, true, true, true, true, true, true, true, true, true, true, true, true, true, true, true, true, true, true, true, true, true, true, true, false, false] rfl rfl (any_of HT_.out (by kernel_rfl)) (fun _ _ _ h => h) (Or.inr ⟨by rfl, rfl⟩) ?_ ?_
              rotate_left
              · simp only [Act.put, List.setIfInBounds_toArray, List.set_cons_zero, List.set_cons_succ, i64_w, i32_w]
                rfl
              refine pure_ (i := 29) (N := some 57) (v := ?_) (a' := ?_) #[true, true, true, true, true, true, true, true, true, true, true, true, true, true, true, true, true, true, true, true, true, true, true, true, true, true, true, true, true, true, false] rfl rfl (any_of HT_.out (by kernel_rfl)) (fun _ _ _ h => h) (Or.inl ⟨by rfl, ?_⟩) ?_ ?_
              rotate_left
              · intro w'
                go_simp
                with_reducible rfl
              rotate_left
              · simp only [Act.put, List.setIfInBounds_toArray, List.set_cons_zero, List.set_cons_succ, i64_w, i32_w]
                rfl
              refine pure_ (i := 30) (N := some 4) (v := ?_) (a' := ?_) #[true, true, true, true, true, true, true, true, true, true, true, true, true, true, true, true, true, true, true, true, true, true, true, true, true, true, true, true, true, true, true] rfl rfl (any_of HT_.out (by kernel_rfl)) (fun _ _ _ h => h) (Or.inl ⟨by rfl, ?_⟩) ?_ ?_
              rotate_left
              · intro w'
                go_simp
                with_reducible rfl
              rotate_left
              · simp only [Act.put, List.setIfInBounds_toArray, List.set_cons_zero, List.set_cons_succ, i64_w, i32_w]
                rfl
              refine done_ (done_of HT_.out (by kernel_rfl)) ?_
              try go_wp2
              go_ret
              exact ⟨by first | rfl | (simp [errW_none, errW_some] <;> rfl) | (simp [*, errW_none, errW_some] <;> rfl), by repeat (first | (with_reducible first | exact HB.out | apply below_alloc | apply pw_below_drewN | apply below_drew1) | exact HB.out)⟩
          · rw [if_neg c12] at H
            have c12b0 : (t148.toList == a0.toList) = false := beq_eq_false_iff_ne.mpr c12
            have c12b1 : (t148.toList != a0.toList) = true := bne_iff_ne.mpr c12
            obtain rfl := Option.some.inj H
            try go_wp2_with (first | ((with_reducible refine gate_callee (f := 12) rfl ?_); refine goesL_ (some 24) rfl rfl Try.func12 (by kernel_rfl) rfl #[.string a0] rfl (by (try simp only [List.map_toArray, List.map_cons, List.map_nil]); first | done | rfl | (simp only [List.length_drop, List.length_take]; rfl)) ?_; (with_reducible refine (crc_Seal.calls a0 t147 _ A10.out).mono ?_); rintro e w50 ⟨rfl, hb⟩; refine ⟨_, rfl, ?_⟩; have n0_ := Aside0.mk (below_step (by repeat (first | (with_reducible first | exact HB.out | apply below_alloc | apply pw_below_drewN | apply below_drew1) | exact HB.out)) hb); clear HB; have HB := n0_; clear n0_; (try clear hb); (try clear hb2); (try clear hk); (try clear hi)) | ((with_reducible refine gate_callee (f := 8) rfl ?_); refine goesL_ (some 25) rfl rfl Try.func8 (by kernel_rfl) rfl #[.string t147] rfl (by (try simp only [List.map_toArray, List.map_cons, List.map_nil]); first | done | rfl | (simp only [List.length_drop, List.length_take]; rfl)) ?_; (with_reducible refine (crc_Open.calls t147 t148 t149 _ A11.out).mono ?_); rintro e w51 ⟨rfl, hb⟩; refine ⟨_, rfl, ?_⟩; have n0_ := Aside0.mk (below_step (by repeat (first | (with_reducible first | exact HB.out | apply below_alloc | apply pw_below_drewN | apply below_drew1) | exact HB.out)) hb); clear HB; have HB := n0_; clear n0_; (try clear hb); (try clear hb2); (try clear hk); (try clear hi)))
            have n0_ := Aside0.mk (below_drew1 HB.out)
            clear HB
            have HB := n0_
            clear n0_
            refine start_ (n := 31) (S := fun w' => True) (ds := []) #[false, false, false, false, false, false, false, false, false, false, false, false, false, false, false, false, false, false, false, false, false, false, false, false, false, false, false, false, false, false, false] (by kernel_rfl) rfl rfl trivial (fun hHeld => ?_); refine with_tabW snapferrylaw02_CrcBack.tab6 snapferrylaw02_CrcBack.bits6 (fun HT_ HW_ => ?_)
            generalize w51.drew = w52 at HB hHeld ⊢
            refine pure_ (i := 0) (N := some 28) (v := ?_) (a' := ?_) #[true, false, false, false, false, false, false, false, false, false, false, false, false, false, false, false, false, false, false, false, false, false, false, false, false, false, false, false, false, false, false] rfl rfl (any_of HT_.out (by kernel_rfl)) (fun _ _ _ h => h) (Or.inl ⟨by rfl, ?_⟩) ?_ ?_
            rotate_left
            · intro w'
              go_simp
              with_reducible rfl
            rotate_left
            · simp only [Act.put, List.setIfInBounds_toArray, List.set_cons_zero, List.set_cons_succ, i64_w, i32_w]
              rfl
            refine pure_ (i := 1) (N := some 29) (v := ?_) (a' := ?_) #[true, true, false, false, false, false, false, false, false, false, false, false, false, false, false, false, false, false, false, false, false, false, false, false, false, false, false, false, false, false, false] rfl rfl (any_of HT_.out (by kernel_rfl)) (fun _ _ _ h => h) (Or.inl ⟨by rfl, ?_⟩) ?_ ?_
            rotate_left
            · intro w'
              go_simp
              with_reducible rfl
            rotate_left
            · simp only [Act.put, List.setIfInBounds_toArray, List.set_cons_zero, List.set_cons_succ, i64_w, i32_w]
              rfl
            refine pure_ (i := 2) (N := some 30) (v := ?_) (a' := ?_) #[true, true, true, false, false, false, false, false, false, false, false, false, false, false, false, false, false, false, false, false, false, false, false, false, false, false, false, false, false, false, false] rfl rfl (any_of HT_.out (by kernel_rfl)) (fun _ _ _ h => h) (Or.inl ⟨by rfl, ?_⟩) ?_ ?_
            rotate_left
            · intro w'
              go_simp
              with_reducible rfl
            rotate_left
            · simp only [Act.put, List.setIfInBounds_toArray, List.set_cons_zero, List.set_cons_succ, i64_w, i32_w]
              rfl
            refine pure_ (i := 3) (N := some 31) (v := ?_) (a' := ?_) #[true, true, true, true, false, false, false, false, false, false, false, false, false, false, false, false, false, false, false, false, false, false, false, false, false, false, false, false, false, false, false] rfl rfl (any_of HT_.out (by kernel_rfl)) (fun _ _ _ h => h) (Or.inl ⟨by rfl, ?_⟩) ?_ ?_
            rotate_left
            · intro w'
              go_simp
              with_reducible rfl
            rotate_left
            · simp only [Act.put, List.setIfInBounds_toArray, List.set_cons_zero, List.set_cons_succ, i64_w, i32_w]
              rfl
            refine pure_ (i := 4) (N := some 32) (v := undef) (a' := ?_) #[true, true, true, true, true, false, false, false, false, false, false, false, false, false, false, false, false, false, false, false, false, false, false, false, false, false, false, false, false, false, false] rfl rfl (any_of HT_.out (by kernel_rfl)) (fun _ _ _ h => h) (Or.inr ⟨by rfl, rfl⟩) ?_ ?_
            rotate_left
            · simp only [Act.put, List.setIfInBounds_toArray, List.set_cons_zero, List.set_cons_succ, i64_w, i32_w]
              rfl
            refine pure_ (i := 5) (N := some 33) (v := undef) (a' := ?_) #[true, true, true, true, true, true, false, false, false, false, false, false, false, false, false, false, false, false, false, false, false, false, false, false, false, false, false, false, false, false, false] rfl rfl (any_of HT_.out (by kernel_rfl)) (fun _ _ _ h => h) (Or.inr ⟨by rfl, rfl⟩) ?_ ?_
            rotate_left
            · simp only [Act.put, List.setIfInBounds_toArray, List.set_cons_zero, List.set_cons_succ, i64_w, i32_w]
              rfl
            refine pure_ (i := 6) (N := some 34) (v := ?_) (a' := ?_) #[true, true, true, true, true, true, true, false, false, false, false, false, false, false, false, false, false, false, false, false, false, false, false, false, false, false, false, false, false, false, false] rfl rfl (any_of HT_.out (by kernel_rfl)) (fun _ _ _ h => h) (Or.inl ⟨by rfl, ?_⟩) ?_ ?_
            rotate_left
            · intro w'
              go_simp
              with_reducible rfl
            rotate_left
            · simp only [Act.put, List.setIfInBounds_toArray, List.set_cons_zero, List.set_cons_succ, i64_w, i32_w]
              rfl
            refine pure_ (i := 7) (N := some 35) (v := ?_) (a' := ?_) #[true, true, true, true, true, true, true, true, false, false, false, false, false, false, false, false, false, false, false, false, false, false, false, false, false, false, false, false, false, false, false] rfl rfl (any_of HT_.out (by kernel_rfl)) (fun _ _ _ h => h) (Or.inl ⟨by rfl, ?_⟩) ?_ ?_
            rotate_left
            · intro w'
              go_simp
              with_reducible rfl
            rotate_left
            · simp only [Act.put, List.setIfInBounds_toArray, List.set_cons_zero, List.set_cons_succ, i64_w, i32_w]
              rfl
            refine pure_ (i := 8) (N := some 36) (v := undef) (a' := ?_) #[true, true, true, true, true, true, true, true, true, false, false, false, false, false, false, false, false, false, false, false, false, false, false, false, false, false, false, false, false, false, false] rfl rfl (any_of HT_.out (by kernel_rfl)) (fun _ _ _ h => h) (Or.inr ⟨by rfl, rfl⟩) ?_ ?_
            rotate_left
            · simp only [Act.put, List.setIfInBounds_toArray, List.set_cons_zero, List.set_cons_succ, i64_w, i32_w]
              rfl
            refine pure_ (i := 9) (N := some 37) (v := undef) (a' := ?_) #[true, true, true, true, true, true, true, true, true, true, false, false, false, false, false, false, false, false, false, false, false, false, false, false, false, false, false, false, false, false, false] rfl rfl (any_of HT_.out (by kernel_rfl)) (fun _ _ _ h => h) (Or.inr ⟨by rfl, rfl⟩) ?_ ?_
            rotate_left
            · simp only [Act.put, List.setIfInBounds_toArray, List.set_cons_zero, List.set_cons_succ, i64_w, i32_w]
              rfl
            refine pure_ (i := 10) (N := some 38) (v := undef) (a' := ?_) #[true, true, true, true, true, true, true, true, true, true, true, false, false, false, false, false, false, false, false, false, false, false, false, false, false, false, false, false, false, false, false] rfl rfl (any_of HT_.out (by kernel_rfl)) (fun _ _ _ h => h) (Or.inr ⟨by rfl, rfl⟩) ?_ ?_
            rotate_left
            · simp only [Act.put, List.setIfInBounds_toArray, List.set_cons_zero, List.set_cons_succ, i64_w, i32_w]
              rfl
            refine pure_ (i := 11) (N := some 39) (v := undef) (a' := ?_) #[true, true, true, true, true, true, true, true, true, true, true, true, false, false, false, false, false, false, false, false, false, false, false, false, false, false, false, false, false, false, false] rfl rfl (any_of HT_.out (by kernel_rfl)) (fun _ _ _ h => h) (Or.inr ⟨by rfl, rfl⟩) ?_ ?_
            rotate_left
            · simp only [Act.put, List.setIfInBounds_toArray, List.set_cons_zero, List.set_cons_succ, i64_w, i32_w]
              rfl
            refine pure_ (i := 12) (N := some 40) (v := undef) (a' := ?_) #[true, true, true, true, true, true, true, true, true, true, true, true, true, false, false, false, false, false, false, false, false, false, false, false, false, false, false, false, false, false, false] rfl rfl (any_of HT_.out (by kernel_rfl)) (fun _ _ _ h => h) (Or.inr ⟨by rfl, rfl⟩) ?_ ?_
            rotate_left
            · simp only [Act.put, List.setIfInBounds_toArray, List.set_cons_zero, List.set_cons_succ, i64_w, i32_w]
              rfl
            refine pure_ (i := 13) (N := some 41) (v := undef) (a' := ?_) #[true, true, true, true, true, true, true, true, true, true, true, true, true, true, false, false, false, false, false, false, false, false, false, false, false, false, false, false, false, false, false] rfl rfl (any_of HT_.out (by kernel_rfl)) (fun _ _ _ h => h) (Or.inr ⟨by rfl, rfl⟩) ?_ ?_
            rotate_left
            · simp only [Act.put, List.setIfInBounds_toArray, List.set_cons_zero, List.set_cons_succ, i64_w, i32_w]
              rfl
            refine pure_ (i := 14) (N := some 42) (v := undef) (a' := ?_) #[true, true, true, true, true, true, true, true, true, true, true, true, true, true, true, false, false, false, false, false, false, false, false, false, false, false, false, false, false, false, false] rfl rfl (any_of HT_.out (by kernel_rfl)) (fun _ _ _ h => h) (Or.inr ⟨by rfl, rfl⟩) ?_ ?_
            rotate_left
            · simp only [Act.put, List.setIfInBounds_toArray, List.set_cons_zero, List.set_cons_succ, i64_w, i32_w]
              rfl
            refine pure_ (i := 15) (N := some 43) (v := undef) (a' := ?_) #[true, true, true, true, true, true, true, true, true, true, true, true, true, true, true, true, false, false, false, false, false, false, false, false, false, false, false, false, false, false, false] rfl rfl (any_of HT_.out (by kernel_rfl)) (fun _ _ _ h => h) (Or.inr ⟨by rfl, rfl⟩) ?_ ?_
            rotate_left
            · simp only [Act.put, List.setIfInBounds_toArray, List.set_cons_zero, List.set_cons_succ, i64_w, i32_w]
              rfl
            refine pure_ (i := 16) (N := some 44) (v := undef) (a' := ?_) #[true, true, true, true, true, true, true, true, true, true, true, true, true, true, true, true, true, false, false, false, false, false, false, false, false, false, false, false, false, false, false] rfl rfl (any_of HT_.out (by kernel_rfl)) (fun _ _ _ h => h) (Or.inr ⟨by rfl, rfl⟩) ?_ ?_
            rotate_left
            · simp only [Act.put, List.setIfInBounds_toArray, List.set_cons_zero, List.set_cons_succ, i64_w, i32_w]
              rfl
            refine pure_ (i := 17) (N := some 45) (v := undef) (a' := ?_) #[true, true, true, true, true, true, true, true, true, true, true, true, true, true, true, true, true, true, false, false, false, false, false, false, false, false, false, false, false, false, false] rfl rfl (any_of HT_.out (by kernel_rfl)) (fun _ _ _ h => h) (Or.inr ⟨by rfl, rfl⟩) ?_ ?_
            rotate_left
            · simp only [Act.put, List.setIfInBounds_toArray, List.set_cons_zero, List.set_cons_succ, i64_w, i32_w]
              rfl
            refine pure_ (i := 18) (N := some 46) (v := undef) (a' := ?_) #[true, true, true, true, true, true, true, true, true, true, true, true, true, true, true, true, true, true, true, false, false, false, false, false, false, false, false, false, false, false, false] rfl rfl (any_of HT_.out (by kernel_rfl)) (fun _ _ _ h => h) (Or.inr ⟨by rfl, rfl⟩) ?_ ?_
            rotate_left
            · simp only [Act.put, List.setIfInBounds_toArray, List.set_cons_zero, List.set_cons_succ, i64_w, i32_w]
              rfl
            refine pure_ (i := 19) (N := some 47) (v := undef) (a' := ?_) #[true, true, true, true, true, true, true, true, true, true, true, true, true, true, true, true, true, true, true, true, false, false, false, false, false, false, false, false, false, false, false] rfl rfl (any_of HT_.out (by kernel_rfl)) (fun _ _ _ h => h) (Or.inr ⟨by rfl, rfl⟩) ?_ ?_
            rotate_left
            · simp only [Act.put, List.setIfInBounds_toArray, List.set_cons_zero, List.set_cons_succ, i64_w, i32_w]
              rfl
            refine pure_ (i := 20) (N := some 48) (v := ?_) (a' := ?_) #[true, true, true, true, true, true, true, true, true, true, true, true, true, true, true, true, true, true, true, true, true, false, false, false, false, false, false, false, false, false, false] rfl rfl (any_of HT_.out (by kernel_rfl)) (fun _ _ _ h => h) (Or.inl ⟨by rfl, ?_⟩) ?_ ?_
            rotate_left
            · intro w'
              go_simp
              with_reducible rfl
            rotate_left
            · simp only [Act.put, List.setIfInBounds_toArray, List.set_cons_zero, List.set_cons_succ, i64_w, i32_w]
              rfl
            refine pure_ (i := 21) (N := some 49) (v := ?_) (a' := ?_) #[true, true, true, true, true, true, true, true, true, true, true, true, true, true, true, true, true, true, true, true, true, true, false, false, false, false, false, false, false, false, false] rfl rfl (any_of HT_.out (by kernel_rfl)) (fun _ _ _ h => h) (Or.inl ⟨by rfl, ?_⟩) ?_ ?_
            rotate_left
            · intro w'
              go_simp
              with_reducible rfl
            rotate_left
            · simp only [Act.put, List.setIfInBounds_toArray, List.set_cons_zero, List.set_cons_succ, i64_w, i32_w]
              rfl
            refine pure_ (i := 22) (N := some 50) (v := undef) (a' := ?_) #[true, true, true, true, true, true, true, true, true, true, true, true, true, true, true, true, true, true, true, true, true, true, true, false, false, false, false, false, false, false, false] rfl rfl (any_of HT_.out (by kernel_rfl)) (fun _ _ _ h => h) (Or.inr ⟨by rfl, rfl⟩) ?_ ?_
            rotate_left
            · simp only [Act.put, List.setIfInBounds_toArray, List.set_cons_zero, List.set_cons_succ, i64_w, i32_w]
              rfl
            refine pure_ (i := 23) (N := some 51) (v := undef) (a' := ?_) #[true, true, true, true, true, true, true, true, true, true, true, true, true, true, true, true, true, true, true, true, true, true, true, true, false, false, false, false, false, false, false] rfl rfl (any_of HT_.out (by kernel_rfl)) (fun _ _ _ h => h) (Or.inr ⟨by rfl, rfl⟩) ?_ ?_
            rotate_left
            · simp only [Act.put, List.setIfInBounds_toArray, List.set_cons_zero, List.set_cons_succ, i64_w, i32_w]
              rfl
            refine pure_ (i := 24) (N := some 52) (v := undef) (a' := ?_) #[true, true, true, true, true, true, true, true, true, true, true, true, true, true, true, true, true, true, true, true, true, true, true, true, true, false, false, false, false, false, false] rfl rfl (any_of HT_.out (by kernel_rfl)) (fun _ _ _ h => h) (Or.inr ⟨by rfl, rfl⟩) ?_ ?_
            rotate_left
            · simp only [Act.put, List.setIfInBounds_toArray, List.set_cons_zero, List.set_cons_succ, i64_w, i32_w]
              rfl
            refine pure_ (i := 25) (N := some 53) (v := undef) (a' := ?_) #[true, true, true, true, true, true, true, true, true, true, true, true, true, true, true, true, true, true, true, true, true, true, true, true, true, true, false, false, false, false, false] rfl rfl (any_of HT_.out (by kernel_rfl)) (fun _ _ _ h => h) (Or.inr ⟨by rfl, rfl⟩) ?_ ?_
            rotate_left
            · simp only [Act.put, List.setIfInBounds_toArray, List.set_cons_zero, List.set_cons_succ, i64_w, i32_w]
              rfl
            refine pure_ (i := 26) (N := some 54) (v := undef) (a' := ?_) #[true, true, true, true, true, true, true, true, true, true, true, true, true, true, true, true, true, true, true, true, true, true, true, true, true, true, true, false, false, false, false] rfl rfl (any_of HT_.out (by kernel_rfl)) (fun _ _ _ h => h) (Or.inr ⟨by rfl, rfl⟩) ?_ ?_
            rotate_left
            · simp only [Act.put, List.setIfInBounds_toArray, List.set_cons_zero, List.set_cons_succ, i64_w, i32_w]
              rfl
            refine pure_ (i := 27) (N := some 55) (v := undef) (a' := ?_) #[true, true, true, true, true, true, true, true, true, true, true, true, true, true, true, true, true, true, true, true, true, true, true, true, true, true, true, true, false, false, false] rfl rfl (any_of HT_.out (by kernel_rfl)) (fun _ _ _ h => h) (Or.inr ⟨by rfl, rfl⟩) ?_ ?_
            rotate_left
            · simp only [Act.put, List.setIfInBounds_toArray, List.set_cons_zero, List.set_cons_succ, i64_w, i32_w]
              rfl
            refine pure_ (i := 28) (N := some 56) (v := undef) (a' := ?_) #[true, true, true, true, true, true, true, true, true, true, true, true, true, true, true, true, true, true, true, true, true, true, true, true, true, true, true, true, true, false, false] rfl rfl (any_of HT_.out (by kernel_rfl)) (fun _ _ _ h => h) (Or.inr ⟨by rfl, rfl⟩) ?_ ?_
            rotate_left
            · simp only [Act.put, List.setIfInBounds_toArray, List.set_cons_zero, List.set_cons_succ, i64_w, i32_w]
              rfl
            refine pure_ (i := 29) (N := some 57) (v := ?_) (a' := ?_) #[true, true, true, true, true, true, true, true, true, true, true, true, true, true, true, true, true, true, true, true, true, true, true, true, true, true, true, true, true, true, false] rfl rfl (any_of HT_.out (by kernel_rfl)) (fun _ _ _ h => h) (Or.inl ⟨by rfl, ?_⟩) ?_ ?_
            rotate_left
            · intro w'
              go_simp
              with_reducible rfl
            rotate_left
            · simp only [Act.put, List.setIfInBounds_toArray, List.set_cons_zero, List.set_cons_succ, i64_w, i32_w]
              rfl
            refine pure_ (i := 30) (N := some 4) (v := ?_) (a' := ?_) #[true, true, true, true, true, true, true, true, true, true, true, true, true, true, true, true, true, true, true, true, true, true, true, true, true, true, true, true, true, true, true] rfl rfl (any_of HT_.out (by kernel_rfl)) (fun _ _ _ h => h) (Or.inl ⟨by rfl, ?_⟩) ?_ ?_
            rotate_left
            · intro w'
              go_simp
              with_reducible rfl
            rotate_left
            · simp only [Act.put, List.setIfInBounds_toArray, List.set_cons_zero, List.set_cons_succ, i64_w, i32_w]
              rfl
            refine done_ (done_of HT_.out (by kernel_rfl)) ?_
            try go_wp2
            go_ret
            exact ⟨by first | rfl | (simp [errW_none, errW_some] <;> rfl) | (simp [*, errW_none, errW_some] <;> rfl), by repeat (first | (with_reducible first | exact HB.out | apply below_alloc | apply pw_below_drewN | apply below_drew1) | exact HB.out)⟩
  · replace c4 := Bool.eq_false_iff.mpr c4
    subst c4
    have H1 : (some false) = some r := by rw [if_neg (show ¬ (false = true) by decide)] at H; exact H
    clear H
    have H := H1
    clear H1
    obtain rfl := Option.some.inj H
    go_enter Try.func4, Try.ntmps4
    go_wp2_with (first | ((with_reducible refine gate_callee (f := 7) rfl ?_); refine goesL_ (some 7) rfl rfl Try.func7 (by kernel_rfl) rfl #[] rfl (by (try simp only [List.map_toArray, List.map_cons, List.map_nil]); first | done | rfl | (simp only [List.length_drop, List.length_take]; rfl)) ?_; (with_reducible refine (snapferrylaw02_awake.calls  false _ A3.out).mono ?_); rintro e w53 ⟨rfl, hb⟩; refine ⟨_, rfl, ?_⟩; have n0_ := Aside0.mk (below_step (by repeat (first | (with_reducible first | exact HB.out | apply below_alloc | apply pw_below_drewN | apply below_drew1) | exact HB.out)) hb); clear HB; have HB := n0_; clear n0_; (try clear hb); (try clear hb2); (try clear hk); (try clear hi)))
    go_ret
    exact ⟨by first | rfl | (simp [errW_none, errW_some] <;> rfl) | (simp [*, errW_none, errW_some] <;> rfl), by repeat (first | (with_reducible first | exact HB.out | apply below_alloc | apply pw_below_drewN | apply below_drew1) | exact HB.out)⟩

/-- THE ONE PURE STATEMENT of snapferrylaw02_CrcBack: yours. -/
def snapferrylaw02_CrcBack.Pure : Prop := ∀ (a0 : ByteArray) (a1 : Int), a0.size ≤ 140737488351232 → (Lit.int .i64 a1).wf = true → ∃ k, snapferrylaw02_CrcBack.f k a0 a1 = some true
theorem snapferrylaw02_CrcBack.walk (P : snapferrylaw02_CrcBack.Pure) (a0 : ByteArray) (a1 : Int) (w : World) (w0 : a0.size ≤ 140737488351232) (w1 : (Lit.int .i64 a1).wf = true) :
    Calls Try.prog 4 #[.string a0, .int .i64 a1] w fun e w' => e = .returned (.bool true) ∧ Below w.heap.size w w' := by
  obtain ⟨k, h⟩ := P a0 a1 w0 w1
  refine (snapferrylaw02_CrcBack.calls k a0 a1 true w h).mono ?_
  rintro e w' ⟨rfl, hd⟩
  exact ⟨rfl, hd⟩

end Go.Proofs.Ytgjaehagmfkamaa.Q
