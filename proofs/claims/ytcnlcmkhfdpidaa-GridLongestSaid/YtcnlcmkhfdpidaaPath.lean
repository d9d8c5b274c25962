/- Path: its walk. -/
import Derived.Test.YtcnlcmkhfdpidaaTab
import Derived.Test.YtcnlcmkhfdpidaaApply
import Derived.ScopeJumps
namespace Go.Proofs.Ytcnlcmkhfdpidaa.Grid
set_option linter.unusedVariables false
set_option linter.unusedSimpArgs false
open Go.RowKit Go.Proofs.Ytcnlcmkhfdpidaa.Q Go.Proofs.YtcnlcmkhfdpidaaW.PrintWords Go.Proofs.YtcnlcmkhfdpidaaW.PrintLast Go.Proofs.YtcnlcmkhfdpidaaW.PrintMore
section
variable (a b : List ByteArray)
/-- The table's rows from k on are made; then, of row k, the places from j on. -/
def OP (k x y : Nat) : Nat := if k ≤ x then G (a.drop x) (b.drop y) else 0
def DP (k j x y : Nat) : Nat := if k < x ∨ (x = k ∧ j ≤ y) then G (a.drop x) (b.drop y) else 0
def SP (k j m x y : Nat) : Nat := if x = k ∧ y = j then m else DP a b k (j + 1) x y
variable {a b}
theorem OP_start : (fun _ _ => 0) = OP a b a.length := by
  funext x y
  unfold OP
  split
  · rw [G_out (by omega)]
  · rfl
theorem DP_start (i : Nat) : OP a b (i + 1) = DP a b i b.length := by
  funext x y
  unfold OP DP
  by_cases h : i < x
  · rw [if_pos (by omega), if_pos (.inl h)]
  · rw [if_neg (by omega)]
    split
    · rw [G_out' (by omega)]
    · rfl
theorem DP_end (i : Nat) : DP a b i 0 = OP a b i := by
  funext x y
  unfold OP DP
  by_cases h : i ≤ x
  · rw [if_pos (by omega), if_pos h]
  · rw [if_neg (by omega), if_neg h]
theorem SP_eq (i y : Nat) : SP a b i y (G (a.drop i) (b.drop y)) = DP a b i y := by
  funext p q
  unfold SP
  by_cases h : p = i ∧ q = y
  · rw [if_pos h, h.1, h.2]
    unfold DP
    rw [if_pos (by omega)]
  · rw [if_neg h]
    unfold DP
    by_cases h2 : i < p ∨ (p = i ∧ y + 1 ≤ q)
    · rw [if_pos h2, if_pos (by omega)]
    · rw [if_neg h2, if_neg (by omega)]
theorem DP_right (i y : Nat) : DP a b i (y + 1) (i + 1) y = G (a.drop (i + 1)) (b.drop y) := if_pos (by omega)
theorem DP_down (i y : Nat) : DP a b i (y + 1) i (y + 1) = G (a.drop i) (b.drop (y + 1)) := if_pos (by omega)
theorem SP_both (i y m : Nat) : SP a b i y m (i + 1) (y + 1) = G (a.drop (i + 1)) (b.drop (y + 1)) := by
  unfold SP
  rw [if_neg (by omega)]
  exact if_pos (by omega)
theorem Tab.put {w : World} {g i y : Nat} (h : Tab w g (DP a b i (y + 1))) (hi : i < 257) (hy : y < 257) (m : Nat) : Tab (w.setCell ⟨g, i * 257 + y, none⟩ (.int .i16 m)) g (SP a b i y m) := h.set hi hy m
theorem Tab.put2 {w : World} {g i y m : Nat} (h : Tab w g (SP a b i y m)) (hi : i < 257) (hy : y < 257) (m2 : Nat) : Tab (w.setCell ⟨g, i * 257 + y, none⟩ (.int .i16 m2)) g (SP a b i y m2) := by
  have h1 := h.set hi hy m2
  have e : (fun p q => if p = i ∧ q = y then m2 else SP a b i y m p q) = SP a b i y m2 := by
    funext p q
    unfold SP
    split <;> rfl
  rw [← e]
  exact h1
end
theorem scope_jumps {P : Program} {a : Act} {w : World} {Q : Exit → Act → World → Prop} {c rest : Code} (l : Nat) (J : Act → World → Prop) (μ : Act → World → Nat) (hf : findLabel c l = some (Code.skip.seq rest))
    (pass : ∀ a w, J a w → rest.wp P (Exit.jump l (fun a' w' => J a' w' ∧ μ a' w' < μ a w) Q) a w)
    (first : (∀ a w, J a w → rest.wp P (Exit.jump l J Q) a w) → c.wp P (Exit.jump l J Q) a w) : (Code.scope c).wp P Q a w :=
  wp_scope_jumps l J μ hf (first (fun a w h => wp_mono (pass a w h) (fun e a' w' hq => by
    cases e with
    | goto l' => exact ⟨hq.1, hq.2.1⟩
    | _ => exact hq))) (fun a w h => wp_seq (wp_skip (pass a w h)))
/-- At the label: where the path is, what of it is made. -/
structure At (a b : List ByteArray) (w : World) (g : Nat) (w' : World) (m x y : Nat) (v : Value) (out : List Stp) : Prop where
  tab : Tab w' g (OP a b 0)
  below : Below g w w'
  row : Kd.R kS 34 w' g (fun _ => True) v out
  path : path a b = out ++ P m (a.drop x) (b.drop y)
  fuel : (a.length - x) + (b.length - y) ≤ m
  len : out.length + m = a.length + b.length
  xle : x ≤ a.length
  yle : y ≤ b.length
def lenOf : Value → Nat
  | .slice _ n _ => n
  | _ => 0
theorem len_snoc (out : List Stp) (s : Stp) : (out ++ [s]).length = out.length + 1 := by simp
theorem OP_all (a b : List ByteArray) (x y : Nat) : OP a b 0 x y = G (a.drop x) (b.drop y) := if_pos (Nat.zero_le _)
section
variable {a b : List ByteArray} {w w' : World} {g m x y : Nat} {v : Value} {out : List Stp}
theorem At.draw (h : At a b w g w' m x y v out) (n : Nat) : At a b w g (w'.drewN n) m x y v out :=
  ⟨h.tab.below (pw_below_drewN (Below.refl _ _) n), pw_below_drewN h.below n, Kd.R_drewN h.row n, h.path, h.fuel, h.len, h.xle, h.yle⟩
theorem At.stays (h : At a b w g w' m x y v out) (hx : x < a.length) (hy : y < b.length) (e : eqB (rt a x) (rt b y) = true) : P m (a.drop x) (b.drop y) = (1, 1) :: P (m - 1) (a.drop (x + 1)) (b.drop (y + 1)) := by
  obtain ⟨k, rfl⟩ : ∃ k, m = k + 1 := ⟨m - 1, by have := h.fuel; omega⟩
  exact P_stay hx hy e
theorem At.goes (h : At a b w g w' m x y v out) (hx : x < a.length) (e : ¬ (y < b.length ∧ eqB (rt a x) (rt b y) = true)) (gg : G (a.drop x) (b.drop y) = G (a.drop (x + 1)) (b.drop y)) : P m (a.drop x) (b.drop y) = (1, 0) :: P (m - 1) (a.drop (x + 1)) (b.drop y) := by
  obtain ⟨k, rfl⟩ : ∃ k, m = k + 1 := ⟨m - 1, by have := h.fuel; omega⟩
  exact P_goes hx e gg
theorem At.comes (h : At a b w g w' m x y v out) (hy : y < b.length) (e : ¬ (x < a.length ∧ eqB (rt a x) (rt b y) = true)) (gg : ¬ (x < a.length ∧ G (a.drop x) (b.drop y) = G (a.drop (x + 1)) (b.drop y))) : P m (a.drop x) (b.drop y) = (0, 1) :: P (m - 1) (a.drop x) (b.drop (y + 1)) := by
  obtain ⟨k, rfl⟩ : ∃ k, m = k + 1 := ⟨m - 1, by have := h.fuel; omega⟩
  exact P_come hy e gg
theorem At.next (h : At a b w g w' m x y v out) {s : Stp} {W : World} {v1 : Value} (hP : P m (a.drop x) (b.drop y) = s :: P (m - 1) (a.drop (x + s.1)) (b.drop (y + s.2))) (hs : 1 ≤ s.1 + s.2) (hx : x + s.1 ≤ a.length) (hy : y + s.2 ≤ b.length)
    (ho : Kd.R kS 34 W g (fun _ => True) v1 (out ++ [s])) (hb : Below g w W) (hg : w'.grownBy W v.ownBlock) : At a b w g W (m - 1) (x + s.1) (y + s.2) v1 (out ++ [s]) := by
  have hm := h.fuel
  have hl := h.len
  refine ⟨h.tab.move (hg.block g h.tab.lt (fun e => ?_)), hb, ho, ?_, by omega, by rw [len_snoc]; omega, hx, hy⟩
  · obtain ⟨c1, h1⟩ := own_typed (Kd.R_own h.row).choose_spec g e.symm
    obtain ⟨c2, h2, _⟩ := h.tab
    rw [h1] at h2
    injection h2 with h2
    injection h2 with _ h2
    exact absurd h2 (by decide)
  · rw [h.path, hP, List.append_assoc]
    rfl
theorem At.ends (h : At a b w g w' m x y v out) (hx : a.length ≤ x) (hy : b.length ≤ y) : Grid.path a b = out := by
  rw [h.path, P_done (by omega) (by omega), List.append_nil]
end
theorem ex_frame {a' : Act} {F : (Nat → Value) → Act} (h : a' = F (fun i => a'.tmps.getD i undef)) : ∃ u, a' = F u := ⟨_, h⟩
theorem mu_less {out : List Stp} {s : Stp} {m m' L c c' : Nat} {A A' : Option Addr} (h : out.length + m = L) (h' : (out ++ [s]).length + m' = L) : L - lenOf (.slice A (out.length + 1) c) < L - lenOf (.slice A' out.length c') := by
  show L - (out.length + 1) < L - out.length
  rw [len_snoc] at h'
  omega
set_option maxRecDepth 100000 in
set_option maxHeartbeats 8000000 in
theorem Path (A0 : Option Addr) (c0 : Nat) (a : List ByteArray) (A1 : Option Addr) (c1 : Nat) (b : List ByteArray) (w : World) (ha : Kd.C Kd.string w A0 a.length a) (hb : Kd.C Kd.string w A1 b.length b) (hal : a.length < 69) (hbl : b.length < 69) :
    Calls Try.prog 10 #[.slice A0 a.length c0, .slice A1 b.length c1] w fun e w' => (∃ v, e = .returned (.tuple #[v, .int .i64 0]) ∧ Steps w w' v (path a b)) ∧ Below w.heap.size w w' := by
  have hu43 := Try.underlying43
  have hu42 := Try.underlying42
  have HA := Aside0.mk ha
  have HB := Aside0.mk hb
  have d0 : decide ((256 : Int) < (a.length : Int)) = false := decide_eq_false (by omega)
  have d1 : decide ((256 : Int) < (b.length : Int)) = false := decide_eq_false (by omega)
  have d2 : decide (256 < a.length) = false := decide_eq_false (by omega)
  have d3 : decide (256 < b.length) = false := decide_eq_false (by omega)
  have HT0 := Aside0.mk (Tab.new w)
  rw [OP_start (a := a) (b := b)] at HT0
  obtain ⟨g, hg⟩ : ∃ g, g = w.heap.size := ⟨_, rfl⟩
  have HB0 := Aside0.mk (below_alloc (Below.refl w.heap.size w) (.cells z43.cells 43))
  rw [← hg] at HT0 HB0
  have HG0 := Aside0.mk hg
  clear hg
  clear ha hb
  go_enter Try.func10, Try.ntmps10
  go_wp2_with fail
  refine scope_jumps 0 (fun a' w' => ∃ (m x y : Nat) (out : List Stp) (A9 : Option Addr) (c9 : Nat), (∃ u : Nat → Value, a' = { tmps := #[.slice A0 a.length c0, .slice A1 b.length c1, undef, undef, .slice none 0 0, .int .i64 0, .pointer (some ⟨g, 0, none⟩), u 7, u 8, .slice A9 out.length c9, .complex .f64 (fl x) (fl y), u 11, u 12, u 13, u 14, u 15, u 16, u 17, u 18, u 19, u 20, u 21, u 22, u 23, u 24, u 25, u 26, u 27, u 28, u 29, u 30, u 31, u 32, u 33, u 34, u 35, u 36, u 37, u 38, u 39, u 40, u 41, u 42, u 43, u 44, u 45, u 46, u 47, u 48, u 49, u 50, u 51, u 52, u 53, u 54, u 55, u 56, u 57, u 58, u 59, u 60, u 61, u 62, u 63, u 64, u 65, u 66, u 67, u 68, u 69, u 70, u 71, u 72, u 73, u 74, u 75, u 76, u 77, u 78, u 79, u 80, u 81, u 82, u 83, u 84, u 85, u 86, u 87, u 88, u 89, u 90, u 91, u 92, u 93, u 94, u 95, u 96, u 97, u 98, u 99, u 100, u 101, u 102, u 103, u 104, u 105, u 106, u 107, u 108, u 109, u 110, u 111, u 112, u 113, u 114, u 115, u 116, u 117, u 118, u 119, u 120, u 121, u 122, u 123, u 124, u 125, u 126, u 127, u 128, u 129, u 130, u 131, u 132, u 133, u 134, u 135, u 136, u 137, u 138, u 139], defers := [] }) ∧ Aside0 (At a b w g w' m x y (.slice A9 out.length c9) out)) (fun a' _ => a.length + b.length - lenOf (a'.tmps.getD 9 undef)) rfl ?pass ?first
  case pass =>
    rintro a' wr ⟨m, x, y, out, A9, c9, ⟨u, rfl⟩, HI⟩
    have xle := HI.out.xle
    have yle := HI.out.yle
    have hx70 : x < 70 := by omega
    have hy70 : y < 70 := by omega
    have rx := run_int hx70
    have ry := run_int hy70
    have r1 : IntKind.i64.wrap ((x : Int) + 1) = (x : Int) + 1 := IntWalk.i64_in _ (by omega)
    have HL2 := Aside0.mk (show (out.length + 1) * 16 ≤ 140737488355328 by have := HI.out.len; omega)
    have q1 := eq_true (show (0 : Int) ≤ (x : Int) + 1 by omega)
    have q2 := eq_true (show (x : Int) + 1 < 257 by omega)
    have q3 := eq_true (show (x : Int) < 257 by omega)
    have q4 := eq_true (show (y : Int) < 257 by omega)
    have q7 : ((x : Int) + 1).toNat = x + 1 := by omega
    have q9 := eq_true (show (0 : Int) ≤ (x : Int) by omega)
    have q10 := eq_true (show (0 : Int) ≤ (y : Int) by omega)
    rcases Nat.lt_or_ge x a.length with hx | hx
    · have e1 : decide ((x : Int) < (a.length : Int)) = true := decide_eq_true (by omega)
      have e2 : decide (x < a.length) = true := decide_eq_true (by omega)
      have e3 : ((x : Int) == (a.length : Int)) = false := beq_eq_false_iff_ne.2 (by omega)
      have e4 : (x == a.length) = false := beq_eq_false_iff_ne.2 (by omega)
      have e5 : decide (x = a.length) = false := decide_eq_false (by omega)
      obtain ⟨ada, i1, hx0⟩ := Kd.at_string HA.out (x : Int) (by omega) (by omega)
      cases i1
      have hx1 : w.cell? (ada.add x) = some (.string (rt a x)) := hx0
      have LA := Aside0.mk (World.block_lt_of_cell? w _ hx1)
      rw [← HG0.out] at LA
      have hxw := (HI.out.below.cell LA.out).trans hx1
      have p1 := eq_true (show x < a.length from hx)
      have p3 := eq_true (show (x : Int) < (a.length : Int) by omega)
      clear hx0 hx1
      rcases Nat.lt_or_ge y b.length with hy | hy
      · have f1 : decide ((y : Int) < (b.length : Int)) = true := decide_eq_true (by omega)
        have f2 : decide (y < b.length) = true := decide_eq_true (by omega)
        have f3 : ((y : Int) == (b.length : Int)) = false := beq_eq_false_iff_ne.2 (by omega)
        have f4 : (y == b.length) = false := beq_eq_false_iff_ne.2 (by omega)
        have f5 : decide (y = b.length) = false := decide_eq_false (by omega)
        obtain ⟨adb, i2, hy0⟩ := Kd.at_string HB.out (y : Int) (by omega) (by omega)
        cases i2
        have hy1 : w.cell? (adb.add y) = some (.string (rt b y)) := hy0
        have LB := Aside0.mk (World.block_lt_of_cell? w _ hy1)
        rw [← HG0.out] at LB
        have hyw := (HI.out.below.cell LB.out).trans hy1
        have p2 := eq_true (show y < b.length from hy)
        have p4 := eq_true (show (y : Int) < (b.length : Int) by omega)
        clear hy0 hy1
        go_upto_region 19 with fail
        go_quiet (fail)
        have HI2 := Aside0.mk (HI.out.draw nq)
        generalize wr.drewN nq = W2 at *
        clear hxw hyw
        generalize hq : ((rt a x).toList == (rt b y).toList) = qq
        cases qq with
        | true =>
          have HP := Aside0.mk (HI2.out.stays hx hy (eqB_iff.2 (eqB_iff.1 hq)))
          have HXY := Aside0.mk (⟨hx, hy⟩ : x + 1 ≤ a.length ∧ y + 1 ≤ b.length)
          clear hq
          have hadd := run_add (x := x) (y := y) (a := 1) (b := 1) hx70 hy70 (by decide) (by decide) 34
          rw [fl_one] at hadd
          try simp only [Nat.add_zero] at hadd
          go_wp2_with (first | ((with_reducible refine gate_builtin (b := .append) (xs := #[.tmp 133, .tmp 135]) rfl ?_); at_builtin; refine Kd.R_append kS (w0 := w) g rfl (.tmp 133) (.tmp 135) 25 34 (.complex .f64 0 0) 16 rfl Try.underlying25 info34 rfl (by decide) (by omega) (.slice A9 out.length c9) out (1, 1) [.complex .f64 4607182418800017408 4607182418800017408] (fun _ => True) (fun _ => False) rfl rfl ?aP (fun _ hk => hk.elim) (fun _ _ => trivial) HI2.out.row HI2.out.below (Nat.le_of_lt HI2.out.tab.lt) HL2.out ?_; (case aP => exact (show [_] = [encS (1, 1)] by rw [encS_stay])); intro v9 w9 ho9 hb9 hg9 hat9; have HI9 := Aside0.mk (At.next HI2.out (s := (1, 1)) HP.out (by decide) HXY.out.1 HXY.out.2 ho9 hb9 hg9); obtain ⟨A10, c10, rfl⟩ := Kd.R_slice ho9; clear ho9 hb9 hg9 hat9))
          go_step3
          refine ⟨rfl, ⟨_, x + 1, y + 1, _, A10, c10, ?_, HI9⟩, ?_⟩
          · rw [len_snoc]; exact ex_frame (by kernel_rfl)
          · exact mu_less HI.out.len HI9.out.len
        | false =>
          have HNE := Aside0.mk (show ¬ eqB (rt a x) (rt b y) = true by show ¬ ((rt a x).toList == (rt b y).toList) = true; rw [hq]; decide)
          clear hq
          have t1 := HI2.out.tab.cell (x := x) (y := y) (by omega) (by omega)
          have t2 := HI2.out.tab.cell (x := x + 1) (y := y) (by omega) (by omega)
          rw [OP_all] at t1 t2
          generalize hg1 : G (a.drop x) (b.drop y) = g1 at *
          generalize hg2 : G (a.drop (x + 1)) (b.drop y) = g2 at *
          by_cases hgg : g1 = g2
          · have HP := Aside0.mk (HI2.out.goes hx (fun q => HNE.out q.2) (hg1.trans (hgg.trans hg2.symm)))
            have HXY := Aside0.mk (⟨hx, yle⟩ : x + 1 ≤ a.length ∧ y + 0 ≤ b.length)
            subst hgg
            clear HNE hg1 hg2
            go_upto_region 21 with fail
            go_quiet (fail)
            have HI3 := Aside0.mk (HI2.out.draw nq)
            generalize W2.drewN nq = W3 at *
            clear t1 t2
            have hadd := run_add (x := x) (y := y) (a := 1) (b := 0) hx70 hy70 (by decide) (by decide) 34
            rw [fl_one, fl_zero] at hadd
            try simp only [Nat.add_zero] at hadd
            go_wp2_with (first | ((with_reducible refine gate_builtin (b := .append) (xs := #[.tmp 133, .tmp 135]) rfl ?_); at_builtin; refine Kd.R_append kS (w0 := w) g rfl (.tmp 133) (.tmp 135) 25 34 (.complex .f64 0 0) 16 rfl Try.underlying25 info34 rfl (by decide) (by omega) (.slice A9 out.length c9) out (1, 0) [.complex .f64 4607182418800017408 0] (fun _ => True) (fun _ => False) rfl rfl ?aP (fun _ hk => hk.elim) (fun _ _ => trivial) HI3.out.row HI3.out.below (Nat.le_of_lt HI3.out.tab.lt) HL2.out ?_; (case aP => exact (show [_] = [encS (1, 0)] by rw [encS_goes])); intro v9 w9 ho9 hb9 hg9 hat9; have HI9 := Aside0.mk (At.next HI3.out (s := (1, 0)) HP.out (by decide) HXY.out.1 HXY.out.2 ho9 hb9 hg9); obtain ⟨A10, c10, rfl⟩ := Kd.R_slice ho9; clear ho9 hb9 hg9 hat9))
            go_step3
            refine ⟨rfl, ⟨_, x + 1, y, _, A10, c10, ?_, HI9⟩, ?_⟩
            · rw [len_snoc]; exact ex_frame (by kernel_rfl)
            · exact mu_less HI.out.len HI9.out.len
          · have HP := Aside0.mk (HI2.out.comes hy (fun q => HNE.out q.2) (fun q => hgg (hg1.symm.trans (q.2.trans hg2))))
            have HXY := Aside0.mk (⟨xle, hy⟩ : x + 0 ≤ a.length ∧ y + 1 ≤ b.length)
            have k1 : ((g1 : Int) == (g2 : Int)) = false := beq_eq_false_iff_ne.2 (by omega)
            have k2 : (g1 == g2) = false := beq_eq_false_iff_ne.2 hgg
            have k3 : decide (g1 = g2) = false := decide_eq_false hgg
            clear HNE hg1 hg2
            go_upto_region 21 with fail
            go_quiet (fail)
            have HI3 := Aside0.mk (HI2.out.draw nq)
            generalize W2.drewN nq = W3 at *
            clear t1 t2
            have hadd := run_add (x := x) (y := y) (a := 0) (b := 1) hx70 hy70 (by decide) (by decide) 34
            rw [fl_one, fl_zero] at hadd
            try simp only [Nat.add_zero] at hadd
            go_wp2_with (first | ((with_reducible refine gate_builtin (b := .append) (xs := #[.tmp 133, .tmp 135]) rfl ?_); at_builtin; refine Kd.R_append kS (w0 := w) g rfl (.tmp 133) (.tmp 135) 25 34 (.complex .f64 0 0) 16 rfl Try.underlying25 info34 rfl (by decide) (by omega) (.slice A9 out.length c9) out (0, 1) [.complex .f64 0 4607182418800017408] (fun _ => True) (fun _ => False) rfl rfl ?aP (fun _ hk => hk.elim) (fun _ _ => trivial) HI3.out.row HI3.out.below (Nat.le_of_lt HI3.out.tab.lt) HL2.out ?_; (case aP => exact (show [_] = [encS (0, 1)] by rw [encS_come])); intro v9 w9 ho9 hb9 hg9 hat9; have HI9 := Aside0.mk (At.next HI3.out (s := (0, 1)) HP.out (by decide) HXY.out.1 HXY.out.2 ho9 hb9 hg9); obtain ⟨A10, c10, rfl⟩ := Kd.R_slice ho9; clear ho9 hb9 hg9 hat9))
            go_step3
            refine ⟨rfl, ⟨_, x, y + 1, _, A10, c10, ?_, HI9⟩, ?_⟩
            · rw [len_snoc]; exact ex_frame (by kernel_rfl)
            · exact mu_less HI.out.len HI9.out.len
      · have f1 : decide ((y : Int) < (b.length : Int)) = false := decide_eq_false (by omega)
        have f2 : decide (y < b.length) = false := decide_eq_false (by omega)
        have f3 : ((y : Int) == (b.length : Int)) = true := beq_iff_eq.2 (by omega)
        have f4 : (y == b.length) = true := beq_iff_eq.2 (by omega)
        have f5 : decide (y = b.length) = true := decide_eq_true (by omega)
        go_upto_region 19 with fail
        go_quiet (fail)
        have HI2 := Aside0.mk (HI.out.draw nq)
        generalize wr.drewN nq = W2 at *
        clear hxw
        have t1 := HI2.out.tab.cell (x := x) (y := y) (by omega) (by omega)
        have t2 := HI2.out.tab.cell (x := x + 1) (y := y) (by omega) (by omega)
        rw [OP_all] at t1 t2
        generalize hg1 : G (a.drop x) (b.drop y) = g1 at *
        generalize hg2 : G (a.drop (x + 1)) (b.drop y) = g2 at *
        have hgg : g1 = g2 := by rw [← hg1, ← hg2, G_out' (by omega), G_out' (by omega)]
        have HP := Aside0.mk (HI2.out.goes hx (fun q => absurd q.1 (by omega)) (hg1.trans (hgg.trans hg2.symm)))
        have HXY := Aside0.mk (⟨hx, yle⟩ : x + 1 ≤ a.length ∧ y + 0 ≤ b.length)
        subst hgg
        clear hg1 hg2
        go_upto_region 21 with fail
        go_quiet (fail)
        have HI3 := Aside0.mk (HI2.out.draw nq)
        generalize W2.drewN nq = W3 at *
        clear t1 t2
        have hadd := run_add (x := x) (y := y) (a := 1) (b := 0) hx70 hy70 (by decide) (by decide) 34
        rw [fl_one, fl_zero] at hadd
        try simp only [Nat.add_zero] at hadd
        go_wp2_with (first | ((with_reducible refine gate_builtin (b := .append) (xs := #[.tmp 133, .tmp 135]) rfl ?_); at_builtin; refine Kd.R_append kS (w0 := w) g rfl (.tmp 133) (.tmp 135) 25 34 (.complex .f64 0 0) 16 rfl Try.underlying25 info34 rfl (by decide) (by omega) (.slice A9 out.length c9) out (1, 0) [.complex .f64 4607182418800017408 0] (fun _ => True) (fun _ => False) rfl rfl ?aP (fun _ hk => hk.elim) (fun _ _ => trivial) HI3.out.row HI3.out.below (Nat.le_of_lt HI3.out.tab.lt) HL2.out ?_; (case aP => exact (show [_] = [encS (1, 0)] by rw [encS_goes])); intro v9 w9 ho9 hb9 hg9 hat9; have HI9 := Aside0.mk (At.next HI3.out (s := (1, 0)) HP.out (by decide) HXY.out.1 HXY.out.2 ho9 hb9 hg9); obtain ⟨A10, c10, rfl⟩ := Kd.R_slice ho9; clear ho9 hb9 hg9 hat9))
        go_step3
        refine ⟨rfl, ⟨_, x + 1, y, _, A10, c10, ?_, HI9⟩, ?_⟩
        · rw [len_snoc]; exact ex_frame (by kernel_rfl)
        · exact mu_less HI.out.len HI9.out.len
    · have e1 : decide ((x : Int) < (a.length : Int)) = false := decide_eq_false (by omega)
      have e2 : decide (x < a.length) = false := decide_eq_false (by omega)
      have e3 : ((x : Int) == (a.length : Int)) = true := beq_iff_eq.2 (by omega)
      have e4 : (x == a.length) = true := beq_iff_eq.2 (by omega)
      have e5 : decide (x = a.length) = true := decide_eq_true (by omega)
      rcases Nat.lt_or_ge y b.length with hy | hy
      · have f1 : decide ((y : Int) < (b.length : Int)) = true := decide_eq_true (by omega)
        have f2 : decide (y < b.length) = true := decide_eq_true (by omega)
        have f3 : ((y : Int) == (b.length : Int)) = false := beq_eq_false_iff_ne.2 (by omega)
        have f4 : (y == b.length) = false := beq_eq_false_iff_ne.2 (by omega)
        have f5 : decide (y = b.length) = false := decide_eq_false (by omega)
        go_upto_region 19 with fail
        go_quiet (fail)
        have HI2 := Aside0.mk (HI.out.draw nq)
        generalize wr.drewN nq = W2 at *
        have HP := Aside0.mk (HI2.out.comes hy (fun q => absurd q.1 (by omega)) (fun q => absurd q.1 (by omega)))
        have HXY := Aside0.mk (⟨xle, hy⟩ : x + 0 ≤ a.length ∧ y + 1 ≤ b.length)
        go_upto_region 21 with fail
        go_quiet (fail)
        have HI3 := Aside0.mk (HI2.out.draw nq)
        generalize W2.drewN nq = W3 at *
        have hadd := run_add (x := x) (y := y) (a := 0) (b := 1) hx70 hy70 (by decide) (by decide) 34
        rw [fl_one, fl_zero] at hadd
        try simp only [Nat.add_zero] at hadd
        go_wp2_with (first | ((with_reducible refine gate_builtin (b := .append) (xs := #[.tmp 133, .tmp 135]) rfl ?_); at_builtin; refine Kd.R_append kS (w0 := w) g rfl (.tmp 133) (.tmp 135) 25 34 (.complex .f64 0 0) 16 rfl Try.underlying25 info34 rfl (by decide) (by omega) (.slice A9 out.length c9) out (0, 1) [.complex .f64 0 4607182418800017408] (fun _ => True) (fun _ => False) rfl rfl ?aP (fun _ hk => hk.elim) (fun _ _ => trivial) HI3.out.row HI3.out.below (Nat.le_of_lt HI3.out.tab.lt) HL2.out ?_; (case aP => exact (show [_] = [encS (0, 1)] by rw [encS_come])); intro v9 w9 ho9 hb9 hg9 hat9; have HI9 := Aside0.mk (At.next HI3.out (s := (0, 1)) HP.out (by decide) HXY.out.1 HXY.out.2 ho9 hb9 hg9); obtain ⟨A10, c10, rfl⟩ := Kd.R_slice ho9; clear ho9 hb9 hg9 hat9))
        go_step3
        refine ⟨rfl, ⟨_, x, y + 1, _, A10, c10, ?_, HI9⟩, ?_⟩
        · rw [len_snoc]; exact ex_frame (by kernel_rfl)
        · exact mu_less HI.out.len HI9.out.len
      · have f1 : decide ((y : Int) < (b.length : Int)) = false := decide_eq_false (by omega)
        have f2 : decide (y < b.length) = false := decide_eq_false (by omega)
        have f3 : ((y : Int) == (b.length : Int)) = true := beq_iff_eq.2 (by omega)
        have f4 : (y == b.length) = true := beq_iff_eq.2 (by omega)
        have f5 : decide (y = b.length) = true := decide_eq_true (by omega)
        go_wp2_with fail
        simp only [Exit.jump]
        go_ret2
        have hp := HI.out.ends (by omega) (by omega)
        have hB := HI.out.below
        have hR := HI.out.row
        rw [HG0.out] at hB hR
        exact ⟨⟨_, rfl, by rw [hp]; exact hR⟩, hB⟩
  case first =>
    intro hpass
    have HPASS := Aside0.mk hpass
    clear hpass
    go_wp2_with (first | ((with_reducible refine gate_ (.alloc 43) rfl ?_); refine alloc43 rfl rfl ?_; rw [← HG0.out]; generalize w.alloc (.cells z43.cells 43) = w1 at *))
    go_loopg [7] a.length (fun kq v7 wr => ∃ z : Int, v7 = .int .i64 z ∧ Aside0 (z + 1 = (kq : Int) ∧ kq ≤ a.length) ∧ Aside0 (Tab wr g (OP a b kq)) ∧ Aside0 (Below g w wr))
    case atStart => exact ⟨_, rfl, ⟨by omega, Nat.le_refl _⟩, HT0, HB0⟩
    case round =>
      obtain ⟨z, rfl, HK, HT, HBB⟩ := hrel
      by_cases c2 : 0 ≤ z
      · have c2b : decide (0 ≤ z) = true := decide_eq_true c2
        obtain ⟨i, rfl⟩ : ∃ i : Nat, z = (i : Int) := ⟨z.toNat, by omega⟩
        obtain ⟨k1, k2⟩ := HK.out
        obtain rfl : gk = i + 1 := by omega
        rw [DP_start] at HT
        have hia : i < a.length := by omega
        clear HK k1 k2 c2 HT0 HB0
        obtain ⟨W1, rfl⟩ : ∃ W, W = wr := ⟨_, rfl⟩
        go_wp2_with fail
        go_loopg [8] b.length (fun kq v8 wr => ∃ z : Int, v8 = .int .i64 z ∧ Aside0 (z + 1 = (kq : Int) ∧ kq ≤ b.length) ∧ Aside0 (Tab wr g (DP a b i kq)) ∧ Aside0 (Below g w wr))
        case atStart => exact ⟨_, rfl, ⟨by omega, Nat.le_refl _⟩, HT, HBB⟩
        case round =>
          obtain ⟨z, rfl, HK, HT2, HB2⟩ := hrel
          by_cases c3 : 0 ≤ z
          · have c3b : decide (0 ≤ z) = true := decide_eq_true c3
            obtain ⟨y, rfl⟩ : ∃ y : Nat, z = (y : Int) := ⟨z.toNat, by omega⟩
            obtain ⟨k1, k2⟩ := HK.out
            obtain rfl : gk = y + 1 := by omega
            have hyb : y < b.length := by omega
            clear HK k1 k2 c3 HT HBB
            have z0 := HT2.out.cell (x := i + 1) (y := y) (by omega) (by omega)
            have z1 := HT2.out.cell (x := i) (y := y + 1) (by omega) (by omega)
            rw [DP_right] at z0
            rw [DP_down] at z1
            have zf := HT2.out.frozen (i * 257 + y)
            have z2 := HT2.out.cell (x := i) (y := y) (by omega) (by omega)
            generalize hg1 : G (a.drop (i + 1)) (b.drop y) = g1 at *
            generalize hg2 : G (a.drop i) (b.drop (y + 1)) = g2 at *
            obtain ⟨m, hm⟩ : ∃ m, m = max g1 g2 := ⟨_, rfl⟩
            have e1 : (if g1 < g2 then (g2 : Int) else (g1 : Int)) = (m : Int) := by rw [hm]; split <;> omega
            have HM := Aside0.mk hm
            clear hm
            have q1 := eq_true (show (0 : Int) ≤ (i : Int) + 1 by omega)
            have q2 := eq_true (show (i : Int) + 1 < 257 by omega)
            have q3 := eq_true (show (i : Int) < 257 by omega)
            have q4 := eq_true (show (y : Int) < 257 by omega)
            have q5 := eq_true (show (y : Int) + 1 < 257 by omega)
            have q6 := eq_true (show (0 : Int) ≤ (y : Int) + 1 by omega)
            have q7 : ((i : Int) + 1).toNat = i + 1 := by omega
            have q8 : ((y : Int) + 1).toNat = y + 1 := by omega
            have q9 := eq_true (show (0 : Int) ≤ (i : Int) by omega)
            have q10 := eq_true (show (0 : Int) ≤ (y : Int) by omega)
            have r1 : IntKind.i64.wrap ((i : Int) + 1) = (i : Int) + 1 := IntWalk.i64_in _ (by omega)
            have r2 : IntKind.i64.wrap ((y : Int) + 1) = (y : Int) + 1 := IntWalk.i64_in _ (by omega)
            go_upto_region 10 with fail
            go_still_tail 17, (by kernel_rfl)
            change wpList _ _ _ _ _ wr.drew
            go_upto_region 11 with fail
            have HT3 := Aside0.mk (show Tab (wr.setCell ⟨g, i * 257 + y, none⟩ (.int .i16 (m : Int))).drew g (SP a b i y m) from (HT2.out.put (by omega) (by omega) m).move rfl)
            have HB3 := Aside0.mk (show Below g w (wr.setCell ⟨g, i * 257 + y, none⟩ (.int .i16 (m : Int))).drew from (HB2.out.setCell (p := ⟨g, _, none⟩) (Nat.le_refl g) _).drew)
            clear z0 z1 zf z2 e1
            generalize (wr.setCell ⟨g, i * 257 + y, none⟩ (.int .i16 (m : Int))).drew = W3 at *
            clear HT2 HB2
            obtain ⟨ada, e1, hx0⟩ := Kd.at_string HA.out (i : Int) (by omega) (by omega)
            obtain ⟨adb, e2, hy0⟩ := Kd.at_string HB.out (y : Int) (by omega) (by omega)
            cases e1
            cases e2
            have hx1 : w.cell? (ada.add i) = some (.string (rt a i)) := hx0
            have hy1 : w.cell? (adb.add y) = some (.string (rt b y)) := hy0
            have LA := Aside0.mk (World.block_lt_of_cell? w _ hx1)
            have LB := Aside0.mk (World.block_lt_of_cell? w _ hy1)
            rw [← HG0.out] at LA LB
            have hx := (HB3.out.cell LA.out).trans hx1
            have hy := (HB3.out.cell LB.out).trans hy1
            have p1 := eq_true (show i < a.length from hia)
            have p2 := eq_true (show y < b.length from hyb)
            have p3 := eq_true (show (i : Int) < (a.length : Int) by omega)
            have p4 := eq_true (show (y : Int) < (b.length : Int) by omega)
            clear hx0 hx1 hy0 hy1
            go_quiet (fail)
            have HT4 := Aside0.mk (HT3.out.below (pw_below_drewN (Below.refl _ _) nq))
            have HB4 := Aside0.mk (pw_below_drewN HB3.out nq)
            generalize W3.drewN nq = W4 at *
            clear HT3 HB3 hx hy
            have HG := Aside0.mk (G_at (a := a) (b := b) hia hyb)
            generalize hq : ((rt a i).toList == (rt b y).toList) = qq
            cases qq with
            | true =>
              have he : rt a i = rt b y := eqB_iff.1 hq
              clear hq
              have z3 := HT4.out.cell (x := i + 1) (y := y + 1) (by omega) (by omega)
              rw [SP_both] at z3
              have z2 := HT4.out.cell (x := i) (y := y) (by omega) (by omega)
              have zf := HT4.out.frozen (i * 257 + y)
              have hgl := G_left (a.drop (i + 1)) (b.drop (y + 1))
              rw [List.length_drop] at hgl
              have HG2 := Aside0.mk (show G (a.drop i) (b.drop y) = G (a.drop (i + 1)) (b.drop (y + 1)) + 1 by rw [HG.out, if_pos (eqB_iff.2 he)])
              generalize G (a.drop (i + 1)) (b.drop (y + 1)) = g3 at *
              have r3 : IntKind.i16.wrap ((g3 : Int) + 1) = (g3 : Int) + 1 := IntWalk.i16_in _ (by omega)
              clear HG HM
              go_upto_region 12 with fail
              go_still_tail 12, (by kernel_rfl)
              change wpList _ _ _ _ _ W4.drew
              go_wp2_with fail
              have HT5 := Aside0.mk (show Tab (W4.setCell ⟨g, i * 257 + y, none⟩ (.int .i16 ((g3 : Int) + 1))).drew g (SP a b i y (g3 + 1)) from (HT4.out.put2 (by omega) (by omega) (g3 + 1)).move rfl)
              rw [← HG2.out, SP_eq] at HT5
              have HB5 := Aside0.mk (show Below g w (W4.setCell ⟨g, i * 257 + y, none⟩ (.int .i16 ((g3 : Int) + 1))).drew from (HB4.out.setCell (p := ⟨g, _, none⟩) (Nat.le_refl g) _).drew)
              go_roundg y
              case measure => omega
              case rel => exact ⟨_, rfl, ⟨by omega, by omega⟩, HT5, HB5⟩
            | false =>
              have he : ¬ rt a i = rt b y := fun q => by rw [show ((rt a i).toList == (rt b y).toList) = true from eqB_iff.2 q] at hq; exact absurd hq (by decide)
              clear hq
              have HG2 := Aside0.mk (show G (a.drop i) (b.drop y) = m by rw [HG.out, if_neg (fun q => he (eqB_iff.1 q)), HM.out, hg1, hg2])
              rw [← HG2.out, SP_eq] at HT4
              clear HG HM HG2 he
              go_wp2_with fail
              go_roundg y
              case measure => omega
              case rel => exact ⟨_, rfl, ⟨by omega, by omega⟩, HT4, HB4⟩
          · have c3b : decide (0 ≤ z) = false := decide_eq_false c3
            have k0 : gk = 0 := by have := HK.out; omega
            rw [k0, DP_end] at HT2
            go_wp2
            go_roundg i
            case measure => omega
            case rel => exact ⟨_, rfl, ⟨by omega, by omega⟩, HT2, HB2⟩
      · have c2b : decide (0 ≤ z) = false := decide_eq_false c2
        have kz : gk = 0 := by have := HK.out; omega
        rw [kz] at HT
        obtain ⟨x, hx00⟩ : ∃ x : Nat, x = 0 := ⟨_, rfl⟩
        obtain ⟨y, hy00⟩ : ∃ y : Nat, y = 0 := ⟨_, rfl⟩
        obtain ⟨m, hm00⟩ : ∃ m : Nat, m = a.length + b.length := ⟨_, rfl⟩
        have HI := Aside0.mk (show At a b w g wr m x y (.slice none 0 0) [] from ⟨HT.out, HBB.out, Kd.R_nil _ _ _ _ _, by rw [hx00, hy00, hm00]; rfl, by omega, by rw [hm00]; exact Nat.zero_add _, by omega, by omega⟩)
        clear HT HBB HK kz c2 hm00
        go_upto_region 15 with fail
        go_step3
        rw [show Value.complex FloatKind.f64 0 0 = Value.complex .f64 (fl x) (fl y) by rw [hx00, hy00, fl_zero]]
        rename_i hK
        refine hK _ _ (HPASS.out _ _ ⟨m, x, y, [], none, 0, ?_, HI⟩)
        rw [List.length_nil]
        exact ex_frame (by kernel_rfl)
end Go.Proofs.Ytcnlcmkhfdpidaa.Grid
