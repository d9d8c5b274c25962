/- GridLongest's closure: it lays a row with other texts between: its walk. -/
import Derived.Test.YtcnlcmkhfdpidaaEnds
import Derived.StillTailTactics
namespace Go.Proofs.Ytcnlcmkhfdpidaa.Grid
set_option linter.unusedVariables false
set_option linter.unusedSimpArgs false
open Go.RowKit Go.Proofs.Ytcnlcmkhfdpidaa.Q Go.Proofs.YtcnlcmkhfdpidaaW.PrintWords Go.Proofs.YtcnlcmkhfdpidaaW.PrintLast Go.Proofs.YtcnlcmkhfdpidaaW.PrintMore
theorem sub_snoc {c out : List ByteArray} {s : ByteArray} (h : c.Sublist out) : c.Sublist (out ++ [s]) := h.trans (List.sublist_append_left _ _)
theorem sub_both {c out : List ByteArray} {i : Nat} (hi : i < c.length) (h : (c.take i).Sublist out) : (c.take (i + 1)).Sublist (out ++ [rt c i]) := by
  rw [List.take_succ_eq_append_getElem hi, ← rt_get hi]
  exact h.append (List.Sublist.refl _)
set_option maxRecDepth 100000 in
set_option maxHeartbeats 8000000 in
theorem Lay (A0 : Option Addr) (c0 : Nat) (ps : List Int) (P1 P2 : Addr) (A1 : Option Addr) (c1 : Nat) (cm : List ByteArray) (A2 : Option Addr) (c2 : Nat) (mo : List ByteArray) (w : World)
    (hr : Kd.C (Kd.int .u8) w A0 ps.length ps) (hrb : ∀ i, 0 ≤ rd ps i ∧ rd ps i < 256) (hp1 : w.cell? P1 = some (.slice A1 cm.length c1)) (hp2 : w.cell? P2 = some (.slice A2 mo.length c2))
    (hcm : Kd.C Kd.string w A1 cm.length cm) (hmo : Kd.C Kd.string w A2 mo.length mo) (hpl : ps.length ≤ 30) (hcl : cm.length ≤ 30) (hml : mo.length ≤ 60) :
    Calls Try.prog 16 #[.slice A0 ps.length c0, .pointer (some P1), .pointer (some P2)] w fun e w' => ∃ v out, e = .returned v ∧ Strs w w' v out ∧ Below w.heap.size w w' ∧ cm.Sublist out ∧ out.length ≤ cm.length + ps.length := by
  have HR := Aside0.mk hr
  have HRB := Aside0.mk hrb
  have HCM := Aside0.mk hcm
  have HMO := Aside0.mk hmo
  have HP1 := Aside0.mk hp1
  have HP2 := Aside0.mk hp2
  have L1 := Aside0.mk (World.block_lt_of_cell? w _ hp1)
  have L2 := Aside0.mk (World.block_lt_of_cell? w _ hp2)
  clear hr hrb hcm hmo hp1 hp2
  go_enter Try.func16, Try.ntmps16
  go_wp2_with fail
  go_loopg [5, 6, 7] cm.length (fun kq v5 v6 v7 wr => ∃ (i k : Nat) (out : List ByteArray), v7 = .int .i64 i ∧ v6 = .int .i64 k ∧ Aside0 (i + kq = cm.length ∧ k ≤ ps.length ∧ out.length ≤ i + k ∧ (cm.take i).Sublist out) ∧ Aside0 (Strs w wr v5 out) ∧ Aside0 (Below w.heap.size w wr))
  case atStart => exact ⟨0, 0, [], rfl, rfl, ⟨by omega, by omega, Nat.le_refl _, List.Sublist.refl _⟩, ⟨Kd.R_nil _ _ _ _ _⟩, ⟨Below.refl _ _⟩⟩
  case round =>
    obtain ⟨i, k, out, rfl, rfl, HK, HT, HB⟩ := hrel
    have hx1 := (HB.out.cell L1.out).trans HP1.out
    by_cases ci : i < cm.length
    · have c2b : decide ((i : Int) < (cm.length : Int)) = true := decide_eq_true (by omega)
      obtain ⟨m, rfl⟩ : ∃ m, gk = m + 1 := ⟨gk - 1, by have := HK.out.1; omega⟩
      have HM := Aside0.mk (show i + (m + 1) = cm.length from HK.out.1)
      have HK2 := Aside0.mk HK.out.2
      have HT0 := HT
      have HB0 := HB
      obtain ⟨adc, i1, hc0⟩ := Kd.at_string HCM.out (i : Int) (by omega) (by omega)
      cases i1
      have hc1 : w.cell? (adc.add i) = some (.string (rt cm i)) := hc0
      have LC := Aside0.mk (World.block_lt_of_cell? w _ hc1)
      have HC := Aside0.mk hc1
      have HSB := Aside0.mk (fun (o : List ByteArray) (h : (cm.take i).Sublist o) => sub_both ci h)
      have q4 := eq_true (show (0 : Int) ≤ (i : Int) by omega)
      have q5 := eq_true (show i < cm.length from ci)
      have q6 := eq_true (show (i : Int) < (cm.length : Int) by omega)
      have r4 : IntKind.i64.wrap ((i : Int) + 1) = (i : Int) + 1 := IntWalk.i64_in _ (by omega)
      clear hc0 hc1
      generalize rt cm i = T at *
      obtain ⟨W1, rfl⟩ : ∃ W, W = wr := ⟨_, rfl⟩
      go_upto_region 4 with fail
      go_wp2_with fail
      clear HT HB HK hx1
      go_loopg [5, 6] (ps.length - k) (fun kq v5 v6 wr => ∃ (k : Nat) (out : List ByteArray), v6 = .int .i64 k ∧ Aside0 (k + kq = ps.length ∧ out.length ≤ i + k ∧ (cm.take i).Sublist out) ∧ Aside0 (Strs w wr v5 out) ∧ Aside0 (Below w.heap.size w wr))
      case atStart => exact ⟨k, out, rfl, ⟨by have := HK2.out.1; omega, HK2.out.2.1, HK2.out.2.2⟩, HT0, HB0⟩
      case round =>
        clear HK2 HT0 HB0
        obtain ⟨k', out', rfl, HK, HT, HB⟩ := hrel
        have hx1 := (HB.out.cell L1.out).trans HP1.out
        have hx2 := (HB.out.cell L2.out).trans HP2.out
        by_cases c3 : k' < ps.length
        · have c3b : decide ((k' : Int) < (ps.length : Int)) = true := decide_eq_true (by omega)
          obtain ⟨adp, e1, hp0⟩ := Kd.at_int HR.out (k' : Int) (by omega) (by omega)
          cases e1
          have hp1 : w.cell? (adp.add k') = some (.int .u8 (rd ps k')) := hp0
          have LP := Aside0.mk (World.block_lt_of_cell? w _ hp1)
          have hp := (HB.out.cell LP.out).trans hp1
          obtain ⟨x0, x1⟩ := HRB.out (k' : Int)
          generalize rd ps (k' : Int) = x at *
          clear hp0 hp1
          have q1 := eq_true (show (0 : Int) ≤ (k' : Int) by omega)
          have q2 := eq_true (show k' < ps.length from c3)
          have q3 := eq_true (show (k' : Int) < (ps.length : Int) by omega)
          have r1 : IntKind.i64.wrap ((k' : Int) + 1) = (k' : Int) + 1 := IntWalk.i64_in _ (by omega)
          have r2 : IntKind.i64.wrap ((cm.length : Int) + 1) = (cm.length : Int) + 1 := IntWalk.i64_in _ (by omega)
          have r3 : IntKind.i64.wrap x = x := IntWalk.i64_in _ (by omega)
          have n0 : (((cm.length : Int) + 1) == 0) = false := beq_eq_false_iff_ne.2 (by omega)
          have n1 : ((cm.length : Int) + 1 = 0) = False := eq_false (by omega)
          by_cases c4 : x.tmod ((cm.length : Int) + 1) ≤ (i : Int)
          · have c4b : decide (x.tmod ((cm.length : Int) + 1) ≤ (i : Int)) = true := decide_eq_true c4
            by_cases c5 : 0 < mo.length
            · have c5b : decide ((0 : Int) < (mo.length : Int)) = true := decide_eq_true (by omega)
              have c5n : decide (0 < mo.length) = true := decide_eq_true (by omega)
              clear c4
              go_upto_region 6 with fail
              go_quiet (fail)
              have HT2 := Aside0.mk (Kd.R_drewN HT.out nq)
              have HB2 := Aside0.mk (pw_below_drewN HB.out nq)
              generalize wr.drewN nq = W2 at *
              clear HT HB hx1 hx2
              have hx1 := (HB2.out.cell L1.out).trans HP1.out
              have hx2 := (HB2.out.cell L2.out).trans HP2.out
              have hc := (HB2.out.cell LC.out).trans HC.out
              have HL3 := Aside0.mk (show (out'.length + 1) * 16 ≤ 140737488355328 by have := HK.out.1; have := HK.out.2.1; omega)
              clear hp
              go_upto_region 8 with fail
              obtain ⟨y, hy⟩ : ∃ y, y = k' % mo.length := ⟨_, rfl⟩
              have hyl : y < mo.length := by rw [hy]; exact Nat.mod_lt _ c5
              have r5 : Int.tmod (k' : Int) (mo.length : Int) = (y : Int) := by rw [hy]; rfl
              have n2 : ((mo.length : Int) == 0) = false := beq_eq_false_iff_ne.2 (by omega)
              have n3 : ((mo.length : Int) = 0) = False := eq_false (by omega)
              have n4 : (mo.length = 0) = False := eq_false (by omega)
              obtain ⟨adm, e2, hm0⟩ := Kd.at_string HMO.out (y : Int) (by omega) (by omega)
              cases e2
              have hm1 : w.cell? (adm.add y) = some (.string (rt mo y)) := hm0
              have LM := Aside0.mk (World.block_lt_of_cell? w _ hm1)
              have hm2 := (HB2.out.cell LM.out).trans hm1
              generalize rt mo y = U at *
              have q7 := eq_true (show (0 : Int) ≤ (y : Int) by omega)
              have q8 := eq_true (show y < mo.length from hyl)
              have q9 := eq_true (show (y : Int) < (mo.length : Int) by omega)
              have HL2 := Aside0.mk (show (out'.length + 1) * 16 ≤ 140737488355328 by have := HK.out.1; have := HK.out.2.1; omega)
              have HM1 := Aside0.mk hm1
              clear hm0 hm1 hy hyl
              have BW := Aside0.mk HB2.out
              have hd1 : W2.drew.cell? P2 = _ := ((Below.drew HB2.out).cell L2.out).trans HP2.out
              have hd2 : W2.drew.cell? (adm.add y) = _ := ((Below.drew HB2.out).cell (p := adm.add y) LM.out).trans HM1.out
              refine start_ (n := 11) (S := fun w' => w'.cell? P2 = some (.slice (some adm) mo.length c2) ∧ w'.cell? (adm.add y) = some (.string U) ∧ True) (ds := []) #[false, false, false, false, false, false, false, false, false, false, false] (by kernel_rfl) rfl rfl ⟨hd1, hd2, trivial⟩ (fun hHeld => ?_)
              refine pure_ (i := 0) (N := some 38) (v := ?_) (a' := ?_) #[true, false, false, false, false, false, false, false, false, false, false] rfl rfl (by kernel_rfl) (fun _ _ _ h => h) (Or.inl ⟨by rfl, ?_⟩) ?_ ?_
              rotate_left
              · intro w'
                go_simp
                with_reducible rfl
              rotate_left
              · simp only [Act.put, List.setIfInBounds_toArray, List.set_cons_zero, List.set_cons_succ, i64_w, i32_w]
                rfl
              refine take_ (i := 1) (N := some 39) (v := ?_) (a' := ?_) #[true, true, false, false, false, false, false, false, false, false, false] rfl rfl (by kernel_rfl) (fun _ _ _ h => h) (Or.inl ⟨by rfl, ?_⟩) hHeld ?_ ?_
              rotate_left
              · rintro w' ⟨s0, s1, s2⟩
                go_simp
                with_reducible rfl
              rotate_left
              · simp only [Act.put, List.setIfInBounds_toArray, List.set_cons_zero, List.set_cons_succ, i64_w, i32_w]
                rfl
              refine pure_ (i := 2) (N := some 40) (v := ?_) (a' := ?_) #[true, true, true, false, false, false, false, false, false, false, false] rfl rfl (by kernel_rfl) (fun _ _ _ h => h) (Or.inl ⟨by rfl, ?_⟩) ?_ ?_
              rotate_left
              · intro w'
                go_simp
                with_reducible rfl
              rotate_left
              · simp only [Act.put, List.setIfInBounds_toArray, List.set_cons_zero, List.set_cons_succ, i64_w, i32_w]
                rfl
              refine take_ (i := 3) (N := some 41) (v := ?_) (a' := ?_) #[true, true, true, true, false, false, false, false, false, false, false] rfl rfl (by kernel_rfl) (fun _ _ _ h => h) (Or.inl ⟨by rfl, ?_⟩) hHeld ?_ ?_
              rotate_left
              · rintro w' ⟨s0, s1, s2⟩
                go_simp
                with_reducible rfl
              rotate_left
              · simp only [Act.put, List.setIfInBounds_toArray, List.set_cons_zero, List.set_cons_succ, i64_w, i32_w]
                rfl
              refine pure_ (i := 4) (N := some 42) (v := ?_) (a' := ?_) #[true, true, true, true, true, false, false, false, false, false, false] rfl rfl (by kernel_rfl) (fun _ _ _ h => h) (Or.inl ⟨by rfl, ?_⟩) ?_ ?_
              rotate_left
              · intro w'
                go_simp
                with_reducible rfl
              rotate_left
              · simp only [Act.put, List.setIfInBounds_toArray, List.set_cons_zero, List.set_cons_succ, i64_w, i32_w]
                rfl
              refine pure_ (i := 5) (N := some 43) (v := ?_) (a' := ?_) #[true, true, true, true, true, true, false, false, false, false, false] rfl rfl (by kernel_rfl) (fun _ _ _ h => h) (Or.inl ⟨by rfl, ?_⟩) ?_ ?_
              rotate_left
              · intro w'
                go_simp
                with_reducible rfl
              rotate_left
              · simp only [Act.put, List.setIfInBounds_toArray, List.set_cons_zero, List.set_cons_succ, i64_w, i32_w]
                rfl
              refine pure_ (i := 6) (N := some 44) (v := ?_) (a' := ?_) #[true, true, true, true, true, true, true, false, false, false, false] rfl rfl (by kernel_rfl) (fun _ _ _ h => h) (Or.inl ⟨by rfl, ?_⟩) ?_ ?_
              rotate_left
              · intro w'
                go_simp
                with_reducible rfl
              rotate_left
              · simp only [Act.put, List.setIfInBounds_toArray, List.set_cons_zero, List.set_cons_succ, i64_w, i32_w]
                rfl
              refine take_ (i := 7) (N := some 45) (v := ?_) (a' := ?_) #[true, true, true, true, true, true, true, true, false, false, false] rfl rfl (by kernel_rfl) (fun _ _ _ h => h) (Or.inl ⟨by rfl, ?_⟩) hHeld ?_ ?_
              rotate_left
              · rintro w' ⟨s0, s1, s2⟩
                go_simp
                with_reducible rfl
              rotate_left
              · simp only [Act.put, List.setIfInBounds_toArray, List.set_cons_zero, List.set_cons_succ, i64_w, i32_w]
                rfl
              refine one_ (i := 8) (N := some 46) #[true, true, true, true, true, true, true, true, true, false, false] rfl rfl (by kernel_rfl) (by decide) (fun K hK => ?_)
              refine value_ (w1 := ?_) (v := ?_) (by rfl) rfl ?_ ?_
              rotate_left 2
              · go_simp
                constructor
                · rfl
                · rfl
              refine hK.out _ _ ⟨(below_alloc (Below.refl _ _) _).cell (Nat.lt_of_lt_of_le L2.out BW.out.size) |>.trans hd1, (below_alloc (Below.refl _ _) _).cell (p := adm.add y) (Nat.lt_of_lt_of_le LM.out BW.out.size) |>.trans hd2, trivial⟩ (fun hHeld => ?_)
              clear hK K
              refine norm_ (a' := ?_) ?_ ?_
              rotate_left
              · show Act.put _ (some 46) _ = _
                simp only [Act.put, List.setIfInBounds_toArray, List.set_cons_zero, List.set_cons_succ, i64_w, i32_w]
                rfl
              refine one_ (i := 9) (N := some 47) #[true, true, true, true, true, true, true, true, true, true, false] rfl rfl (by kernel_rfl) (by decide) (fun K hK => ?_)
              refine Kd.R_append_step Kd.string (w0 := w) w.heap.size (by rfl) (.tmp 38) (.tmp 46) 22 9 (.string ⟨#[]⟩) 16 rfl Try.underlying22 info9 rfl (by decide) (by omega) u5 out' U [.string U] (fun _ => True) (fun _ => False) rfl rfl rfl (fun _ hk => hk.elim) (fun _ _ => trivial) (Kd.R_drew HT2.out) (Below.drew HB2.out) HB2.out.size HL2.out ?_
              intro v9 w9 ho9 hb9 hg9 hat9
              have HT9 := Aside0.mk ho9
              have HB9 := Aside0.mk hb9
              have he1 := (hb9.cell L2.out).trans HP2.out
              have he2 := (hb9.cell (p := adm.add y) LM.out).trans HM1.out
              clear ho9 hb9 hg9 hat9
              refine hK.out _ _ ⟨he1, he2, trivial⟩ (fun hHeld => ?_)
              clear hK K
              refine norm_ (a' := ?_) ?_ ?_
              rotate_left
              · show Act.put _ (some 47) _ = _
                simp only [Act.put, List.setIfInBounds_toArray, List.set_cons_zero, List.set_cons_succ, i64_w, i32_w]
                rfl
              refine pure_ (i := 10) (N := some 5) (v := ?_) (a' := ?_) #[true, true, true, true, true, true, true, true, true, true, true] rfl rfl (by kernel_rfl) (fun _ _ _ h => h) (Or.inl ⟨by rfl, ?_⟩) ?_ ?_
              rotate_left
              · intro w'
                go_simp
                with_reducible rfl
              rotate_left
              · simp only [Act.put, List.setIfInBounds_toArray, List.set_cons_zero, List.set_cons_succ, i64_w, i32_w]
                rfl
              refine done_ (by kernel_rfl) ?_
              go_wp2_with fail
              go_roundg (gk - 1)
              case measure => have := HK.out.1; have := of_eq_true q2; omega
              case rel => exact ⟨k' + 1, out' ++ [U], by go_num, ⟨by have := HK.out.1; have := of_eq_true q2; omega, by have := HK.out.2.1; rw [List.length_append, List.length_singleton]; omega, sub_snoc HK.out.2.2⟩, HT9, HB9⟩
            · have c5b : decide ((0 : Int) < (mo.length : Int)) = false := decide_eq_false (by omega)
              have c5n : decide (0 < mo.length) = false := decide_eq_false (by omega)
              clear c4
              go_upto_region 6 with fail
              go_quiet (fail)
              have HT2 := Aside0.mk (Kd.R_drewN HT.out nq)
              have HB2 := Aside0.mk (pw_below_drewN HB.out nq)
              generalize wr.drewN nq = W2 at *
              clear HT HB hx1 hx2
              have hx1 := (HB2.out.cell L1.out).trans HP1.out
              have hx2 := (HB2.out.cell L2.out).trans HP2.out
              have hc := (HB2.out.cell LC.out).trans HC.out
              have HL3 := Aside0.mk (show (out'.length + 1) * 16 ≤ 140737488355328 by have := HK.out.1; have := HK.out.2.1; omega)
              clear hp
              go_wp2_with (first | ((with_reducible refine gate_builtin (b := .append) (xs := #[.tmp 48, .tmp 53]) rfl ?_); at_builtin; refine Kd.R_append Kd.string (w0 := w) w.heap.size rfl (.tmp 48) (.tmp 53) 22 9 (.string ⟨#[]⟩) 16 rfl Try.underlying22 info9 rfl (by decide) (by decide) u5 out' T [.string T] (fun _ => True) (fun _ => False) rfl rfl rfl (fun _ hk => hk.elim) (fun _ _ => trivial) HT2.out HB2.out HB2.out.size HL3.out ?_; intro v9 w9 ho9 hb9 hg9 hat9; have HT9 := Aside0.mk ho9; have HB9 := Aside0.mk hb9; clear ho9 hb9 hg9 hat9 HT2 HB2))
              go_roundg m
              case measure => omega
              case rel => exact ⟨i + 1, k', out' ++ [T], by go_num, rfl, ⟨by have := HM.out; omega, by have := HK.out.1; omega, by have := HK.out.2.1; rw [List.length_append, List.length_singleton]; omega, HSB.out _ HK.out.2.2⟩, HT9, HB9⟩
          · have c4b : decide (x.tmod ((cm.length : Int) + 1) ≤ (i : Int)) = false := decide_eq_false c4
            clear c4
            go_upto_region 6 with fail
            go_quiet (fail)
            have HT2 := Aside0.mk (Kd.R_drewN HT.out nq)
            have HB2 := Aside0.mk (pw_below_drewN HB.out nq)
            generalize wr.drewN nq = W2 at *
            clear HT HB hx1 hx2
            have hx1 := (HB2.out.cell L1.out).trans HP1.out
            have hx2 := (HB2.out.cell L2.out).trans HP2.out
            have hc := (HB2.out.cell LC.out).trans HC.out
            have HL3 := Aside0.mk (show (out'.length + 1) * 16 ≤ 140737488355328 by have := HK.out.1; have := HK.out.2.1; omega)
            clear hp
            go_wp2_with (first | ((with_reducible refine gate_builtin (b := .append) (xs := #[.tmp 48, .tmp 53]) rfl ?_); at_builtin; refine Kd.R_append Kd.string (w0 := w) w.heap.size rfl (.tmp 48) (.tmp 53) 22 9 (.string ⟨#[]⟩) 16 rfl Try.underlying22 info9 rfl (by decide) (by decide) u5 out' T [.string T] (fun _ => True) (fun _ => False) rfl rfl rfl (fun _ hk => hk.elim) (fun _ _ => trivial) HT2.out HB2.out HB2.out.size HL3.out ?_; intro v9 w9 ho9 hb9 hg9 hat9; have HT9 := Aside0.mk ho9; have HB9 := Aside0.mk hb9; clear ho9 hb9 hg9 hat9 HT2 HB2))
            go_roundg m
            case measure => omega
            case rel => exact ⟨i + 1, k', out' ++ [T], by go_num, rfl, ⟨by have := HM.out; omega, by have := HK.out.1; omega, by have := HK.out.2.1; rw [List.length_append, List.length_singleton]; omega, HSB.out _ HK.out.2.2⟩, HT9, HB9⟩
        · have c3b : decide ((k' : Int) < (ps.length : Int)) = false := decide_eq_false (by omega)
          have c3n : decide (k' < ps.length) = false := decide_eq_false c3
          go_upto_region 6 with fail
          go_quiet (fail)
          have HT2 := Aside0.mk (Kd.R_drewN HT.out nq)
          have HB2 := Aside0.mk (pw_below_drewN HB.out nq)
          generalize wr.drewN nq = W2 at *
          clear HT HB hx1 hx2
          have hx1 := (HB2.out.cell L1.out).trans HP1.out
          have hx2 := (HB2.out.cell L2.out).trans HP2.out
          have hc := (HB2.out.cell LC.out).trans HC.out
          have HL3 := Aside0.mk (show (out'.length + 1) * 16 ≤ 140737488355328 by have := HK.out.1; have := HK.out.2.1; omega)
          go_wp2_with (first | ((with_reducible refine gate_builtin (b := .append) (xs := #[.tmp 48, .tmp 53]) rfl ?_); at_builtin; refine Kd.R_append Kd.string (w0 := w) w.heap.size rfl (.tmp 48) (.tmp 53) 22 9 (.string ⟨#[]⟩) 16 rfl Try.underlying22 info9 rfl (by decide) (by decide) u5 out' T [.string T] (fun _ => True) (fun _ => False) rfl rfl rfl (fun _ hk => hk.elim) (fun _ _ => trivial) HT2.out HB2.out HB2.out.size HL3.out ?_; intro v9 w9 ho9 hb9 hg9 hat9; have HT9 := Aside0.mk ho9; have HB9 := Aside0.mk hb9; clear ho9 hb9 hg9 hat9 HT2 HB2))
          go_roundg m
          case measure => omega
          case rel => exact ⟨i + 1, k', out' ++ [T], by go_num, rfl, ⟨by have := HM.out; omega, by have := HK.out.1; omega, by have := HK.out.2.1; rw [List.length_append, List.length_singleton]; omega, HSB.out _ HK.out.2.2⟩, HT9, HB9⟩
    · have c2b : decide ((i : Int) < (cm.length : Int)) = false := decide_eq_false (by omega)
      have c2n : decide (i < cm.length) = false := decide_eq_false ci
      go_wp2_with fail
      go_ret
      obtain ⟨k1, k2, k3, k4⟩ := HK.out
      rw [List.take_of_length_le (by omega)] at k4
      exact ⟨_, out, rfl, HT.out, HB.out, k4, by omega⟩
end Go.Proofs.Ytcnlcmkhfdpidaa.Grid
