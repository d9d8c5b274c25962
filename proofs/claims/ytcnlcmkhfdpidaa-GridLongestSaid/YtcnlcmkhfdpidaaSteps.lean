/- Rows of steps in memory; Same and Points: each walked once. -/
import Derived.Test.YtcnlcmkhfdpidaaFl
import Derived.Test.YtcnlcmkhfdpidaaLcs
import Derived.IntWalk
namespace Go.Proofs.Ytcnlcmkhfdpidaa.Grid
set_option linter.unusedVariables false
set_option linter.unusedSimpArgs false
open Go.RowKit Go.Proofs.Ytcnlcmkhfdpidaa.Q Go.Proofs.YtcnlcmkhfdpidaaW.PrintWords Go.Proofs.YtcnlcmkhfdpidaaW.PrintMore
def encS (s : Stp) : Value := .complex .f64 (fl s.1) (fl s.2)
abbrev kS : Kd Stp := Kd.scalar encS (fun _ => rfl)
abbrev Steps (w W : World) (v : Value) (p : List Stp) : Prop := Kd.R kS 34 W w.heap.size (fun _ => True) v p
theorem at_step {w : World} {A : Option Addr} {n : Nat} {p : List Stp} (h : kS.C w A n p) (i : Nat) (hi : i < n) : ∃ ad, A = some ad ∧ w.cell? (ad.add i) = some (encS (p.getD i (0, 0))) :=
  ReadsOf.at_ (Kd.reads_of_C (enc := encS) (d := ((0, 0) : Stp)) (h1 := fun _ => rfl) h) (i : Int) (by omega) (by omega)
theorem encS_stay : encS (1, 1) = .complex .f64 4607182418800017408 4607182418800017408 := by unfold encS; rw [fl_one]
theorem encS_goes : encS (1, 0) = .complex .f64 4607182418800017408 0 := by unfold encS; rw [fl_one, fl_zero]
theorem encS_come : encS (0, 1) = .complex .f64 0 4607182418800017408 := by unfold encS; rw [fl_one, fl_zero]
theorem ord11 : FloatKind.f64.format.order 4607182418800017408 4607182418800017408 = some .eq := by kernel_rfl
theorem ord10 : FloatKind.f64.format.order 4607182418800017408 0 = some .gt := by kernel_rfl
theorem ord01 : FloatKind.f64.format.order 0 4607182418800017408 = some .lt := by kernel_rfl
theorem ord00 : FloatKind.f64.format.order 0 0 = some .eq := by kernel_rfl
theorem getD_mem {p : List Stp} {i : Nat} (h : i < p.length) : p.getD i (0, 0) ∈ p := by
  rw [List.getD_eq_getElem?_getD, List.getElem?_eq_getElem h]
  exact List.getElem_mem h
theorem take_snoc {α : Type} (p : List α) (d : α) {i : Nat} (h : i < p.length) : p.take (i + 1) = p.take i ++ [p.getD i d] := by
  rw [List.take_succ_eq_append_getElem h, List.getD_eq_getElem?_getD, List.getElem?_eq_getElem h]
  rfl
theorem same_snoc (p : List Stp) (s : Stp) : same (p ++ [s]) = same p + if s = (1, 1) then 1 else 0 := by
  unfold same
  rw [List.filter_append, List.length_append]
  by_cases h : s = (1, 1)
  · rw [if_pos h]; simp [h]
  · rw [if_neg h]; simp [h]
theorem same_le (p : List Stp) : same p ≤ p.length := List.length_filter_le _ _
set_option maxRecDepth 100000 in
set_option maxHeartbeats 4000000 in
theorem Same (A0 : Option Addr) (c0 : Nat) (p : List Stp) (w : World) (hr : kS.C w A0 p.length p) (hl : p.length ≤ 1000) (hs : ∀ s ∈ p, IsStep s) :
    Calls Try.prog 15 #[.slice A0 p.length c0] w fun e w' => e = .returned (.int .i64 (same p)) ∧ w' = w := by
  have o11 := ord11
  have o10 := ord10
  have o01 := ord01
  have HR := Aside0.mk hr
  have HS := Aside0.mk hs
  have HL := Aside0.mk hl
  clear hr hs hl
  go_enter Try.func15, Try.ntmps15
  go_wp2
  go_loopg [3, 8] p.length (fun kq v3 v8 wr => ∃ i m : Nat, v8 = .int .i64 i ∧ v3 = .int .i64 m ∧ Aside0 (i + kq = p.length ∧ m = same (p.take i)) ∧ wr = w)
  case atStart => exact ⟨0, 0, rfl, rfl, ⟨Nat.zero_add _, rfl⟩, rfl⟩
  case round =>
    obtain ⟨i, m, rfl, rfl, HA, rfl⟩ := hrel
    by_cases c2 : i < p.length
    · have c2b : decide ((i : Int) < (p.length : Int)) = true := decide_eq_true (by omega)
      obtain ⟨ad, e1, hx⟩ := at_step HR.out i c2
      cases e1
      have hs1 := HS.out _ (getD_mem c2)
      have hsn := take_snoc p ((0, 0) : Stp) c2
      have hsm := same_snoc (p.take i) (p.getD i (0, 0))
      rw [← hsn] at hsm
      have hsl := same_le (p.take i)
      rw [List.length_take] at hsl
      have p104 := eq_true (show 0 ≤ (i : Int) by omega)
      have q104 := eq_true (show i < p.length by omega)
      have hib : i < 1000 := by have := HL.out; omega
      have hmb : m < 1000 := by have := HA.out.2; omega
      have HM := Aside0.mk hsm
      have HK := Aside0.mk HA.out
      clear hsm hsl hsn HA c2
      generalize p.getD i (0, 0) = s at *
      rcases hs1 with rfl | rfl | rfl
      · rw [encS_stay] at hx
        go_wp2
        go_roundg (gk - 1)
        case measure => have := HK.out.1; have := of_eq_true q104; omega
        case rel => exact ⟨i + 1, m + 1, by go_num, by go_num, ⟨by have := HK.out.1; have := of_eq_true q104; omega, by rw [HM.out, HK.out.2]; rfl⟩, rfl⟩
      · rw [encS_goes] at hx
        go_wp2
        go_roundg (gk - 1)
        case measure => have := HK.out.1; have := of_eq_true q104; omega
        case rel => exact ⟨i + 1, m, by go_num, rfl, ⟨by have := HK.out.1; have := of_eq_true q104; omega, by rw [HM.out, HK.out.2]; rfl⟩, rfl⟩
      · rw [encS_come] at hx
        go_wp2
        go_roundg (gk - 1)
        case measure => have := HK.out.1; have := of_eq_true q104; omega
        case rel => exact ⟨i + 1, m, by go_num, rfl, ⟨by have := HK.out.1; have := of_eq_true q104; omega, by rw [HM.out, HK.out.2]; rfl⟩, rfl⟩
    · have c2b : decide ((i : Int) < (p.length : Int)) = false := decide_eq_false (by omega)
      have c2n : decide (i < p.length) = false := decide_eq_false c2
      go_wp2
      go_ret
      obtain ⟨h1, h2⟩ := HA.out
      rw [List.take_of_length_le (by omega)] at h2
      exact ⟨by rw [h2]; rfl, rfl⟩
/-- Where the path is after its first steps: one place more than steps. -/
def pts (p : List Stp) (i : Nat) : List Stp := (List.range (i + 1)).map fun j => (px p j, py p j)
theorem pts_length (p : List Stp) (i : Nat) : (pts p i).length = i + 1 := by simp [pts]
theorem px_snoc (p : List Stp) {i : Nat} (h : i < p.length) : px p (i + 1) = px p i + (p.getD i (0, 0)).1 := by
  unfold px
  rw [take_snoc p ((0, 0) : Stp) h, List.map_append, List.sum_append]
  rfl
theorem py_snoc (p : List Stp) {i : Nat} (h : i < p.length) : py p (i + 1) = py p i + (p.getD i (0, 0)).2 := by
  unfold py
  rw [take_snoc p ((0, 0) : Stp) h, List.map_append, List.sum_append]
  rfl
theorem pts_succ (p : List Stp) (i : Nat) : pts p (i + 1) = pts p i ++ [(px p (i + 1), py p (i + 1))] := by
  unfold pts
  rw [List.range_succ, List.map_append]
  rfl
theorem info34 : (Try.prog.info? 34).map (fun i => (i.zero, i.size, i.bytes)) = some (some (.complex .f64 0 0), 1, 16) := rfl
theorem info9 : (Try.prog.info? 9).map (fun i => (i.zero, i.size, i.bytes)) = some (some (.string ⟨#[]⟩), 1, 16) := rfl
theorem steps_any {W : World} {base : Nat} {ok ok' : Nat → Prop} {v : Value} {xs : List Stp} (h : Kd.R kS 34 W base ok v xs) (hk : ∀ k, v.ownBlock = some k → ok' k) : Kd.R kS 34 W base ok' v xs := by
  obtain ⟨h0, inner, ho, hr⟩ := h
  exact ⟨hk, inner, ho, hr⟩
theorem strs_any {W : World} {base : Nat} {ok ok' : Nat → Prop} {v : Value} {xs : List ByteArray} (h : Kd.R Kd.string 9 W base ok v xs) (hk : ∀ k, v.ownBlock = some k → ok' k) : Kd.R Kd.string 9 W base ok' v xs := by
  obtain ⟨h0, inner, ho, hr⟩ := h
  exact ⟨hk, inner, ho, hr⟩
theorem steps_one (w : World) (s : Stp) : Steps w (w.alloc (.cells #[encS s] 34)) (.slice (some ⟨w.heap.size, 0, none⟩) 1 1) [s] := by
  refine ⟨fun _ _ => trivial, [encS s], ?_, ?_⟩
  · have h2 := World.ownsRow_lit (base := w.heap.size) (e := 34) (size := 1) w #[encS s] 1 (Nat.le_refl _) (by decide) rfl
    exact h2
  · exact ⟨rfl, fun j q hj => by
      match j, hj with
      | 0, hj => obtain rfl := Option.some.inj hj; rfl⟩
set_option maxRecDepth 100000 in
set_option maxHeartbeats 4000000 in
theorem Points (A0 : Option Addr) (c0 : Nat) (p : List Stp) (w : World) (hr : kS.C w A0 p.length p) (hl : p.length ≤ 1000) (hs : ∀ s ∈ p, IsStep s) (hx : ∀ i, i ≤ p.length → px p i < 69 ∧ py p i < 69) :
    Calls Try.prog 13 #[.slice A0 p.length c0] w fun e w' => ∃ v, e = .returned v ∧ Steps w w' v (pts p p.length) ∧ Below w.heap.size w w' := by
  have HR := Aside0.mk hr
  have HS := Aside0.mk hs
  have HL := Aside0.mk hl
  have HX := Aside0.mk hx
  clear hr hs hl hx
  go_enter Try.func13, Try.ntmps13
  go_wp2
  have HT := Aside0.mk (steps_one w (0, 0))
  have HB := Aside0.mk (below_alloc (Below.refl w.heap.size w) (.cells #[encS (0, 0)] 34))
  have e0 : Value.complex .f64 0 0 = encS (0, 0) := by unfold encS; rw [fl_zero]
  rw [e0]
  clear e0
  go_loopg [3, 4, 11] p.length (fun kq v3 v4 v11 wr => ∃ i : Nat, v11 = .int .i64 i ∧ v3 = encS (px p i, py p i) ∧ Aside0 (i + kq = p.length) ∧ Aside0 (Steps w wr v4 (pts p i)) ∧ Aside0 (Below w.heap.size w wr))
  case atStart => exact ⟨0, rfl, rfl, ⟨Nat.zero_add _⟩, HT, HB⟩
  case round =>
    obtain ⟨i, rfl, rfl, HK, HT, HB⟩ := hrel
    by_cases c2 : i < p.length
    · have c2b : decide ((i : Int) < (p.length : Int)) = true := decide_eq_true (by omega)
      obtain ⟨ad, e1, hx0⟩ := at_step HR.out i c2
      have HLT := Aside0.mk (World.block_lt_of_cell? w _ hx0)
      have hx := (HB.out.cell HLT.out).trans hx0
      cases e1
      have hs1 := HS.out _ (getD_mem c2)
      have hpx := px_snoc p c2
      have hpy := py_snoc p c2
      have hxy := HX.out i (by omega)
      have hadd := run_add (show px p i < 70 by omega) (show py p i < 70 by omega) hs1.le.1 hs1.le.2 34
      rw [← hpx, ← hpy] at hadd
      have p104 := eq_true (show 0 ≤ (i : Int) by omega)
      have q104 := eq_true (show i < p.length by omega)
      have hib : i < 1000 := by have := HL.out; omega
      have HP := Aside0.mk (pts_succ p i)
      have HL2 := Aside0.mk (show ((pts p i).length + 1) * 16 ≤ 140737488355328 by rw [pts_length]; omega)
      clear hs1 hpx hpy hxy hx0 c2
      generalize p.getD i (0, 0) = s at *
      rw [show encS s = .complex .f64 (fl s.1) (fl s.2) from rfl] at hx
      rw [show encS (px p i, py p i) = .complex .f64 (fl (px p i)) (fl (py p i)) from rfl]
      go_wp2_with (first | ((with_reducible refine gate_builtin (b := .append) (xs := #[.tmp 18, .tmp 20]) rfl ?_); at_builtin; refine Kd.R_append kS (w0 := w) w.heap.size rfl (.tmp 18) (.tmp 20) 25 34 (.complex .f64 0 0) 16 rfl Try.underlying25 info34 rfl (by decide) (by omega) u4 (pts p i) (px p (i + 1), py p (i + 1)) [encS (px p (i + 1), py p (i + 1))] (fun _ => True) (fun _ => False) rfl rfl rfl (fun _ hk => hk.elim) (fun _ _ => trivial) HT.out HB.out HB.out.size HL2.out ?_; intro v9 w9 ho9 hb9 hg9 hat9; rw [← HP.out] at ho9; have HT2 := Aside0.mk ho9; have HB2 := Aside0.mk hb9; clear ho9 hb9 hg9 hat9 HT HB HL2 HP))
      go_roundg (gk - 1)
      case measure => have := HK.out; have := of_eq_true q104; omega
      case rel => exact ⟨i + 1, by go_num, rfl, ⟨by have := HK.out; have := of_eq_true q104; omega⟩, HT2, HB2⟩
    · have c2b : decide ((i : Int) < (p.length : Int)) = false := decide_eq_false (by omega)
      have c2n : decide (i < p.length) = false := decide_eq_false c2
      have HE := Aside0.mk (show i = p.length by have := HK.out; omega)
      clear c2 HK
      go_wp2
      go_ret
      obtain rfl := HE.out
      exact ⟨_, rfl, HT.out, HB.out⟩
end Go.Proofs.Ytcnlcmkhfdpidaa.Grid
