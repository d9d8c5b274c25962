/- Comes: its walk. -/
import Derived.Test.YtcnlcmkhfdpidaaSteps
namespace Go.Proofs.Ytcnlcmkhfdpidaa.Grid
set_option linter.unusedVariables false
set_option linter.unusedSimpArgs false
open Go.RowKit Go.Proofs.Ytcnlcmkhfdpidaa.Q Go.Proofs.YtcnlcmkhfdpidaaW.PrintWords Go.Proofs.YtcnlcmkhfdpidaaW.PrintMore
abbrev Strs (w W : World) (v : Value) (l : List ByteArray) : Prop := Kd.R Kd.string 9 W w.heap.size (fun _ => True) v l
theorem cms_cons (b : List ByteArray) (s : Stp) (p : List Stp) (y : Nat) : cms b y (s :: p) = if s = (0, 1) ∧ y < b.length then rt b y :: cms b (y + s.2) p else cms b (y + s.2) p := rfl
theorem cms_append (b : List ByteArray) : ∀ (p q : List Stp) y, cms b y (p ++ q) = cms b y p ++ cms b (y + (p.map Prod.snd).sum) q
  | [], q, y => by simp [cms]
  | s :: p, q, y => by
    have ih := cms_append b p q (y + s.2)
    rw [List.cons_append, cms_cons, cms_cons, ih, List.map_cons, List.sum_cons, Nat.add_assoc]
    split <;> rfl
theorem cms_snoc (b : List ByteArray) (p : List Stp) {i : Nat} (h : i < p.length) : cms b 0 (p.take (i + 1)) = cms b 0 (p.take i) ++ if p.getD i (0, 0) = (0, 1) ∧ py p i < b.length then [rt b (py p i)] else [] := by
  rw [take_snoc p ((0, 0) : Stp) h, cms_append, Nat.zero_add]
  congr 1
theorem cms_len (b : List ByteArray) : ∀ (p : List Stp) y, (cms b y p).length ≤ p.length
  | [], _ => Nat.le_refl _
  | s :: p, y => by
    have := cms_len b p (y + s.2)
    unfold cms
    split <;> simp only [List.length_cons] <;> omega
theorem pts_get (p : List Stp) {i n : Nat} (h : i ≤ n) : (pts p n).getD i (0, 0) = (px p i, py p i) := by
  unfold pts
  rw [List.getD_eq_getElem?_getD, List.getElem?_map, List.getElem?_range (by omega)]
  rfl
theorem geq_bool {n : Nat} (h : n < 70) : (FloatKind.f64.format.order (fl n) 0 == some Ordering.gt || FloatKind.f64.format.order (fl n) 0 == some Ordering.eq) = true := by
  have h1 := order_at h (show 0 < 70 by decide)
  rw [fl_zero] at h1
  rw [h1]
  exact cmp_ge n
theorem lss_bool {n m : Nat} (h : n < 70) (h' : m < 70) : (FloatKind.f64.format.order (fl n) (fl m) == some Ordering.lt) = decide (n < m) := by
  rw [order_at h h']
  exact cmp_lt n m
set_option maxRecDepth 100000 in
set_option maxHeartbeats 4000000 in
theorem Comes (A0 : Option Addr) (c0 : Nat) (b : List ByteArray) (A1 : Option Addr) (c1 : Nat) (p : List Stp) (w : World) (hb : Kd.C Kd.string w A0 b.length b) (hr : kS.C w A1 p.length p) (hn : b.length < 70) (hl : p.length ≤ 1000) (hs : ∀ s ∈ p, IsStep s) (hx : ∀ i, i ≤ p.length → px p i < 69 ∧ py p i < 69) :
    Calls Try.prog 11 #[.slice A0 b.length c0, .slice A1 p.length c1] w fun e w' => ∃ v, e = .returned v ∧ Strs w w' v (cms b 0 p) ∧ Below w.heap.size w w' := by
  have o11 := ord11
  have o10 := ord10
  have o01 := ord01
  have o00 := ord00
  have HS' := Aside0.mk hb
  have HR := Aside0.mk hr
  have HS := Aside0.mk hs
  have HL := Aside0.mk hl
  have HX := Aside0.mk hx
  have HN := Aside0.mk hn
  clear hr hs hl hx hb hn
  go_enter Try.func11, Try.ntmps11
  go_wp2_with fail
  refine (Points A1 c1 p w HR.out HL.out HS.out HX.out).mono ?_
  rintro e w1 ⟨v1, rfl, hp, hbl⟩
  obtain ⟨A2, c2, rfl⟩ := Kd.R_slice hp
  have HP := Aside0.mk (Kd.R_reads' hp).2.2
  have hpl : (pts p p.length).length = p.length + 1 := pts_length p p.length
  have HB := Aside0.mk hbl
  clear hp hbl
  go_wp2_with fail
  go_loopg [5, 14] p.length (fun kq v5 v14 wr => ∃ i : Nat, v14 = .int .i64 i ∧ Aside0 (i + kq = p.length) ∧ Aside0 (Kd.R Kd.string 9 wr w1.heap.size (fun _ => True) v5 (cms b 0 (p.take i))) ∧ Aside0 (Below w1.heap.size w1 wr ∧ Below w.heap.size w wr))
  case atStart => exact ⟨0, rfl, ⟨Nat.zero_add _⟩, ⟨Kd.R_nil _ _ _ _ _⟩, ⟨Below.refl _ _, HB.out⟩⟩
  case round =>
    obtain ⟨i, rfl, HK, HT, HBB⟩ := hrel
    by_cases c2 : i < p.length
    · have c2b : decide ((i : Int) < (p.length : Int)) = true := decide_eq_true (by omega)
      obtain ⟨ad, e1, hx0⟩ := at_step HR.out i c2
      have HLT := Aside0.mk (World.block_lt_of_cell? w _ hx0)
      have hx := (HBB.out.2.cell HLT.out).trans hx0
      cases e1
      obtain ⟨ad2, e1, hy0⟩ := at_step HP.out i (by rw [hpl]; omega)
      rw [pts_get p (show i ≤ p.length by omega)] at hy0
      have HLT2 := Aside0.mk (World.block_lt_of_cell? w1 _ hy0)
      have hy := (HBB.out.1.cell HLT2.out).trans hy0
      cases e1
      have hs1 := HS.out _ (getD_mem c2)
      have hxy := HX.out i (by omega)
      have p104 := eq_true (show 0 ≤ (i : Int) by omega)
      have q104 := eq_true (show i < p.length by omega)
      have q105 := eq_true (show i < p.length + 1 by omega)
      have q106 := eq_true (show (i : Int) < (p.length : Int) + 1 by omega)
      have hib : i < 1000 := by have := HL.out; omega
      have HP2 := Aside0.mk (cms_snoc b p c2)
      have HL2 := Aside0.mk (show ((cms b 0 (p.take i)).length + 1) * 16 ≤ 140737488355328 by have := cms_len b (p.take i) 0; rw [List.length_take] at this; omega)
      rw [show encS (px p i, py p i) = .complex .f64 (fl (px p i)) (fl (py p i)) from rfl] at hy
      have hy70 : py p i < 70 := by omega
      have rg := geq_bool hy70
      have rl := lss_bool hy70 HN.out
      have ri := run_int hy70
      have rf := run_float b.length
      clear hx0 hy0 hxy c2
      generalize p.getD i (0, 0) = s at *
      generalize hpy : py p i = y at *
      rcases hs1 with rfl | rfl | rfl
      · rw [encS_stay] at hx
        rw [if_neg (fun q => absurd q.1 (by decide)), List.append_nil] at HP2
        go_wp2
        go_roundg (gk - 1)
        case measure => have := HK.out; have := of_eq_true q104; omega
        case rel => exact ⟨i + 1, by go_num, ⟨by have := HK.out; have := of_eq_true q104; omega⟩, ⟨by rw [HP2.out]; exact HT.out⟩, HBB⟩
      · rw [encS_goes] at hx
        rw [if_neg (fun q => absurd q.1 (by decide)), List.append_nil] at HP2
        go_wp2
        go_roundg (gk - 1)
        case measure => have := HK.out; have := of_eq_true q104; omega
        case rel => exact ⟨i + 1, by go_num, ⟨by have := HK.out; have := of_eq_true q104; omega⟩, ⟨by rw [HP2.out]; exact HT.out⟩, HBB⟩
      · rw [encS_come] at hx
        by_cases c3 : y < b.length
        · rw [if_pos ⟨rfl, c3⟩] at HP2
          have c3b : decide ((y : Int) < (b.length : Int)) = true := decide_eq_true (by omega)
          have c3n : decide (y < b.length) = true := decide_eq_true c3
          have rl2 := rl.trans c3n
          obtain ⟨ad3, e1, hz0⟩ := Kd.at_string HS'.out (y : Int) (by omega) (by omega)
          have hz1 : w.cell? (ad3.add y) = some (.string (rt b y)) := hz0
          have HLT3 := Aside0.mk (World.block_lt_of_cell? w _ hz1)
          have hz := (HBB.out.2.cell HLT3.out).trans hz1
          cases e1
          have p106 := eq_true (show 0 ≤ (y : Int) by omega)
          have q107 := eq_true (show y < b.length by omega)
          have q108 := eq_true (show (y : Int) < (b.length : Int) by omega)
          clear hz0 hz1 c3
          generalize rt b y = T1 at *
          go_wp2_with (first | ((with_reducible refine gate_builtin (b := .append) (xs := #[.tmp 37, .tmp 43]) rfl ?_); at_builtin; refine Kd.R_append Kd.string (w0 := w1) w1.heap.size rfl (.tmp 37) (.tmp 43) 22 9 (.string ⟨#[]⟩) 16 rfl Try.underlying22 info9 rfl (by decide) (by omega) u5 (cms b 0 (p.take i)) T1 [.string T1] (fun _ => True) (fun _ => False) rfl rfl rfl (fun _ hk => hk.elim) (fun _ _ => trivial) HT.out HBB.out.1 HBB.out.1.size HL2.out ?_; intro v9 w9 ho9 hb9 hg9 hat9; rw [← HP2.out] at ho9; have HT2 := Aside0.mk ho9; have HB2 := Aside0.mk hb9; have HG9 := Aside0.mk hg9; clear ho9 hb9 hg9 hat9 HL2 HP2))
          go_roundg (gk - 1)
          case measure => have := HK.out; have := of_eq_true q104; omega
          case rel => exact ⟨i + 1, by go_num, ⟨by have := HK.out; have := of_eq_true q104; omega⟩, HT2, ⟨HB2.out, below_step HB.out HB2.out⟩⟩
        · rw [if_neg (fun q => c3 q.2), List.append_nil] at HP2
          have c3b : decide ((y : Int) < (b.length : Int)) = false := decide_eq_false (by omega)
          have c3n : decide (y < b.length) = false := decide_eq_false c3
          have rl2 := rl.trans c3n
          clear c3
          go_wp2
          go_roundg (gk - 1)
          case measure => have := HK.out; have := of_eq_true q104; omega
          case rel => exact ⟨i + 1, by go_num, ⟨by have := HK.out; have := of_eq_true q104; omega⟩, ⟨by rw [HP2.out]; exact HT.out⟩, HBB⟩
    · have c2b : decide ((i : Int) < (p.length : Int)) = false := decide_eq_false (by omega)
      have c2n : decide (i < p.length) = false := decide_eq_false c2
      have HE := Aside0.mk (show i = p.length by have := HK.out; omega)
      clear c2 HK
      go_wp2
      go_ret
      obtain rfl := HE.out
      rw [List.take_of_length_le (Nat.le_refl _)] at HT
      exact ⟨_, rfl, Kd.R_lower HT.out HB.out.size, HBB.out.2⟩
end Go.Proofs.Ytcnlcmkhfdpidaa.Grid
