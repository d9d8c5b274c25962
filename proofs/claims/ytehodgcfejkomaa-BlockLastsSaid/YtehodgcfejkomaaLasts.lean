/- BlockLasts: the walk of its body: for every input it returns true, and makes memory alone. No condition. -/
import Derived.Test.YtehodgcfejkomaaMays
import Derived.Test.YtehodgcfejkomaaOpen
import Derived.StillTailTactics
namespace Go.Proofs.Ytehodgcfejkomaa.Disk
set_option linter.unusedVariables false
set_option linter.unusedSimpArgs false
open Go.RowKit Go.Proofs.Ytehodgcfejkomaa.Q Go.Proofs.YtehodgcfejkomaaW.PrintWords Go.Proofs.YtehodgcfejkomaaW.PrintLast Go.Proofs.YtehodgcfejkomaaW.PrintMore
theorem May.after {w0 w w' : World} {q : Nat} {V : Nat → Value} {L : Nat → List ByteArray} (h : May w0 w q V L) (j : Nat) (hj : j < 6) (hg : w.grownBy w' (V j).ownBlock) : w'.heap[q]? = some (.cells (arrV V) 38 (0, 0)) :=
  (hg.block q (heap_lt h.blk) (fun e => h.neq j hj q e.symm rfl)).trans h.blk
theorem len_one (l : List ByteArray) (s : ByteArray) : (l ++ [s]).length = l.length + 1 := by simp
/-- A text behind one of the rows: the disk and the rows. -/
theorem may_put {w0 w w' : World} {g b q : Nat} {D : Dk} {V : Nat → Value} {L : Nat → List ByteArray} (hd : Disk w0 w g b D) (h : May w0 w q V L) (j : Nat) (hj : j < 6) {v : Value} {s : ByteArray} (ho : Texts w0 w' v (L j ++ [s])) (hg : w.grownBy w' (V j).ownBlock) (hat : v.ownBlock = (V j).ownBlock ∨ ∃ k, v.ownBlock = some k ∧ w.heap.size ≤ k) :
    Disk w0 (w'.setCell ⟨q, j, none⟩ v) g b D ∧ May w0 (w'.setCell ⟨q, j, none⟩ v) q (fun t => if t = j then v else V t) (fun t => if t = j then L j ++ [s] else L t) :=
  ⟨(hd.grown hg (fun k hk => ⟨(texts_typed (h.rows j hj) k hk).1, (texts_typed (h.rows j hj) k hk).2.1⟩)).set_other (h.after j hj hg) (by decide) (by decide) h.ge _ _, h.grown j hj ho hg hat⟩
theorem rd33_mem (l : List S33) (i : Nat) (h : i < l.length) : rd_T33 l (i : Int) ∈ l := by
  unfold rd_T33
  rw [List.getD_eq_getElem?_getD, Int.toNat_natCast, List.getElem?_eq_getElem h]
  exact List.getElem_mem h
theorem infoS : (Try.prog.info? 9).map (fun i => (i.zero, i.size, i.bytes)) = some (some (.string ⟨#[]⟩), 1, 16) := by kernel_rfl
set_option maxRecDepth 100000 in
set_option maxHeartbeats 32000000 in
theorem lasts_walk (A0 : Option Addr) (c0 : Nat) (l : List S33) (A1 : Option Addr) (c1 : Nat) (r : List S33) (keep : Int) (w : World) (hr : Kd.C k33 w A0 l.length l) (hc : l.length ≤ c0) (k : Nat) (hk : snapferrylaw03_Few.f k l = some true) (hl : l.length ≤ 200)
    (hr1 : Kd.C k33 w A1 r.length r) (hc1 : r.length ≤ c1) (k1 : Nat) (hk1 : snapferrylaw03_Few.f k1 r = some true) (hl1 : r.length ≤ 200) (h0 : 0 ≤ keep) (h1 : keep < 18446744073709551616) (hok : ∀ y ∈ r, Open.ActOk y) :
    Calls Try.prog 3 #[.slice A0 l.length c0, .slice A1 r.length c1, .int .u64 keep] w fun e w' => e = .returned (.bool true) ∧ Below w.heap.size w w' := by
  have hu33 := Try.underlying33
  have hu31 := Try.underlying31
  have hu38 := Try.underlying38
  have HR := Aside0.mk hr
  have HC := Aside0.mk hc
  have HK := Aside0.mk hk
  have HR1 := Aside0.mk hr1
  have HC1 := Aside0.mk hc1
  have HK1 := Aside0.mk hk1
  have HKP := Aside0.mk (⟨h0, h1⟩ : _ ∧ _)
  have HOK := Aside0.mk hok
  clear hr hc hk hr1 hc1 hk1 h0 h1 hok
  go_enter Try.func3, Try.ntmps3
  go_wp2_with fail
  refine (awake _).mono ?_
  rintro e w1 ⟨rfl, hb1⟩
  have HB1 := Aside0.mk hb1
  clear hb1
  go_wp2_with fail
  refine (snapferrylaw03_Few.calls k _ _ l true _ (Kd.C_below HR.out HB1.out) HC.out HK.out).mono ?_
  rintro e w2 ⟨rfl, hd⟩
  have HB2 := Aside0.mk (show Below w.heap.size w w2 by obtain ⟨n, rfl⟩ := hd.out; exact pw_below_drewN HB1.out n)
  clear hd HB1
  go_wp2_with fail
  refine (snapferrylaw03_Few.calls k1 _ _ r true _ (Kd.C_below HR1.out HB2.out) HC1.out HK1.out).mono ?_
  rintro e w3 ⟨rfl, hd⟩
  have HB3 := Aside0.mk (show Below w.heap.size w w3 by obtain ⟨n, rfl⟩ := hd.out; exact pw_below_drewN HB2.out n)
  clear hd HB2
  go_wp2_with fail
  refine (New HB3.out 6 (by decide) (by decide)).mono ?_
  rintro e w4 ⟨rfl, hd4, hb4⟩
  have HD := Aside0.mk hd4
  have HF := Aside0.mk (newD_fit (n := 6) (by decide) (by decide))
  have HL := Aside0.mk (Live.new 6)
  clear hd4 hb4
  generalize newD 6 = D0 at *
  generalize w3.heap.size + 1 = g at *
  generalize w3.heap.size = b at *
  go_wp2_with fail
  go_loopg [9] l.length (fun kq v9 wr => ∃ i : Nat, v9 = .int .i64 i ∧ Aside0 (i + kq = l.length ∧ ∃ D, Disk w wr g b D ∧ Fit D (2 * i) ∧ Live D 6))
  case atStart => exact ⟨0, rfl, ⟨Nat.zero_add _, D0, HD.out, HF.out, HL.out⟩⟩
  case round =>
    obtain ⟨i, rfl, HA⟩ := hrel
    clear HD HF HL
    by_cases c2 : i < l.length
    · have c2b : decide ((i : Int) < (l.length : Int)) = true := decide_eq_true (by omega)
      have c2n : decide (i < l.length) = true := decide_eq_true c2
      obtain ⟨hkk, D, hd, hft, hlv⟩ := HA.out
      have hib : i < 200 := by omega
      have HI := Aside0.mk c2
      obtain ⟨ad, e1, hx0_, hx1_, hx2_, hx3_, hx4_⟩ := at_T33 HR.out (i : Int) (by omega) (by omega)
      cases e1
      have y0 := Aside0.mk (show w.cell? (ad.add (i * 5)) = some (.int .i64 (rd_T33 l (i : Int)).f0) from hx0_)
      have y1 := Aside0.mk (show w.cell? ⟨(ad.add (i * 5)).block, (ad.add (i * 5)).off + 1, none⟩ = some (.int .i64 (rd_T33 l (i : Int)).f1) from hx1_)
      have y2 := Aside0.mk (show w.cell? ⟨(ad.add (i * 5)).block, (ad.add (i * 5)).off + 2, none⟩ = some (.string (rd_T33 l (i : Int)).f2) from hx2_)
      have LT0 := Aside0.mk (show (ad.add (i * 5)).block < w.heap.size from World.block_lt_of_cell? w _ hx0_)
      have p104 := eq_true (show 0 ≤ (i : Int) by omega)
      have q104 := eq_true (show i < l.length by omega)
      clear hx0_ hx1_ hx2_ hx3_ hx4_
      generalize rd_T33 l (i : Int) = X at *
      have z0 := (hd.below.cell LT0.out).trans y0.out
      have z1 := (Below.cell hd.below (p := ⟨(ad.add (i * 5)).block, (ad.add (i * 5)).off + 1, none⟩) LT0.out).trans y1.out
      have z2 := (Below.cell hd.below (p := ⟨(ad.add (i * 5)).block, (ad.add (i * 5)).off + 2, none⟩) LT0.out).trans y2.out
      have HD1 := Aside0.mk hd
      have HF1 := Aside0.mk hft
      have HL1 := Aside0.mk hlv
      clear hkk hd hft hlv c2
      by_cases hkd : X.f0 = 0
      · have d1 : (X.f0 == 0) = true := beq_iff_eq.2 hkd
        clear hkd
        go_wp2_with fail
        go_still_tail 11, (by kernel_rfl)
        change wpList _ _ _ _ _ wr.drew
        go_wp2_with fail
        refine (Write (HD1.out.step (below_drew1 (Below.refl wr.heap.size wr))) HF1.out (by omega) X.f1 X.f2).mono ?_
        rintro e w4 ⟨rfl, hd4, _⟩
        have HD4 := Aside0.mk hd4
        clear hd4 z0 z1 z2
        go_wp2_with fail
        go_roundg (gk - 1)
        case measure => have := HA.out.1; have := HI.out; omega
        case rel => exact ⟨i + 1, by go_num, ⟨by have := HA.out.1; have := HI.out; omega, _, HD4.out, HF1.out.write _ _, HL1.out.write _ _⟩⟩
      · have d1 : (X.f0 == 0) = false := beq_eq_false_iff_ne.2 hkd
        clear hkd
        go_wp2_with fail
        go_roundg (gk - 1)
        case measure => have := HA.out.1; have := HI.out; omega
        case rel => exact ⟨i + 1, by go_num, ⟨by have := HA.out.1; have := HI.out; omega, _, HD1.out, HF1.out.mono (by omega), HL1.out⟩⟩
    · have c2b : decide ((i : Int) < (l.length : Int)) = false := decide_eq_false (by omega)
      have c2n : decide (i < l.length) = false := decide_eq_false c2
      obtain ⟨hkk, Da, hd, hft, hlv⟩ := HA.out
      have HD1 := Aside0.mk hd
      have HF1 := Aside0.mk (hft.mono (m := 400) (by omega))
      have HFL := Aside0.mk hlv.flush
      have HWN := Aside0.mk (show (flushD Da).wait = [] by rw [hlv.flush.2.1]; rfl)
      have HWT := Aside0.mk (show ((flushD Da).wait.length : Int) = 0 by rw [HWN.out]; rfl)
      clear hkk hd hft hlv c2 HA
      go_wp2_with fail
      refine (Flush HD1.out HF1.out (by decide)).mono ?_
      rw [HFL.out.1]
      rintro e w5 ⟨rfl, hd5, _⟩
      have HD5 := Aside0.mk hd5
      have HF5 := Aside0.mk HF1.out.flush
      have HL5 := Aside0.mk HFL.out.2.2
      clear hd5
      go_wp2_with fail
      refine (Waiting HD5.out).mono ?_
      rw [HWT.out]
      rintro e w6 ⟨rfl, rfl⟩
      clear HFL HWT HD1 HF1
      generalize flushD Da = D at *
      go_wp2_with fail
      have HQ := Aside0.mk (show May w (w6.alloc (.cells #[.slice none 0 0, .slice none 0 0, .slice none 0 0, .slice none 0 0, .slice none 0 0, .slice none 0 0] 38)) w6.heap.size (fun _ => .slice none 0 0) (fun t => if t < 0 then [seenD D (t : Int)] else []) from
        ⟨blk_new _ _, HD5.out.below.size, fun j hj => Kd.R_nil _ _ _ _ _, fun i j hi hj hij k hk => by simp [Value.ownBlock] at hk⟩)
      have HD2 := Aside0.mk (HD5.out.step (below_alloc (Below.refl _ _) (.cells #[.slice none 0 0, .slice none 0 0, .slice none 0 0, .slice none 0 0, .slice none 0 0, .slice none 0 0] 38)))
      generalize w6.alloc (.cells #[.slice none 0 0, .slice none 0 0, .slice none 0 0, .slice none 0 0, .slice none 0 0, .slice none 0 0] 38) = W1 at *
      generalize w6.heap.size = q at *
      clear HD5
      obtain ⟨wo, rfl⟩ : ∃ W, W = wr := ⟨_, rfl⟩
      go_loopg [11] 6 (fun kq v11 w' => ∃ (j : Nat) (V : Nat → Value) (L : Nat → List ByteArray), v11 = .int .i64 j ∧ Aside0 (j + kq = 6 ∧ Disk w w' g b D ∧ May w w' q V L ∧ ∀ t, t < 6 → L t = if t < j then [seenD D (t : Int)] else []))
      case atStart => exact ⟨0, _, _, rfl, ⟨rfl, HD2.out, HQ.out, fun t ht => rfl⟩⟩
      case round =>
        obtain ⟨j, V, L, rfl, HA2⟩ := hrel
        clear HD2 HQ
        by_cases c3 : j < 6
        · have c3b : decide ((j : Int) < 6) = true := decide_eq_true (by omega)
          have c3n : decide (j < 6) = true := decide_eq_true c3
          have hjb : j < 100 := by omega
          have p0 := eq_true (show 0 ≤ (j : Int) by omega)
          have p1 := eq_true (show (j : Int) < 6 by omega)
          obtain ⟨hkk, hd, hmy, hLj⟩ := HA2.out
          have HJ := Aside0.mk c3
          have HRD := Aside0.mk (HL5.out.reads (j : Int) (by omega) (by omega))
          have HD6 := Aside0.mk hd
          have HLJ := Aside0.mk hLj
          have hwf : (Lit.int .i64 (j : Int)).wf = true := WalkArith.wf_i64 (by omega)
          have HW := Aside0.mk hwf
          have HNIL := Aside0.mk (show L j = [] by rw [hLj j c3, if_neg (by omega)])
          obtain ⟨Aj, cj, hVj⟩ := Kd.R_slice (hmy.rows j c3)
          have hcl := (hmy.cell j c3).trans (congrArg some hVj)
          have hfr := blk_frozen hmy.blk j
          have HM6 := Aside0.mk hmy
          have HVJ := Aside0.mk hVj
          clear hkk hd hmy hLj hwf c3 hVj
          go_wp2_with fail
          refine (Read HD6.out HF5.out (by decide) (j : Int) HW.out).mono ?_
          rw [HRD.out.1, HRD.out.2]
          rintro e w7 ⟨rfl, rfl⟩
          have HSS := Aside0.mk (seen_size HF5.out.ok (j : Int))
          generalize hF : seenD D (j : Int) = F at *
          have HFE := Aside0.mk hF
          clear hF
          have HAP := Aside0.mk (show Kd.R Kd.string 9 w7 w.heap.size (fun _ => True) (.slice Aj (L j).length cj) (L j) from HVJ.out ▸ HM6.out.rows j HJ.out)
          have HLL := Aside0.mk (show ((L j).length + 1) * 16 ≤ 140737488355328 by rw [HNIL.out]; decide)
          go_wp2_with ((with_reducible refine gate_builtin (b := .append) (xs := #[.tmp 88, .tmp 90]) rfl ?_); at_builtin; refine Kd.R_append Kd.string (w0 := w) w.heap.size rfl (.tmp 88) (.tmp 90) 37 9 (.string ⟨#[]⟩) 16 rfl Try.underlying37 infoS rfl (by decide) (by omega) (.slice Aj (L j).length cj) (L j) F [.string F] (fun _ => True) (fun _ => False) rfl rfl ?aP (fun _ hk => hk.elim) (fun _ _ => trivial) HAP.out HD6.out.below HD6.out.below.size ?aL ?_; (case aP => exact rfl); (case aL => exact HLL.out); intro v9 w9 ho9 hb9 hg9 hat9; obtain ⟨A9, c9, rfl⟩ := Kd.R_slice ho9; have hgV : w7.grownBy w9 (V j).ownBlock := (by rw [HVJ.out]; exact hg9); have HX9 := Aside0.mk (⟨ho9, hb9, hgV, hat9⟩ : _ ∧ _ ∧ _ ∧ _); clear ho9 hb9 hg9 hat9; have hc9 : w9.cell? ⟨q, j, none⟩ = some (.slice Aj (L j).length cj) := (blk_cell (HM6.out.after j HJ.out hgV) j).trans ((arrV_get V j HJ.out).trans (congrArg some HVJ.out)); have hf9 : w9.frozen? ⟨q, j, none⟩ = false := blk_frozen (HM6.out.after j HJ.out hgV) j; clear hgV)
          have eL := len_one (L j) F
          have HPT := Aside0.mk (may_put HD6.out HM6.out j HJ.out HX9.out.1 HX9.out.2.2.1 (by rw [HVJ.out]; exact HX9.out.2.2.2))
          go_roundg (gk - 1)
          case measure => have := HA2.out.1; have := HJ.out; omega
          case rel => exact ⟨j + 1, _, _, by go_num, ⟨by have := HA2.out.1; have := HJ.out; omega, by rw [← eL]; exact HPT.out.1, by rw [← eL]; exact HPT.out.2, fun t ht => by
            by_cases e : t = j
            · subst e
              rw [if_pos rfl, if_pos (by omega), HNIL.out, HFE.out]
              rfl
            · rw [if_neg e, HLJ.out t ht]
              by_cases h : t < j
              · rw [if_pos h, if_pos (by omega)]
              · rw [if_neg h, if_neg (by omega)]⟩⟩
        · have c3b : decide ((j : Int) < 6) = false := decide_eq_false (by omega)
          have c3n : decide (j < 6) = false := decide_eq_false c3
          obtain ⟨hkk, hd, hmy, hLj⟩ := HA2.out
          have HD6 := Aside0.mk hd
          have HM6 := Aside0.mk hmy
          have HTL := Aside0.mk (show Told D L (fun t => seenD D (t : Int)) 0 from ⟨(fun p hp => by rw [HWN.out] at hp; cases hp), (fun t ht => by unfold seenD; rw [HWN.out]; rfl), (fun t ht => ⟨[], by rw [hLj t ht, if_pos (by omega)]⟩), (fun t ht => by rw [hLj t ht, if_pos (by omega)]; exact Nat.le_refl _)⟩)
          generalize (fun t : Nat => seenD D (t : Int)) = B at *
          clear hkk hd hmy hLj c3 HA2 HWN
          go_wp2_with fail
          obtain ⟨w80, rfl⟩ : ∃ W, W = wr := ⟨_, rfl⟩
          go_loopg [14] r.length (fun kq v14 w' => ∃ (i : Nat), v14 = .int .i64 i ∧ Aside0 (i + kq = r.length ∧ ∃ (D' : Dk) (V : Nat → Value) (L : Nat → List ByteArray), Disk w w' g b D' ∧ Fit D' (401 + 2 * i) ∧ Live D' 6 ∧ May w w' q V L ∧ Told D' L B i))
          case atStart => exact ⟨0, rfl, ⟨Nat.zero_add _, D, V, L, HD6.out, HF5.out, HL5.out, HM6.out, HTL.out⟩⟩
          case round =>
            obtain ⟨i2, rfl, HA3⟩ := hrel
            clear HD6 HF5 HL5 HM6 HTL
            by_cases c4 : i2 < r.length
            · have c4b : decide ((i2 : Int) < (r.length : Int)) = true := decide_eq_true (by omega)
              have c4n : decide (i2 < r.length) = true := decide_eq_true c4
              obtain ⟨hkk, D9, V9, L9, hd, hft, hlv, hmy, htl⟩ := HA3.out
              have hib2 : i2 < 200 := by omega
              have HI2 := Aside0.mk c4
              obtain ⟨ad1, e1, hx0_, hx1_, hx2_, hx3_, hx4_⟩ := at_T33 HR1.out (i2 : Int) (by omega) (by omega)
              cases e1
              have y0 := Aside0.mk (show w.cell? (ad1.add (i2 * 5)) = some (.int .i64 (rd_T33 r (i2 : Int)).f0) from hx0_)
              have y1 := Aside0.mk (show w.cell? ⟨(ad1.add (i2 * 5)).block, (ad1.add (i2 * 5)).off + 1, none⟩ = some (.int .i64 (rd_T33 r (i2 : Int)).f1) from hx1_)
              have y2 := Aside0.mk (show w.cell? ⟨(ad1.add (i2 * 5)).block, (ad1.add (i2 * 5)).off + 2, none⟩ = some (.string (rd_T33 r (i2 : Int)).f2) from hx2_)
              have y3 := Aside0.mk (show w.cell? ⟨(ad1.add (i2 * 5)).block, (ad1.add (i2 * 5)).off + 3, none⟩ = some (.int .i64 (rd_T33 r (i2 : Int)).f3.f0) from hx3_)
              have y4 := Aside0.mk (show w.cell? ⟨(ad1.add (i2 * 5)).block, (ad1.add (i2 * 5)).off + 4, none⟩ = some (.int .u64 (rd_T33 r (i2 : Int)).f3.f1) from hx4_)
              have LT1 := Aside0.mk (show (ad1.add (i2 * 5)).block < w.heap.size from World.block_lt_of_cell? w _ hx0_)
              have p204 := eq_true (show 0 ≤ (i2 : Int) by omega)
              have q204 := eq_true (show i2 < r.length by omega)
              have HYK := Aside0.mk (HOK.out _ (rd33_mem r i2 (by omega)))
              clear hx0_ hx1_ hx2_ hx3_ hx4_
              generalize rd_T33 r (i2 : Int) = Y at *
              obtain ⟨Yk, Yx, Ys, ⟨Yca, Yck⟩⟩ := Y
              dsimp only at y0 y1 y2 y3 y4
              have z0 := (hd.below.cell LT1.out).trans y0.out
              have z1 := (Below.cell hd.below (p := ⟨(ad1.add (i2 * 5)).block, (ad1.add (i2 * 5)).off + 1, none⟩) LT1.out).trans y1.out
              have z2 := (Below.cell hd.below (p := ⟨(ad1.add (i2 * 5)).block, (ad1.add (i2 * 5)).off + 2, none⟩) LT1.out).trans y2.out
              have z3 := (Below.cell hd.below (p := ⟨(ad1.add (i2 * 5)).block, (ad1.add (i2 * 5)).off + 3, none⟩) LT1.out).trans y3.out
              have z4 := (Below.cell hd.below (p := ⟨(ad1.add (i2 * 5)).block, (ad1.add (i2 * 5)).off + 4, none⟩) LT1.out).trans y4.out
              have HD9 := Aside0.mk hd
              have HF9 := Aside0.mk hft
              have HL9 := Aside0.mk hlv
              have HM9 := Aside0.mk hmy
              have HT9 := Aside0.mk htl
              clear hkk hd hft hlv hmy htl c4
              by_cases hkd : Yk = 0
              · have d1 : (Yk == 0) = true := beq_iff_eq.2 hkd
                clear hkd
                by_cases hin : 0 ≤ Yx ∧ Yx < 6 ∧ Ys.size ≤ 32
                · obtain ⟨x, rfl⟩ : ∃ x : Nat, Yx = (x : Int) := ⟨Yx.toNat, by omega⟩
                  have hx6 : x < 6 := by omega
                  have HX6 := Aside0.mk hx6
                  have HWI := Aside0.mk (HL9.out.write_in (x := (x : Int)) (by omega) (by omega) hin.2.2)
                  have HT10 := Aside0.mk (show Told (writeD D9 (x : Int) Ys) (fun t => if t = x then L9 x ++ [fillB Ys] else L9 t) B (i2 + 1) by rw [HWI.out.2.1]; exact HT9.out.write x hx6 Ys)
                  have HRD := Aside0.mk (show readF (writeD D9 (x : Int) Ys) (x : Int) = 0 ∧ readS (writeD D9 (x : Int) Ys) (x : Int) = fillB Ys from
                    ⟨(HWI.out.2.2.reads (x : Int) (by omega) (by omega)).1, (HWI.out.2.2.reads (x : Int) (by omega) (by omega)).2.trans (by rw [HWI.out.2.1, seen_put, if_pos rfl])⟩)
                  have hwf : (Lit.int .i64 (x : Int)).wf = true := WalkArith.wf_i64 (by omega)
                  have HW := Aside0.mk hwf
                  have HAB := Aside0.mk (blk_new wr (.cells #[.int .i64 Yk, .int .i64 (x : Int), .string Ys, .int .i64 Yca, .int .u64 Yck] 33))
                  have HDa := Aside0.mk (HD9.out.step (below_alloc (Below.refl wr.heap.size wr) (.cells #[.int .i64 Yk, .int .i64 (x : Int), .string Ys, .int .i64 Yca, .int .u64 Yck] 33)))
                  have HMa := Aside0.mk (HM9.out.step (below_alloc (Below.refl wr.heap.size wr) (.cells #[.int .i64 Yk, .int .i64 (x : Int), .string Ys, .int .i64 Yca, .int .u64 Yck] 33)))
                  clear hin hwf hx6
                  go_wp2_with fail
                  refine (Write HDa.out HF9.out (by omega) (x : Int) Ys).mono ?_
                  rw [HWI.out.1]
                  rintro e w10 ⟨rfl, hd10, hk10⟩
                  have HD10 := Aside0.mk hd10
                  have HM10 := Aside0.mk (HMa.out.keeps hk10)
                  have HA10 := Aside0.mk (hk10.cells HAB.out (by decide) (by decide))
                  have HF10 := Aside0.mk (HF9.out.write (x : Int) Ys)
                  have HL10 := Aside0.mk HWI.out.2.2
                  clear hd10 hk10 HAB HDa HMa HWI z0 z1 z2 z3 z4
                  generalize writeD D9 (x : Int) Ys = D10 at *
                  generalize wr.heap.size = ab at *
                  have z1 : w10.cell? ⟨ab, 1, none⟩ = some (.int .i64 (x : Int)) := blk_cell HA10.out 1
                  go_wp2_with fail
                  refine (Read HD10.out HF10.out (by omega) (x : Int) HW.out).mono ?_
                  rw [HRD.out.1, HRD.out.2]
                  rintro e w11 ⟨rfl, rfl⟩
                  generalize fillB Ys = F at *
                  obtain ⟨Ax, cx, hVx⟩ := Kd.R_slice (HM10.out.rows x HX6.out)
                  have HVX := Aside0.mk hVx
                  clear hVx
                  have HDd := Aside0.mk (HD10.out.step (below_drew1 (Below.refl w11.heap.size w11)))
                  have HMd := Aside0.mk (HM10.out.step (below_drew1 (Below.refl w11.heap.size w11)))
                  have HAd := Aside0.mk (blk_drew HA10.out)
                  have HAP := Aside0.mk (show Kd.R Kd.string 9 w11.drew w.heap.size (fun _ => True) (.slice Ax (L9 x).length cx) (L9 x) from HVX.out ▸ HMd.out.rows x HX6.out)
                  have HLL := Aside0.mk (show ((L9 x).length + 1) * 16 ≤ 140737488355328 by have := HT9.out.len x HX6.out; omega)
                  have HCX := Aside0.mk (show w11.drew.cell? ⟨q, x, none⟩ = some (.slice Ax (L9 x).length cx) from (HMd.out.cell x HX6.out).trans (congrArg some HVX.out))
                  have p0 : 0 ≤ (x : Int) := by omega
                  have p1 : (x : Int) < 6 := by have := HX6.out; omega
                  clear z1
                  go_upto_region 27 with fail
                  try go_wp2_with fail
                  refine start_ (n := 11) (S := fun w' => w'.cell? ⟨ab, 1, none⟩ = some (.int .i64 (x : Int)) ∧ w'.cell? ⟨q, x, none⟩ = some (.slice Ax (L9 x).length cx)) (ds := [10]) #[false, false, false, false, false, false, false, false, false, false, false] (by kernel_rfl) rfl rfl ⟨(blk_cell HAd.out 1).trans rfl, HCX.out⟩ (fun hHeld => ?_)
                  refine pure_ (i := 0) (N := some 122) (v := ?_) (a' := ?_) #[true, false, false, false, false, false, false, false, false, false, false] rfl rfl (by kernel_rfl) (fun _ _ _ h => h) (Or.inl ⟨by rfl, ?_⟩) ?_ ?_
                  rotate_left
                  · intro w'
                    go_simp
                    with_reducible rfl
                  rotate_left
                  · simp only [Act.put, List.setIfInBounds_toArray, List.set_cons_zero, List.set_cons_succ, i64_w, i32_w]
                    rfl
                  refine take_ (i := 1) (N := some 123) (v := ?_) (a' := ?_) #[true, true, false, false, false, false, false, false, false, false, false] rfl rfl (by kernel_rfl) (fun _ _ _ h => h) (Or.inl ⟨by rfl, ?_⟩) hHeld ?_ ?_
                  rotate_left
                  · rintro w' ⟨s0, s1⟩
                    go_simp
                    with_reducible rfl
                  rotate_left
                  · simp only [Act.put, List.setIfInBounds_toArray, List.set_cons_zero, List.set_cons_succ, i64_w, i32_w]
                    rfl
                  refine pure_ (i := 2) (N := some 124) (v := ?_) (a' := ?_) #[true, true, true, false, false, false, false, false, false, false, false] rfl rfl (by kernel_rfl) (fun _ _ _ h => h) (Or.inl ⟨by rfl, ?_⟩) ?_ ?_
                  rotate_left
                  · intro w'
                    go_simp
                    with_reducible rfl
                  rotate_left
                  · simp only [Act.put, List.setIfInBounds_toArray, List.set_cons_zero, List.set_cons_succ, i64_w, i32_w]
                    rfl
                  refine take_ (i := 3) (N := some 125) (v := ?_) (a' := ?_) #[true, true, true, true, false, false, false, false, false, false, false] rfl rfl (by kernel_rfl) (fun _ _ _ h => h) (Or.inl ⟨by rfl, ?_⟩) hHeld ?_ ?_
                  rotate_left
                  · rintro w' ⟨s0, s1⟩
                    go_simp
                    with_reducible rfl
                  rotate_left
                  · simp only [Act.put, List.setIfInBounds_toArray, List.set_cons_zero, List.set_cons_succ, i64_w, i32_w]
                    rfl
                  refine pure_ (i := 4) (N := some 126) (v := ?_) (a' := ?_) #[true, true, true, true, true, false, false, false, false, false, false] rfl rfl (by kernel_rfl) (fun _ _ _ h => h) (Or.inl ⟨by rfl, ?_⟩) ?_ ?_
                  rotate_left
                  · intro w'
                    go_simp
                    with_reducible rfl
                  rotate_left
                  · simp only [Act.put, List.setIfInBounds_toArray, List.set_cons_zero, List.set_cons_succ, i64_w, i32_w]
                    rfl
                  refine take_ (i := 5) (N := some 127) (v := ?_) (a' := ?_) #[true, true, true, true, true, true, false, false, false, false, false] rfl rfl (by kernel_rfl) (fun _ _ _ h => h) (Or.inl ⟨by rfl, ?_⟩) hHeld ?_ ?_
                  rotate_left
                  · rintro w' ⟨s0, s1⟩
                    go_simp
                    with_reducible rfl
                  rotate_left
                  · simp only [Act.put, List.setIfInBounds_toArray, List.set_cons_zero, List.set_cons_succ, i64_w, i32_w]
                    rfl
                  refine pure_ (i := 6) (N := some 128) (v := ?_) (a' := ?_) #[true, true, true, true, true, true, true, false, false, false, false] rfl rfl (by kernel_rfl) (fun _ _ _ h => h) (Or.inl ⟨by rfl, ?_⟩) ?_ ?_
                  rotate_left
                  · intro w'
                    go_simp
                    with_reducible rfl
                  rotate_left
                  · simp only [Act.put, List.setIfInBounds_toArray, List.set_cons_zero, List.set_cons_succ, i64_w, i32_w]
                    rfl
                  refine one_ (i := 7) (N := some 129) #[true, true, true, true, true, true, true, true, false, false, false] rfl rfl (by kernel_rfl) (by decide) (fun K hK => ?_)
                  refine value_ (w1 := ?_) (v := ?_) (by rfl) rfl ?_ ?_
                  rotate_left 2
                  · go_simp
                    constructor
                    · rfl
                    · rfl
                  refine hK.out _ _ ⟨(blk_cell (blk_alloc HAd.out _) 1).trans rfl, (blk_cell (blk_alloc HMd.out.blk _) x).trans ((arrV_get V9 x HX6.out).trans (congrArg some HVX.out))⟩ (fun hHeld => ?_)
                  clear hK K
                  refine norm_ (a' := ?_) ?_ ?_
                  rotate_left
                  · show Act.put _ (some 129) _ = _
                    simp only [Act.put, List.setIfInBounds_toArray, List.set_cons_zero, List.set_cons_succ, i64_w, i32_w]
                    rfl
                  refine one_ (i := 8) (N := some 130) #[true, true, true, true, true, true, true, true, true, false, false] rfl rfl (by kernel_rfl) (by decide) (fun K hK => ?_)
                  refine Kd.R_append_step Kd.string (w0 := w) w.heap.size (by rfl) (.tmp 127) (.tmp 129) 37 9 (.string ⟨#[]⟩) 16 rfl Try.underlying37 infoS rfl (by decide) (by omega) (.slice Ax (L9 x).length cx) (L9 x) F [.string F] (fun _ => True) (fun _ => False) rfl rfl rfl (fun _ hk => hk.elim) (fun _ _ => trivial) HAP.out HDd.out.below HDd.out.below.size HLL.out ?_
                  intro v9 w9 ho9 hb9 hg9 hat9
                  have hgV : w11.drew.grownBy w9 (V9 x).ownBlock := by rw [HVX.out]; exact hg9
                  obtain ⟨A9, c9, rfl⟩ := Kd.R_slice ho9
                  have HX9 := Aside0.mk (⟨ho9, hb9, hgV, hat9⟩ : _ ∧ _ ∧ _ ∧ _)
                  have HM9b := Aside0.mk (HMd.out.after x HX6.out hgV)
                  have HA9b := Aside0.mk ((hg9.block ab (heap_lt HAd.out) (fun e => by obtain ⟨⟨c, hc⟩, _⟩ := texts_typed HAP.out ab e.symm; rw [HAd.out] at hc; injection hc with hc; injection hc with _ hc; exact absurd hc (by decide))).trans HAd.out)
                  clear ho9 hb9 hg9 hat9 hgV
                  refine hK.out _ _ ⟨(blk_cell HA9b.out 1).trans rfl, (blk_cell HM9b.out x).trans ((arrV_get V9 x HX6.out).trans (congrArg some HVX.out))⟩ (fun hHeld => ?_)
                  clear hK K
                  refine norm_ (a' := ?_) ?_ ?_
                  rotate_left
                  · show Act.put _ (some 130) _ = _
                    simp only [Act.put, List.setIfInBounds_toArray, List.set_cons_zero, List.set_cons_succ, i64_w, i32_w]
                    rfl
                  refine pure_ (i := 9) (N := some 131) (v := ?_) (a' := ?_) #[true, true, true, true, true, true, true, true, true, true, false] rfl rfl (by kernel_rfl) (fun _ _ _ h => h) (Or.inl ⟨by rfl, ?_⟩) ?_ ?_
                  rotate_left
                  · intro w'
                    go_simp
                    with_reducible rfl
                  rotate_left
                  · simp only [Act.put, List.setIfInBounds_toArray, List.set_cons_zero, List.set_cons_succ, i64_w, i32_w]
                    rfl
                  refine last_ (i := 10) (N := none) #[true, true, true, true, true, true, true, true, true, true, true] rfl rfl (by kernel_rfl) (by decide) (fun K hK => ?_)
                  have hs9 : w9.cell? ⟨q, x, none⟩ = some (.slice Ax (L9 x).length cx) := (blk_cell HM9b.out x).trans ((arrV_get V9 x HX6.out).trans (congrArg some HVX.out))
                  have hf9 : w9.frozen? ⟨q, x, none⟩ = false := blk_frozen HM9b.out x
                  refine skip_ (w1 := ?_) (by rfl) rfl ?_ ?_
                  rotate_left
                  · go_simp
                    rfl
                  refine hK.out _ _ ?_
                  clear hK K
                  refine done_ (by kernel_rfl) ?_
                  have eL := len_one (L9 x) F
                  have HPT := Aside0.mk (may_put HDd.out HMd.out x HX6.out HX9.out.1 HX9.out.2.2.1 (by rw [HVX.out]; exact HX9.out.2.2.2))
                  go_wp2_with fail
                  go_roundg (gk - 1)
                  case measure => have := HA3.out.1; have := HI2.out; omega
                  case rel => exact ⟨i2 + 1, by go_num, ⟨by have := HA3.out.1; have := HI2.out; omega, _, _, _, by rw [← eL]; exact HPT.out.1, HF10.out.mono (by omega), HL10.out, by rw [← eL]; exact HPT.out.2, HT10.out⟩⟩
                · obtain ⟨er, her, hea⟩ : ∃ er : Int, writeF D9 Yx Ys = er ∧ er ≠ 0 := ⟨_, rfl, by
                    rcases (HL9.out.write_out (x := Yx) (s := Ys) (by omega)).1 with h | h <;> rw [h] <;> decide⟩
                  have HE := Aside0.mk her
                  have HW9 := Aside0.mk (HL9.out.write_out (x := Yx) (s := Ys) (by omega)).2
                  have d2 : (er == 0) = false := beq_eq_false_iff_ne.2 hea
                  have HDa := Aside0.mk (HD9.out.step (below_alloc (Below.refl wr.heap.size wr) (.cells #[.int .i64 Yk, .int .i64 Yx, .string Ys, .int .i64 Yca, .int .u64 Yck] 33)))
                  have HMa := Aside0.mk (HM9.out.step (below_alloc (Below.refl wr.heap.size wr) (.cells #[.int .i64 Yk, .int .i64 Yx, .string Ys, .int .i64 Yca, .int .u64 Yck] 33)))
                  clear hin her hea
                  go_wp2_with fail
                  refine (Write HDa.out HF9.out (by omega) Yx Ys).mono ?_
                  rw [HE.out, HW9.out]
                  rintro e w10 ⟨rfl, hd10, hk10⟩
                  have HD10 := Aside0.mk hd10
                  have HM10 := Aside0.mk (HMa.out.keeps hk10)
                  clear hd10 hk10
                  go_wp2_with fail
                  go_roundg (gk - 1)
                  case measure => have := HA3.out.1; have := HI2.out; omega
                  case rel => exact ⟨i2 + 1, by go_num, ⟨by have := HA3.out.1; have := HI2.out; omega, D9, V9, L9, HD10.out, HF9.out.mono (by omega), HL9.out, HM10.out, HT9.out.more⟩⟩
              · have d1 : (Yk == 0) = false := beq_eq_false_iff_ne.2 hkd
                clear hkd
                go_wp2_with fail
                go_roundg (gk - 1)
                case measure => have := HA3.out.1; have := HI2.out; omega
                case rel => exact ⟨i2 + 1, by go_num, ⟨by have := HA3.out.1; have := HI2.out; omega, D9, V9, L9, HD9.out.step (below_alloc (Below.refl _ _) _), HF9.out.mono (by omega), HL9.out, HM9.out.step (below_alloc (Below.refl _ _) _), HT9.out.more⟩⟩
            · have c4b : decide ((i2 : Int) < (r.length : Int)) = false := decide_eq_false (by omega)
              have c4n : decide (i2 < r.length) = false := decide_eq_false c4
              obtain ⟨hkk, D9, V9, L9, hd, hft, hlv, hmy, htl⟩ := HA3.out
              have hi2 : i2 ≤ 200 := by omega
              have HD9 := Aside0.mk hd
              have HF9 := Aside0.mk (hft.mono (m := 1000) (by omega))
              have HCR := Aside0.mk (htl.crash hlv keep)
              have HCW := Aside0.mk (show (crashD D9 keep).wait = [] ∧ (crashD D9 keep).size = 6 by
                obtain ⟨c, _, ho⟩ := hlv
                unfold crashD
                rw [ho.down, if_neg (by decide)]
                exact ⟨rfl, ho.size⟩)
              have HM9 := Aside0.mk hmy
              have HT9 := Aside0.mk htl
              clear hkk hd hft hlv hmy htl c4 HA3
              go_wp2_with fail
              refine (Crash HD9.out HF9.out (by decide) keep HKP.out.1 HKP.out.2).mono ?_
              rintro e w20 ⟨rfl, hd20, hk20⟩
              have HD20 := Aside0.mk hd20
              have HM20 := Aside0.mk (HM9.out.keeps hk20)
              clear hd20 hk20
              go_wp2_with fail
              refine (Start HD20.out).mono ?_
              rintro e w21 ⟨rfl, hd21, hk21⟩
              have HD21 := Aside0.mk hd21
              have HM21 := Aside0.mk (HM20.out.keeps hk21)
              have HF21 := Aside0.mk ((HF9.out.crash keep).start)
              have HRS := Aside0.mk (show ∀ j : Nat, j < 6 → readF { crashD D9 keep with down := false } (j : Int) = 0 ∧ readS { crashD D9 keep with down := false } (j : Int) = seenD { crashD D9 keep with down := false } (j : Int) from fun j hj => by
                have h : ¬ ((j : Int) < 0 ∨ (crashD D9 keep).size ≤ (j : Int)) := by rw [HCW.out.2]; omega
                unfold readF readS
                constructor
                · rw [if_neg (show ¬ false = true by decide)]; exact if_neg h
                · rw [if_neg (show ¬ false = true by decide)]; exact if_neg h)
              have HWL := Aside0.mk (show ({ crashD D9 keep with down := false }.wait.length : Int) = 0 by show ((crashD D9 keep).wait.length : Int) = 0; rw [HCW.out.1]; rfl)
              clear hd21 hk21 HD20 HM20 HD9 HM9 HCW HF9
              generalize { crashD D9 keep with down := false } = D8 at *
              go_wp2_with fail
              obtain ⟨w90, rfl⟩ : ∃ W, W = wr := ⟨_, rfl⟩
              clear c4b c4n
              go_loopg [18] 6 (fun kq v18 w' => ∃ j : Nat, v18 = .int .i64 j ∧ w' = w21 ∧ Aside0 (j + kq = 6))
              case atStart => exact ⟨0, rfl, rfl, ⟨rfl⟩⟩
              case round =>
                obtain ⟨j4, rfl, rfl, HA4⟩ := hrel
                by_cases c5 : j4 < 6
                · have c5b : decide ((j4 : Int) < 6) = true := decide_eq_true (by omega)
                  have c5n : decide (j4 < 6) = true := decide_eq_true c5
                  have hjb4 : j4 < 100 := by omega
                  have p0 := eq_true (show 0 ≤ (j4 : Int) by omega)
                  have p1 := eq_true (show (j4 : Int) < 6 by omega)
                  have HJ4 := Aside0.mk c5
                  have HRD := Aside0.mk (HRS.out j4 c5)
                  have HIN := Aside0.mk (HCR.out j4 c5)
                  have hwf : (Lit.int .i64 (j4 : Int)).wf = true := WalkArith.wf_i64 (by omega)
                  have HW := Aside0.mk hwf
                  have HLEN := Aside0.mk (HT9.out.len j4 c5)
                  have HHD := Aside0.mk (HT9.out.head j4 c5)
                  obtain ⟨A4, c4, hV4⟩ := Kd.R_slice (HM21.out.rows j4 c5)
                  have hcl := (HM21.out.cell j4 c5).trans (congrArg some hV4)
                  have HRW := Aside0.mk (show Kd.C Kd.string wr A4 (L9 j4).length (L9 j4) ∧ (L9 j4).length ≤ c4 from ⟨(Kd.R_reads' (hV4 ▸ HM21.out.rows j4 c5)).2.2, (Kd.R_reads' (hV4 ▸ HM21.out.rows j4 c5)).2.1⟩)
                  have hl9 : (L9 j4).length ≤ 201 := by have := HLEN.out; omega
                  have hl9' : 1 ≤ (L9 j4).length := by obtain ⟨r9, e9⟩ := HHD.out; rw [e9]; simp
                  clear hwf c5 hV4
                  go_wp2_with fail
                  refine (Read HD21.out HF21.out (by decide) (j4 : Int) HW.out).mono ?_
                  rw [HRD.out.1, HRD.out.2]
                  rintro e w22 ⟨rfl, rfl⟩
                  generalize seenD D8 (j4 : Int) = F at *
                  generalize hL4 : L9 j4 = LL at *
                  have HL4 := Aside0.mk hL4
                  clear hL4
                  go_wp2_with fail
                  obtain ⟨wq, rfl⟩ : ∃ W, W = w22 := ⟨_, rfl⟩
                  obtain ⟨gq, rfl⟩ : ∃ n, n = gk := ⟨_, rfl⟩
                  go_loopg [21, 22] LL.length (fun kq v21 v22 w' => ∃ k : Nat, v22 = .int .i64 k ∧ v21 = .bool (anyTo LL F k) ∧ w' = wq ∧ Aside0 (k + kq = LL.length))
                  case atStart => exact ⟨0, rfl, rfl, rfl, ⟨Nat.zero_add _⟩⟩
                  case round =>
                    obtain ⟨kk, rfl, rfl, rfl, HA5⟩ := hrel
                    by_cases c6 : kk < LL.length
                    · have c6b : decide ((kk : Int) < (LL.length : Int)) = true := decide_eq_true (by omega)
                      have c6n : decide (kk < LL.length) = true := decide_eq_true c6
                      have hkb : kk < 300 := by omega
                      obtain ⟨a6, e6, hx6⟩ := Kd.at_string HRW.out.1 (kk : Int) (by omega) (by omega)
                      have hy6 : wr.cell? (a6.add kk) = some (.string (rdOf ByteArray.empty LL (kk : Int))) := hx6
                      cases e6
                      have r0 := eq_true (show 0 ≤ (kk : Int) by omega)
                      have r1 := eq_true (show kk < LL.length by omega)
                      have HK6 := Aside0.mk c6
                      have HAN := Aside0.mk (anyTo_succ LL F kk c6)
                      clear hx6 c6
                      generalize rdOf ByteArray.empty LL (kk : Int) = P at *
                      cases hb : anyTo LL F kk with
                      | true =>
                        have HE := Aside0.mk (show anyTo LL F (kk + 1) = true by rw [HAN.out, hb]; rfl)
                        clear hb
                        go_wp2_with fail
                        go_roundg (gk - 1)
                        case measure => have := HA5.out; have := HK6.out; omega
                        case rel => exact ⟨kk + 1, by go_num, by rw [HE.out], rfl, ⟨by have := HA5.out; have := HK6.out; omega⟩⟩
                      | false =>
                        have HE := Aside0.mk (show anyTo LL F (kk + 1) = (P.toList == F.toList) by rw [HAN.out, hb]; rfl)
                        clear hb
                        generalize hpf : (P.toList == F.toList) = pf at *
                        go_wp2_with fail
                        go_roundg (gk - 1)
                        case measure => have := HA5.out; have := HK6.out; omega
                        case rel => exact ⟨kk + 1, by go_num, by rw [HE.out], rfl, ⟨by have := HA5.out; have := HK6.out; omega⟩⟩
                    · have c6b : decide ((kk : Int) < (LL.length : Int)) = false := decide_eq_false (by omega)
                      have c6n : decide (kk < LL.length) = false := decide_eq_false c6
                      have HT6 := Aside0.mk (show anyTo LL F kk = true by
                        have : kk = LL.length := by have := HA5.out; omega
                        rw [this]
                        exact anyTo_all HIN.out.1)
                      clear c6
                      rw [HT6.out]
                      by_cases hk0 : keep = 0
                      · have k1 : (keep == 0) = true := beq_iff_eq.2 hk0
                        obtain ⟨a6, e6, hx6⟩ := Kd.at_string HRW.out.1 0 (by decide) (by omega)
                        cases e6
                        have hP : rdOf ByteArray.empty LL 0 = F := by
                          obtain ⟨r9, e9⟩ := HHD.out
                          rw [e9]
                          exact (HIN.out.2 hk0).symm
                        have hy6 : wr.cell? (a6.add 0) = some (.string F) := by rw [← hP]; exact hx6
                        have hy7 : wr.cell? a6 = some (.string F) := hy6
                        have r1 := eq_true (show 0 < LL.length by omega)
                        have hX : (F.toList == F.toList) = true := beq_self_eq_true _
                        clear hx6 hP hk0
                        go_wp2_with fail
                        go_roundg (gq - 1)
                        case measure => have := HA4.out; have := HJ4.out; omega
                        case rel => exact ⟨j4 + 1, by go_num, rfl, ⟨by have := HA4.out; have := HJ4.out; omega⟩⟩
                      · have k1 : (keep == 0) = false := beq_eq_false_iff_ne.2 hk0
                        clear hk0
                        go_wp2_with fail
                        go_roundg (gq - 1)
                        case measure => have := HA4.out; have := HJ4.out; omega
                        case rel => exact ⟨j4 + 1, by go_num, rfl, ⟨by have := HA4.out; have := HJ4.out; omega⟩⟩
                · have c5b : decide ((j4 : Int) < 6) = false := decide_eq_false (by omega)
                  have c5n : decide (j4 < 6) = false := decide_eq_false c5
                  clear c5
                  go_wp2_with fail
                  refine (Waiting HD21.out).mono ?_
                  rw [HWL.out]
                  rintro e w23 ⟨rfl, rfl⟩
                  go_wp2_with fail
                  go_ret
                  exact ⟨rfl, HD21.out.below⟩
set_option maxRecDepth 100000 in
theorem lasts_many (A0 : Option Addr) (c0 : Nat) (l : List S33) (A1 : Option Addr) (c1 : Nat) (r : List S33) (keep : Int) (w : World) (hr : Kd.C k33 w A0 l.length l) (hc : l.length ≤ c0) (k : Nat) (hk : snapferrylaw03_Few.f k l = some false) :
    Calls Try.prog 3 #[.slice A0 l.length c0, .slice A1 r.length c1, .int .u64 keep] w fun e w' => e = .returned (.bool true) ∧ Below w.heap.size w w' := by
  have HR := Aside0.mk hr
  have HC := Aside0.mk hc
  have HK := Aside0.mk hk
  clear hr hc hk
  go_enter Try.func3, Try.ntmps3
  go_wp2_with fail
  refine (awake _).mono ?_
  rintro e w1 ⟨rfl, hb1⟩
  have HB1 := Aside0.mk hb1
  clear hb1
  go_wp2_with fail
  refine (snapferrylaw03_Few.calls k _ _ l false _ (Kd.C_below HR.out HB1.out) HC.out HK.out).mono ?_
  rintro e w2 ⟨rfl, hd⟩
  have HB2 := Aside0.mk (show Below w.heap.size w w2 by obtain ⟨n, rfl⟩ := hd.out; exact pw_below_drewN HB1.out n)
  clear hd HB1
  go_wp2_with fail
  go_ret
  exact ⟨rfl, HB2.out⟩
set_option maxRecDepth 100000 in
theorem lasts_many2 (A0 : Option Addr) (c0 : Nat) (l : List S33) (A1 : Option Addr) (c1 : Nat) (r : List S33) (keep : Int) (w : World) (hr : Kd.C k33 w A0 l.length l) (hc : l.length ≤ c0) (k : Nat) (hk : snapferrylaw03_Few.f k l = some true)
    (hr1 : Kd.C k33 w A1 r.length r) (hc1 : r.length ≤ c1) (k1 : Nat) (hk1 : snapferrylaw03_Few.f k1 r = some false) :
    Calls Try.prog 3 #[.slice A0 l.length c0, .slice A1 r.length c1, .int .u64 keep] w fun e w' => e = .returned (.bool true) ∧ Below w.heap.size w w' := by
  have HR := Aside0.mk hr
  have HC := Aside0.mk hc
  have HK := Aside0.mk hk
  have HR1 := Aside0.mk hr1
  have HC1 := Aside0.mk hc1
  have HK1 := Aside0.mk hk1
  clear hr hc hk hr1 hc1 hk1
  go_enter Try.func3, Try.ntmps3
  go_wp2_with fail
  refine (awake _).mono ?_
  rintro e w1 ⟨rfl, hb1⟩
  have HB1 := Aside0.mk hb1
  clear hb1
  go_wp2_with fail
  refine (snapferrylaw03_Few.calls k _ _ l true _ (Kd.C_below HR.out HB1.out) HC.out HK.out).mono ?_
  rintro e w2 ⟨rfl, hd⟩
  have HB2 := Aside0.mk (show Below w.heap.size w w2 by obtain ⟨n, rfl⟩ := hd.out; exact pw_below_drewN HB1.out n)
  clear hd HB1
  go_wp2_with fail
  refine (snapferrylaw03_Few.calls k1 _ _ r false _ (Kd.C_below HR1.out HB2.out) HC1.out HK1.out).mono ?_
  rintro e w3 ⟨rfl, hd⟩
  have HB3 := Aside0.mk (show Below w.heap.size w w3 by obtain ⟨n, rfl⟩ := hd.out; exact pw_below_drewN HB2.out n)
  clear hd HB2
  go_wp2_with fail
  go_ret
  exact ⟨rfl, HB3.out⟩
theorem lasts_all (A0 : Option Addr) (c0 : Nat) (l : List S33) (A1 : Option Addr) (c1 : Nat) (r : List S33) (keep : Int) (w : World) (hr : Kd.C k33 w A0 l.length l ∧ l.length ≤ 9223372036854775807 ∧ ∀ y ∈ l, Open.ActOk y) (hc : l.length ≤ c0)
    (hr1 : Kd.C k33 w A1 r.length r ∧ r.length ≤ 9223372036854775807 ∧ ∀ y ∈ r, Open.ActOk y) (hc1 : r.length ≤ c1) (hk : (Lit.int .u64 keep).wf = true) :
    Calls Try.prog 3 #[.slice A0 l.length c0, .slice A1 r.length c1, .int .u64 keep] w fun e w' => e = .returned (.bool true) ∧ Below w.heap.size w w' := by
  have hb := Go.bounds_u64 hk
  rcases few_or l hr.2.1 with ⟨k, hkf, hl⟩ | ⟨k, hkf⟩
  · rcases few_or r hr1.2.1 with ⟨k1, hk1, hl1⟩ | ⟨k1, hk1⟩
    · exact lasts_walk A0 c0 l A1 c1 r keep w hr.1 hc k hkf hl hr1.1 hc1 k1 hk1 hl1 hb.1 (by have := hb.2; omega) hr1.2.2
    · exact lasts_many2 A0 c0 l A1 c1 r keep w hr.1 hc k hkf hr1.1 hc1 k1 hk1
  · exact lasts_many A0 c0 l A1 c1 r keep w hr.1 hc k hkf
end Go.Proofs.Ytehodgcfejkomaa.Disk
