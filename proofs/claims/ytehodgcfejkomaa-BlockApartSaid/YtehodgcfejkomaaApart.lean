/- BlockApart: the walk of its body: for every input it returns true, and makes memory alone. No condition. -/
import Derived.Test.YtehodgcfejkomaaSeen
import Derived.Test.YtehodgcfejkomaaOpen
import Derived.StillTailTactics
namespace Go.Proofs.Ytehodgcfejkomaa.Disk
set_option linter.unusedVariables false
set_option linter.unusedSimpArgs false
open Go.RowKit Go.Proofs.Ytehodgcfejkomaa.Q Go.Proofs.YtehodgcfejkomaaW.PrintWords Go.Proofs.YtehodgcfejkomaaW.PrintMore
def arr6 (f : Nat → ByteArray) : Array Value := #[.string (f 0), .string (f 1), .string (f 2), .string (f 3), .string (f 4), .string (f 5)]
theorem arr6_get (f : Nat → ByteArray) (j : Nat) (h : j < 6) : (arr6 f)[j]? = some (.string (f j)) := by
  match j, h with
  | 0, _ => rfl
  | 1, _ => rfl
  | 2, _ => rfl
  | 3, _ => rfl
  | 4, _ => rfl
  | 5, _ => rfl
theorem arr6_set (f : Nat → ByteArray) (j : Nat) (h : j < 6) (s : ByteArray) : (arr6 f).setIfInBounds j (.string s) = arr6 (fun t => if t = j then s else f t) := by
  match j, h with
  | 0, _ => rfl
  | 1, _ => rfl
  | 2, _ => rfl
  | 3, _ => rfl
  | 4, _ => rfl
  | 5, _ => rfl
theorem arr6_ext {f f' : Nat → ByteArray} (h : ∀ j, j < 6 → f j = f' j) : arr6 f = arr6 f' := by
  unfold arr6
  rw [h 0 (by omega), h 1 (by omega), h 2 (by omega), h 3 (by omega), h 4 (by omega), h 5 (by omega)]
/-- Block q is six texts. -/
def Six (w : World) (q : Nat) (f : Nat → ByteArray) : Prop := w.heap[q]? = some (.cells (arr6 f) 43 (0, 0))
theorem Six.cell {w : World} {q : Nat} {f : Nat → ByteArray} (h : Six w q f) (j : Nat) (hj : j < 6) : w.cell? ⟨q, j, none⟩ = some (.string (f j)) := (blk_cell h j).trans (arr6_get f j hj)
theorem Six.set {w : World} {q : Nat} {f : Nat → ByteArray} (h : Six w q f) (j : Nat) (hj : j < 6) (s : ByteArray) {f' : Nat → ByteArray} (he : ∀ t, t < 6 → f' t = if t = j then s else f t) : Six (w.setCell ⟨q, j, none⟩ (.string s)) q f' := by
  unfold Six
  rw [arr6_ext he, ← arr6_set f j hj s]
  exact blk_set h j _
theorem Six.keeps {w w' : World} {q : Nat} {f : Nat → ByteArray} (h : Six w q f) (hk : Keeps w w') : Six w' q f := hk.cells h (by decide) (by decide)
set_option maxRecDepth 100000 in
set_option maxHeartbeats 16000000 in
theorem apart_walk (A0 : Option Addr) (c0 : Nat) (l : List S33) (x : Int) (s : ByteArray) (w : World) (hr : Kd.C k33 w A0 l.length l) (hc : l.length ≤ c0) (k : Nat) (hk : snapferrylaw03_Few.f k l = some true) (hl : l.length ≤ 200)
    (hx0 : 0 ≤ x) (hx1 : x ≤ 5) (hs : s.size ≤ 32) :
    Calls Try.prog 4 #[.slice A0 l.length c0, .int .i64 x, .string s] w fun e w' => e = .returned (.bool true) ∧ Below w.heap.size w w' := by
  have hu33 := Try.underlying33
  have hu43 := Try.underlying43
  have a1 : decide (x < 0) = false := decide_eq_false (by omega)
  have a2 : decide (5 < x) = false := decide_eq_false (by omega)
  have a3 : decide ((32 : Int) < (s.size : Int)) = false := decide_eq_false (by omega)
  have a4 : decide (32 < s.size) = false := decide_eq_false (by omega)
  have HR := Aside0.mk hr
  have HC := Aside0.mk hc
  have HK := Aside0.mk hk
  clear hr hc hk
  go_enter Try.func4, Try.ntmps4
  go_wp2_with fail
  refine (awake _).mono ?_
  rintro e w1 ⟨rfl, hb1⟩
  have HB1 := Aside0.mk hb1
  clear hb1
  go_wp2_with fail
  refine (snapferrylaw03_Few.calls k _ _ l true _ (Kd.C_below HR.out HB1.out) HC.out HK.out).mono ?_
  rintro e w2 ⟨rfl, hd⟩
  have HB2 := Aside0.mk (show Below w.heap.size w w2 by obtain ⟨n, rfl⟩ := hd.out; exact pw_below_drewN HB1.out n)
  clear hd HB1
  go_wp2_with fail
  refine (New HB2.out 6 (by decide) (by decide)).mono ?_
  rintro e w3 ⟨rfl, hd3, hb3⟩
  have HD := Aside0.mk hd3
  have HF := Aside0.mk (newD_fit (n := 6) (by decide) (by decide))
  have HL := Aside0.mk (Live.new 6)
  clear hd3 hb3
  generalize newD 6 = D0 at *
  generalize w2.heap.size + 1 = g at *
  generalize w2.heap.size = b at *
  go_wp2_with fail
  go_loopg [9] l.length (fun kq v9 wr => ∃ i : Nat, v9 = .int .i64 i ∧ Aside0 (i + kq = l.length ∧ ∃ D, Disk w wr g b D ∧ Fit D (2 * i) ∧ Live D 6))
  case atStart => exact ⟨0, rfl, ⟨Nat.zero_add _, D0, HD.out, HF.out, HL.out⟩⟩
  case round =>
    obtain ⟨i, rfl, HA⟩ := hrel
    clear HD HF HL
    by_cases c2 : i < l.length
    · have c2b : decide ((i : Int) < (l.length : Int)) = true := decide_eq_true (by omega)
      have c2n : decide (i < l.length) = true := decide_eq_true c2
      obtain ⟨hkk, D, hd, hft, hlv⟩ := HA.out
      have hib : i < 200 := by omega
      have HI := Aside0.mk c2
      obtain ⟨ad, e1, hx0_, hx1_, hx2_, hx3_, hx4_⟩ := at_T33 HR.out (i : Int) (by omega) (by omega)
      cases e1
      have y0 := Aside0.mk (show w.cell? (ad.add (i * 5)) = some (.int .i64 (rd_T33 l (i : Int)).f0) from hx0_)
      have y1 := Aside0.mk (show w.cell? ⟨(ad.add (i * 5)).block, (ad.add (i * 5)).off + 1, none⟩ = some (.int .i64 (rd_T33 l (i : Int)).f1) from hx1_)
      have y2 := Aside0.mk (show w.cell? ⟨(ad.add (i * 5)).block, (ad.add (i * 5)).off + 2, none⟩ = some (.string (rd_T33 l (i : Int)).f2) from hx2_)
      have LT0 := Aside0.mk (show (ad.add (i * 5)).block < w.heap.size from World.block_lt_of_cell? w _ hx0_)
      have p104 := eq_true (show 0 ≤ (i : Int) by omega)
      have q104 := eq_true (show i < l.length by omega)
      clear hx0_ hx1_ hx2_ hx3_ hx4_
      generalize rd_T33 l (i : Int) = X at *
      have z0 := (hd.below.cell LT0.out).trans y0.out
      have z1 := (Below.cell hd.below (p := ⟨(ad.add (i * 5)).block, (ad.add (i * 5)).off + 1, none⟩) LT0.out).trans y1.out
      have z2 := (Below.cell hd.below (p := ⟨(ad.add (i * 5)).block, (ad.add (i * 5)).off + 2, none⟩) LT0.out).trans y2.out
      have HD1 := Aside0.mk hd
      have HF1 := Aside0.mk hft
      have HL1 := Aside0.mk hlv
      clear hkk hd hft hlv c2
      by_cases hkd : X.f0 = 0
      · have d1 : (X.f0 == 0) = true := beq_iff_eq.2 hkd
        clear hkd
        go_wp2_with fail
        go_still_tail 11, (by kernel_rfl)
        change wpList _ _ _ _ _ wr.drew
        go_wp2_with fail
        refine (Write (HD1.out.step (below_drew1 (Below.refl wr.heap.size wr))) HF1.out (by omega) X.f1 X.f2).mono ?_
        rintro e w4 ⟨rfl, hd4, _⟩
        have HD4 := Aside0.mk hd4
        clear hd4 z0 z1 z2
        go_wp2_with fail
        go_roundg (gk - 1)
        case measure => have := HA.out.1; have := HI.out; omega
        case rel => exact ⟨i + 1, by go_num, ⟨by have := HA.out.1; have := HI.out; omega, _, HD4.out, HF1.out.write _ _, HL1.out.write _ _⟩⟩
      · have d1 : (X.f0 == 0) = false := beq_eq_false_iff_ne.2 hkd
        clear hkd
        go_wp2_with fail
        go_roundg (gk - 1)
        case measure => have := HA.out.1; have := HI.out; omega
        case rel => exact ⟨i + 1, by go_num, ⟨by have := HA.out.1; have := HI.out; omega, _, HD1.out, HF1.out.mono (by omega), HL1.out⟩⟩
    · have c2b : decide ((i : Int) < (l.length : Int)) = false := decide_eq_false (by omega)
      have c2n : decide (i < l.length) = false := decide_eq_false c2
      obtain ⟨hkk, D, hd, hft, hlv⟩ := HA.out
      have HD1 := Aside0.mk hd
      have HF1 := Aside0.mk (hft.mono (m := 400) (by omega))
      have HL1 := Aside0.mk hlv
      clear hkk hd hft hlv c2
      go_wp2_with fail
      have HQ := Aside0.mk (show Six (wr.alloc (.cells #[.string ⟨#[]⟩, .string ⟨#[]⟩, .string ⟨#[]⟩, .string ⟨#[]⟩, .string ⟨#[]⟩, .string ⟨#[]⟩] 43)) wr.heap.size (fun t => if t < 0 then seenD D (t : Int) else ⟨#[]⟩) from blk_new _ _)
      have HD2 := Aside0.mk (HD1.out.step (below_alloc (Below.refl _ _) (.cells #[.string ⟨#[]⟩, .string ⟨#[]⟩, .string ⟨#[]⟩, .string ⟨#[]⟩, .string ⟨#[]⟩, .string ⟨#[]⟩] 43)))
      have HGE := Aside0.mk HD1.out.below.size
      generalize wr.alloc (.cells #[.string ⟨#[]⟩, .string ⟨#[]⟩, .string ⟨#[]⟩, .string ⟨#[]⟩, .string ⟨#[]⟩, .string ⟨#[]⟩] 43) = W1 at *
      generalize wr.heap.size = q at *
      clear HD1
      obtain ⟨wo, rfl⟩ : ∃ W, W = wr := ⟨_, rfl⟩
      go_loopg [11] 6 (fun kq v11 w' => ∃ j : Nat, v11 = .int .i64 j ∧ Aside0 (j + kq = 6 ∧ Disk w w' g b D ∧ Six w' q (fun t => if t < j then seenD D (t : Int) else ⟨#[]⟩)))
      case atStart => exact ⟨0, rfl, ⟨rfl, HD2.out, HQ.out⟩⟩
      case round =>
        obtain ⟨j, rfl, HA2⟩ := hrel
        clear HD2 HQ
        by_cases c3 : j < 6
        · have c3b : decide ((j : Int) < 6) = true := decide_eq_true (by omega)
          have c3n : decide (j < 6) = true := decide_eq_true c3
          have p0 := eq_true (show 0 ≤ (j : Int) by omega)
          have p1 := eq_true (show (j : Int) < 6 by omega)
          obtain ⟨hkk, hd, hsx⟩ := HA2.out
          have hcl := hsx.cell j c3
          have hfr := blk_frozen hsx j
          have HJ := Aside0.mk c3
          have hjb : j < 100 := by omega
          have HRD := Aside0.mk (HL1.out.reads (j : Int) (by omega) (by omega))
          have HD5 := Aside0.mk hd
          have HS5 := Aside0.mk hsx
          have hwf : (Lit.int .i64 (j : Int)).wf = true := WalkArith.wf_i64 (by omega)
          have HW := Aside0.mk hwf
          clear hkk hd hsx hwf c3
          go_wp2_with fail
          refine (Read HD5.out HF1.out (by decide) (j : Int) HW.out).mono ?_
          rw [HRD.out.1, HRD.out.2]
          rintro e w5 ⟨rfl, rfl⟩
          go_wp2_with fail
          go_roundg (gk - 1)
          case measure => have := HA2.out.1; have := HJ.out; omega
          case rel => exact ⟨j + 1, by go_num, ⟨by have := HA2.out.1; have := HJ.out; omega, HD5.out.set_other HS5.out (by decide) (by decide) HGE.out _ _, HS5.out.set j HJ.out _ (fun t ht => by
            by_cases e : t = j
            · subst e; rw [if_pos rfl, if_pos (by omega)]
            · rw [if_neg e]
              by_cases h : t < j
              · rw [if_pos h, if_pos (by omega)]
              · rw [if_neg h, if_neg (by omega)])⟩⟩
        · have c3b : decide ((j : Int) < 6) = false := decide_eq_false (by omega)
          have c3n : decide (j < 6) = false := decide_eq_false c3
          obtain ⟨hkk, hd, hsx⟩ := HA2.out
          have HD5 := Aside0.mk hd
          have HS5 := Aside0.mk (show Six wr q (fun t => seenD D (t : Int)) by
            unfold Six at hsx ⊢
            rw [hsx, arr6_ext (f' := fun t => seenD D (t : Int)) (fun t ht => if_pos (by omega))])
          have HW1 := Aside0.mk (HL1.out.write_in hx0 (by omega) hs)
          have HLEN := Aside0.mk (show ((writeD D x s).wait.length : Int) = (D.wait.length : Int) + 1 by
            rw [HW1.out.2.1]
            show ((D.wait ++ [_]).length : Int) = _
            rw [List.length_append, List.length_singleton]
            omega)
          have hwl : (D.wait.length : Int) ≤ 400 := by have := HF1.out.room; omega
          have HSEEN := Aside0.mk (show ∀ y, seenD (writeD D x s) y = if y = x then fillB s else seenD D y from fun y => by rw [HW1.out.2.1]; exact seen_put D x y s)
          clear hkk hd hsx c3 HA2 HA
          go_wp2_with fail
          refine (Waiting HD5.out).mono ?_
          rintro e w6 ⟨rfl, rfl⟩
          go_wp2_with fail
          refine (Write HD5.out HF1.out (by decide) x s).mono ?_
          rw [HW1.out.1]
          rintro e w7 ⟨rfl, hd7, hk7⟩
          have HD7 := Aside0.mk hd7
          have HS7 := Aside0.mk (HS5.out.keeps hk7)
          have HF7 := Aside0.mk (HF1.out.write x s)
          have HL7 := Aside0.mk HW1.out.2.2
          clear hd7 hk7
          go_wp2_with fail
          refine (Waiting HD7.out).mono ?_
          rw [HLEN.out]
          rintro e w8 ⟨rfl, rfl⟩
          clear HW1 HLEN
          generalize writeD D x s = D7 at *
          go_wp2_with fail
          obtain ⟨w80, rfl⟩ : ∃ W, W = w8 := ⟨_, rfl⟩
          go_loopg [13] 2 (fun kq v13 w' => ∃ t : Nat, v13 = .int .i64 t ∧ Aside0 (t + kq = 2 ∧ ∃ D', Disk w w' g b D' ∧ Fit D' (402 + t) ∧ Live D' 6 ∧ (∀ y, seenD D' y = if y = x then fillB s else seenD D y) ∧ Six w' q (fun t => seenD D (t : Int))))
          case atStart => exact ⟨0, rfl, ⟨rfl, D7, HD7.out, HF7.out, HL7.out, HSEEN.out, HS7.out⟩⟩
          case round =>
            obtain ⟨t, rfl, HA3⟩ := hrel
            clear HD7 HF7 HL7 HSEEN HS7 HD5 HS5 HF1 HL1
            by_cases c4 : t < 2
            · have c4b : decide ((t : Int) < 2) = true := decide_eq_true (by omega)
              have c4n : decide (t < 2) = true := decide_eq_true c4
              obtain ⟨hkk, D9, hd, hft, hlv, hsn, hsx⟩ := HA3.out
              have HT := Aside0.mk c4
              have htb : t < 100 := by omega
              have HD9 := Aside0.mk hd
              have HF9 := Aside0.mk (hft.mono (m := 404) (by omega))
              have HF9t := Aside0.mk hft
              have HL9 := Aside0.mk hlv
              have HSN := Aside0.mk hsn
              have HS9 := Aside0.mk hsx
              clear hkk hd hft hlv hsn hsx c4
              go_wp2_with fail
              obtain ⟨wn, rfl⟩ : ∃ W, W = wr := ⟨_, rfl⟩
              obtain ⟨gn, rfl⟩ : ∃ n, n = gk := ⟨_, rfl⟩
              go_loopg [14] 6 (fun kq v14 w' => ∃ j : Nat, v14 = .int .i64 j ∧ w' = wn ∧ Aside0 (j + kq = 6))
              case atStart => exact ⟨0, rfl, rfl, ⟨rfl⟩⟩
              case round =>
                obtain ⟨j, rfl, rfl, HA4⟩ := hrel
                by_cases c5 : j < 6
                · have c5b : decide ((j : Int) < 6) = true := decide_eq_true (by omega)
                  have c5n : decide (j < 6) = true := decide_eq_true c5
                  have p0 := eq_true (show 0 ≤ (j : Int) by omega)
                  have p1 := eq_true (show (j : Int) < 6 by omega)
                  have HJ := Aside0.mk c5
                  have hjb : j < 100 := by omega
                  have HRD := Aside0.mk (HL9.out.reads (j : Int) (by omega) (by omega))
                  have hwf : (Lit.int .i64 (j : Int)).wf = true := WalkArith.wf_i64 (by omega)
                  have HW := Aside0.mk hwf
                  have HZ := Aside0.mk (seen_size HF9.out.ok (j : Int))
                  have hcl := HS9.out.cell j c5
                  clear hwf c5
                  by_cases ex : (j : Int) = x
                  · have HSJ := Aside0.mk (show seenD D9 (j : Int) = fillB s by rw [HSN.out, if_pos ex])
                    have HZ2 := Aside0.mk (show (fillB s).size = 32 from fillB_size hs)
                    have e1 : ((j : Int) != x) = false := bne_eq_false_iff_eq.2 ex
                    have e2 : ((j : Int) == x) = true := beq_iff_eq.2 ex
                    clear ex HZ
                    go_wp2_with fail
                    refine (Read HD9.out HF9.out (by decide) (j : Int) HW.out).mono ?_
                    rw [HRD.out.1, HRD.out.2, HSJ.out]
                    rintro e w10 ⟨rfl, rfl⟩
                    have z32 := HZ2.out
                    generalize hF : fillB s = F at *
                    have hX : ((F.extract 0 s.size).toList == s.toList) = true := by rw [← hF, fill_head]; exact beq_self_eq_true _
                    clear hF
                    go_wp2_with fail
                    go_roundg (gk - 1)
                    case measure => have := HA4.out; have := HJ.out; omega
                    case rel => exact ⟨j + 1, by go_num, rfl, ⟨by have := HA4.out; have := HJ.out; omega⟩⟩
                  · have HSJ := Aside0.mk (show seenD D9 (j : Int) = seenD D (j : Int) by rw [HSN.out, if_neg ex])
                    have e1 : ((j : Int) != x) = true := by rw [bne_iff_ne]; exact ex
                    have e2 : ((j : Int) == x) = false := beq_eq_false_iff_ne.2 ex
                    have HZ2 := Aside0.mk (show (seenD D (j : Int)).size = 32 by rw [← HSJ.out]; exact HZ.out)
                    clear ex HZ
                    go_wp2_with fail
                    refine (Read HD9.out HF9.out (by decide) (j : Int) HW.out).mono ?_
                    rw [HRD.out.1, HRD.out.2, HSJ.out]
                    rintro e w10 ⟨rfl, rfl⟩
                    have z32 := HZ2.out
                    generalize seenD D (j : Int) = F at *
                    have hX : (F.toList == F.toList) = true := beq_self_eq_true _
                    go_wp2_with fail
                    go_roundg (gk - 1)
                    case measure => have := HA4.out; have := HJ.out; omega
                    case rel => exact ⟨j + 1, by go_num, rfl, ⟨by have := HA4.out; have := HJ.out; omega⟩⟩
                · have c5b : decide ((j : Int) < 6) = false := decide_eq_false (by omega)
                  have c5n : decide (j < 6) = false := decide_eq_false c5
                  have HFL := Aside0.mk HL9.out.flush
                  have HSN2 := Aside0.mk (show ∀ y, seenD (flushD D9) y = if y = x then fillB s else seenD D y from fun y => by rw [HFL.out.2.1, seen_last]; exact HSN.out y)
                  have HWT := Aside0.mk (show ((flushD D9).wait.length : Int) = 0 by rw [HFL.out.2.1]; rfl)
                  clear c5 HA4
                  go_wp2_with fail
                  refine (Flush HD9.out HF9.out (by decide)).mono ?_
                  rw [HFL.out.1]
                  rintro e w11 ⟨rfl, hd11, hk11⟩
                  have HD11 := Aside0.mk hd11
                  have HS11 := Aside0.mk (HS9.out.keeps hk11)
                  have HF11 := Aside0.mk HF9t.out.flush
                  clear hd11 hk11
                  go_wp2_with fail
                  refine (Waiting HD11.out).mono ?_
                  rw [HWT.out]
                  rintro e w12 ⟨rfl, rfl⟩
                  go_wp2_with fail
                  go_roundg (gn - 1)
                  case measure => have := HA3.out.1; have := HT.out; omega
                  case rel => exact ⟨t + 1, by go_num, ⟨by have := HA3.out.1; have := HT.out; omega, _, HD11.out, HF11.out, HFL.out.2.2, HSN2.out, HS11.out⟩⟩
            · have c4b : decide ((t : Int) < 2) = false := decide_eq_false (by omega)
              have c4n : decide (t < 2) = false := decide_eq_false c4
              obtain ⟨hkk, D9, hd, hft, hlv, hsn, hsx⟩ := HA3.out
              have HB9 := Aside0.mk hd.below
              clear hkk hd hft hlv hsn hsx c4
              go_wp2_with fail
              go_ret
              exact ⟨rfl, HB9.out⟩
set_option maxRecDepth 100000 in
theorem apart_many (A0 : Option Addr) (c0 : Nat) (l : List S33) (x : Int) (s : ByteArray) (w : World) (hr : Kd.C k33 w A0 l.length l) (hc : l.length ≤ c0) (k : Nat) (hk : snapferrylaw03_Few.f k l = some false) :
    Calls Try.prog 4 #[.slice A0 l.length c0, .int .i64 x, .string s] w fun e w' => e = .returned (.bool true) ∧ Below w.heap.size w w' := by
  have HR := Aside0.mk hr
  have HC := Aside0.mk hc
  have HK := Aside0.mk hk
  clear hr hc hk
  go_enter Try.func4, Try.ntmps4
  go_wp2_with fail
  refine (awake _).mono ?_
  rintro e w1 ⟨rfl, hb1⟩
  have HB1 := Aside0.mk hb1
  clear hb1
  go_wp2_with fail
  refine (snapferrylaw03_Few.calls k _ _ l false _ (Kd.C_below HR.out HB1.out) HC.out HK.out).mono ?_
  rintro e w2 ⟨rfl, hd⟩
  have HB2 := Aside0.mk (show Below w.heap.size w w2 by obtain ⟨n, rfl⟩ := hd.out; exact pw_below_drewN HB1.out n)
  clear hd HB1
  go_wp2_with fail
  go_ret
  exact ⟨rfl, HB2.out⟩
set_option maxRecDepth 100000 in
theorem apart_out (A0 : Option Addr) (c0 : Nat) (l : List S33) (x : Int) (s : ByteArray) (w : World) (hr : Kd.C k33 w A0 l.length l) (hc : l.length ≤ c0) (k : Nat) (hk : snapferrylaw03_Few.f k l = some true) (ho : x < 0 ∨ 5 < x ∨ 32 < s.size) :
    Calls Try.prog 4 #[.slice A0 l.length c0, .int .i64 x, .string s] w fun e w' => e = .returned (.bool true) ∧ Below w.heap.size w w' := by
  have HR := Aside0.mk hr
  have HC := Aside0.mk hc
  have HK := Aside0.mk hk
  clear hr hc hk
  by_cases h1 : x < 0
  · have a1 : decide (x < 0) = true := decide_eq_true h1
    clear h1 ho
    go_enter Try.func4, Try.ntmps4
    go_wp2_with fail
    refine (awake _).mono ?_
    rintro e w1 ⟨rfl, hb1⟩
    have HB1 := Aside0.mk hb1
    clear hb1
    go_wp2_with fail
    refine (snapferrylaw03_Few.calls k _ _ l true _ (Kd.C_below HR.out HB1.out) HC.out HK.out).mono ?_
    rintro e w2 ⟨rfl, hd⟩
    have HB2 := Aside0.mk (show Below w.heap.size w w2 by obtain ⟨n, rfl⟩ := hd.out; exact pw_below_drewN HB1.out n)
    clear hd HB1
    go_wp2_with fail
    go_ret
    exact ⟨rfl, HB2.out⟩
  · have a1 : decide (x < 0) = false := decide_eq_false h1
    by_cases h2 : 5 < x
    · have a2 : decide (5 < x) = true := decide_eq_true h2
      clear h1 h2 ho
      go_enter Try.func4, Try.ntmps4
      go_wp2_with fail
      refine (awake _).mono ?_
      rintro e w1 ⟨rfl, hb1⟩
      have HB1 := Aside0.mk hb1
      clear hb1
      go_wp2_with fail
      refine (snapferrylaw03_Few.calls k _ _ l true _ (Kd.C_below HR.out HB1.out) HC.out HK.out).mono ?_
      rintro e w2 ⟨rfl, hd⟩
      have HB2 := Aside0.mk (show Below w.heap.size w w2 by obtain ⟨n, rfl⟩ := hd.out; exact pw_below_drewN HB1.out n)
      clear hd HB1
      go_wp2_with fail
      go_ret
      exact ⟨rfl, HB2.out⟩
    · have a2 : decide (5 < x) = false := decide_eq_false h2
      have h3 : 32 < s.size := by omega
      have a3 : decide ((32 : Int) < (s.size : Int)) = true := decide_eq_true (by omega)
      have a4 : decide (32 < s.size) = true := decide_eq_true h3
      clear h1 h2 h3 ho
      go_enter Try.func4, Try.ntmps4
      go_wp2_with fail
      refine (awake _).mono ?_
      rintro e w1 ⟨rfl, hb1⟩
      have HB1 := Aside0.mk hb1
      clear hb1
      go_wp2_with fail
      refine (snapferrylaw03_Few.calls k _ _ l true _ (Kd.C_below HR.out HB1.out) HC.out HK.out).mono ?_
      rintro e w2 ⟨rfl, hd⟩
      have HB2 := Aside0.mk (show Below w.heap.size w w2 by obtain ⟨n, rfl⟩ := hd.out; exact pw_below_drewN HB1.out n)
      clear hd HB1
      go_wp2_with fail
      go_ret
      exact ⟨rfl, HB2.out⟩
theorem apart_all (A0 : Option Addr) (c0 : Nat) (l : List S33) (x : Int) (s : ByteArray) (w : World) (hr : Kd.C k33 w A0 l.length l ∧ l.length ≤ 9223372036854775807 ∧ ∀ y ∈ l, Open.ActOk y) (hc : l.length ≤ c0) :
    Calls Try.prog 4 #[.slice A0 l.length c0, .int .i64 x, .string s] w fun e w' => e = .returned (.bool true) ∧ Below w.heap.size w w' := by
  rcases few_or l hr.2.1 with ⟨k, hk, hl⟩ | ⟨k, hk⟩
  · by_cases ho : x < 0 ∨ 5 < x ∨ 32 < s.size
    · exact apart_out A0 c0 l x s w hr.1 hc k hk ho
    · exact apart_walk A0 c0 l x s w hr.1 hc k hk hl (by omega) (by omega) (by omega)
  · exact apart_many A0 c0 l x s w hr.1 hc k hk
end Go.Proofs.Ytehodgcfejkomaa.Disk
