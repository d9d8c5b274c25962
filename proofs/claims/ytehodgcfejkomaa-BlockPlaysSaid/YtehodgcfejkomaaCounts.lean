/- BlockCounts: the walk of its body: for every input it returns true, and makes memory alone. No condition. -/
import Derived.Test.YtehodgcfejkomaaNew
import Derived.IntWalk
import Derived.OpenShut
namespace Go.Proofs.Ytehodgcfejkomaa.Disk
set_option linter.unusedVariables false
set_option linter.unusedSimpArgs false
open Go.RowKit Go.Proofs.Ytehodgcfejkomaa.Q Go.Proofs.YtehodgcfejkomaaW.PrintWords Go.Proofs.YtehodgcfejkomaaW.PrintMore
/-- It is on; its cut, how often it was used. -/
structure On (D : Dk) (at_ keep count size : Int) : Prop where
  down : D.down = false
  at_ : D.at_ = at_
  keep : D.keep = keep
  count : D.count = count
  size : D.size = size
structure Off (D : Dk) (count size : Int) : Prop where
  down : D.down = true
  at_ : D.at_ = 0
  keep : D.keep = 0
  count : D.count = count
  size : D.size = size
section
variable {D : Dk} {a k c z : Int}
theorem On.fails_hit (h : On D a k c z) (e : a = c + 1) : Off (failsD D) (c + 1) z := by
  unfold failsD
  rw [if_pos (by rw [h.at_, h.count]; exact e)]
  unfold crashD
  rw [if_neg (by show ¬ D.down = true; rw [h.down]; decide)]
  exact ⟨rfl, rfl, rfl, by show D.count + 1 = _; rw [h.count], h.size⟩
theorem On.fails_miss (h : On D a k c z) (e : a ≠ c + 1) : On (failsD D) a k (c + 1) z := by
  unfold failsD
  rw [if_neg (by rw [h.at_, h.count]; exact e)]
  exact ⟨h.down, h.at_, h.keep, by show D.count + 1 = _; rw [h.count], h.size⟩
theorem On.flush_hit (h : On D a k c z) (e : a = c + 1) : flushF D = 7 ∧ Off (flushD D) (c + 1) z := by
  unfold flushF flushD
  have e' : D.at_ = D.count + 1 := by rw [h.at_, h.count]; exact e
  rw [h.down, if_neg (by decide), if_pos e', if_neg (by decide), if_pos e']
  exact ⟨rfl, h.fails_hit e⟩
theorem On.flush_miss (h : On D a k c z) (e : a ≠ c + 1) : flushF D = 0 ∧ On (flushD D) a k (c + 1) z := by
  unfold flushF flushD
  have e' : ¬ D.at_ = D.count + 1 := by rw [h.at_, h.count]; exact e
  rw [h.down, if_neg (by decide), if_neg e', if_neg (by decide), if_neg e']
  exact ⟨rfl, ⟨h.down, h.at_, h.keep, by show D.count + 1 = _; rw [h.count], h.size⟩⟩
theorem On.put (h : On D a k c z) (x : Int) (s : ByteArray) : On (putD D x s) a k c z := ⟨h.down, h.at_, h.keep, h.count, h.size⟩
theorem On.write_hit (h : On D a k c z) (e : a = c + 1) {x : Int} (h0 : 0 ≤ x) (h1 : x < z) {s : ByteArray} (hs : s.size ≤ 32) : writeF D x s = 7 ∧ Off (writeD D x s) (c + 1) z := by
  unfold writeF writeD
  have e' : D.at_ = D.count + 1 := by rw [h.at_, h.count]; exact e
  have hx : ¬ (x < 0 ∨ D.size ≤ x) := by rw [h.size]; omega
  have hz : ¬ 32 < s.size := by omega
  rw [h.down, if_neg (by decide), if_neg hx, if_neg hz, if_pos e', if_neg (by decide), if_neg hx, if_neg hz]
  exact ⟨rfl, (h.put x s).fails_hit e⟩
theorem On.write_miss (h : On D a k c z) (e : a ≠ c + 1) {x : Int} (h0 : 0 ≤ x) (h1 : x < z) {s : ByteArray} (hs : s.size ≤ 32) : writeF D x s = 0 ∧ On (writeD D x s) a k (c + 1) z := by
  unfold writeF writeD
  have e' : ¬ D.at_ = D.count + 1 := by rw [h.at_, h.count]; exact e
  have hx : ¬ (x < 0 ∨ D.size ≤ x) := by rw [h.size]; omega
  have hz : ¬ 32 < s.size := by omega
  rw [h.down, if_neg (by decide), if_neg hx, if_neg hz, if_neg e', if_neg (by decide), if_neg hx, if_neg hz]
  exact ⟨rfl, (h.put x s).fails_miss e⟩
end
theorem arm_fit {D : Dk} {n : Nat} (h : Fit D n) (ca ck : Int) (h0 : 0 ≤ ck) (h1 : ck < 18446744073709551616) : Fit (armD D ca ck) n := by
  refine ⟨⟨h.ok.size0, h.ok.size1, h.ok.wait, h.ok.lasts, ?_, ?_⟩, h.room, Int.le_refl 0, by show (0 : Int) ≤ n; omega⟩
  · show 0 ≤ (if ca < 1 then 0 else ck); split <;> omega
  · show (if ca < 1 then 0 else ck) < _; split <;> omega
theorem arm_on (ca ck : Int) : On (armD (newD 2) ca ck) (if ca < 1 then 0 else ca) (if ca < 1 then 0 else ck) 0 2 ∧ ∀ i : Int, 0 ≤ i → ((if ca < 1 then 0 else ca) = i + 1 ↔ ca = i + 1) :=
  ⟨⟨rfl, rfl, rfl, rfl, rfl⟩, fun i hi => by split <;> omega⟩
/-- What the rounds keep: the cut's box, the disk, its counts. -/
structure Ct (w0 w : World) (g b gb : Nat) (ca ck : Int) (D : Dk) (n : Nat) : Prop where
  disk : Disk w0 w g b D
  box : w.heap[gb]? = some (.cells #[.int .i64 ca, .int .u64 ck] 31 (0, 0))
  fit : Fit D n
theorem Ct.move {w0 w w' : World} {g b gb : Nat} {ca ck : Int} {D D' : Dk} {n n' : Nat} (h : Ct w0 w g b gb ca ck D n) (hd : Disk w0 w' g b D') (hk : Keeps w w') (hf : Fit D' n') : Ct w0 w' g b gb ca ck D' n' :=
  ⟨hd, hk.cells h.box (by decide) (by decide), hf⟩
theorem Ct.draw {w0 w : World} {g b gb : Nat} {ca ck : Int} {D : Dk} {n : Nat} (h : Ct w0 w g b gb ca ck D n) (m : Nat) : Ct w0 (w.drewN m) g b gb ca ck D n :=
  ⟨h.disk.step (pw_below_drewN (Below.refl _ _) m), blk_below h.box (pw_below_drewN (Below.refl _ _) m), h.fit⟩
def rest (w0 : World) : Ending → World → Prop := fun e w' => e = .returned (.bool true) ∧ Below w0.heap.size w0 w'
set_option maxRecDepth 100000 in
set_option maxHeartbeats 8000000 in
theorem counts_walk (A0 : Option Addr) (c0 : Nat) (l : List Bool) (ca ck : Int) (w : World) (hr : Kd.C Kd.bool w A0 l.length l) (hc : l.length ≤ c0) (hl : l.length ≤ 60) (hck0 : 0 ≤ ck) (hck1 : ck < 18446744073709551616) :
    Calls Try.prog 7 #[.agg #[.int .i64 ca, .int .u64 ck], .slice A0 l.length c0] w fun e w' => e = .returned (.bool true) ∧ Below w.heap.size w w' := by
  have hu31 := Try.underlying31
  have d60 : decide ((60 : Int) < (l.length : Int)) = false := decide_eq_false (by omega)
  have HR := Aside0.mk hr
  have HC := Aside0.mk hc
  have HK := Aside0.mk (⟨hck0, hck1⟩ : _ ∧ _)
  clear hr hc hck0 hck1
  go_enter Try.func7, Try.ntmps7
  go_wp2_with fail
  refine (awake _).mono ?_
  rintro e w1 ⟨rfl, hb1⟩
  have HX1 := Aside0.mk (blk_below (blk_new w (.cells #[.int .i64 ca, .int .u64 ck] 31)) hb1)
  have HB1 := Aside0.mk (below_step (below_alloc (Below.refl w.heap.size w) (.cells #[.int .i64 ca, .int .u64 ck] 31)) hb1)
  clear hb1
  go_wp2_with fail
  refine (New HB1.out 2 (by decide) (by decide)).mono ?_
  rintro e w2 ⟨rfl, hd2, hb2⟩
  have HX2 := Aside0.mk (blk_below HX1.out hb2)
  have HD2 := Aside0.mk hd2
  clear hd2 hb2 HX1 HB1
  have y0 : w2.cell? ⟨w.heap.size, 0, none⟩ = some (.int .i64 ca) := blk_cell HX2.out 0
  have y1 : w2.cell? ⟨w.heap.size, 1, none⟩ = some (.int .u64 ck) := blk_cell HX2.out 1
  go_wp2_with fail
  refine (Arm HD2.out ca ck).mono ?_
  rintro e w3 ⟨rfl, hd3, hk3⟩
  have HT := Aside0.mk (show Ct w w3 (w1.heap.size + 1) w1.heap.size w.heap.size ca ck (armD (newD 2) ca ck) 0 from ⟨hd3, hk3.cells HX2.out (by decide) (by decide), arm_fit (newD_fit (by decide) (by decide)) ca ck HK.out.1 HK.out.2⟩)
  have HO := Aside0.mk (arm_on ca ck)
  clear hd3 hk3 HX2 HD2 y0 y1
  generalize (if ca < 1 then (0 : Int) else ca) = aa at *
  generalize (if ca < 1 then (0 : Int) else ck) = kk at *
  generalize armD (newD 2) ca ck = D0 at *
  generalize w1.heap.size + 1 = g at *
  generalize w1.heap.size = b at *
  generalize w.heap.size = gb at *
  go_wp2_with fail
  go_loopg [7] l.length (fun kq v7 wr => ∃ i : Nat, v7 = .int .i64 i ∧ Aside0 (i + kq = l.length ∧ ∃ D, Ct w wr g b gb ca ck D (2 * i) ∧ On D aa kk i 2))
  case atStart => exact ⟨0, rfl, ⟨Nat.zero_add _, D0, HT.out, HO.out.1⟩⟩
  case round =>
    obtain ⟨i, rfl, HA⟩ := hrel
    by_cases c2 : i < l.length
    · have c2b : decide ((i : Int) < (l.length : Int)) = true := decide_eq_true (by omega)
      obtain ⟨hkk, D, hct, hon⟩ := HA.out
      obtain ⟨ad, e1, hx0⟩ := Kd.at_bool HR.out (i : Int) (by omega) (by omega)
      have hx1 : w.cell? (ad.add i) = some (.bool (rdOf false l (i : Int))) := hx0
      have HLT := Aside0.mk (World.block_lt_of_cell? w _ hx1)
      have hx := (hct.disk.below.cell HLT.out).trans hx1
      cases e1
      have p104 := eq_true (show 0 ≤ (i : Int) by omega)
      have q104 := eq_true (show i < l.length by omega)
      have hib : i < 60 := by omega
      have hi2 : 0 ≤ (i : Int) % 2 ∧ (i : Int) % 2 < 2 := ⟨by omega, by omega⟩
      have HI := Aside0.mk hi2
      have y0 : wr.cell? ⟨gb, 0, none⟩ = some (.int .i64 ca) := blk_cell hct.box 0
      have HCT := Aside0.mk hct
      have HON := Aside0.mk hon
      clear hkk hct hon hx0 hx1 c2 hi2
      generalize rdOf false l (i : Int) = fl at *
      cases fl with
      | true =>
        by_cases hh : ca = (i : Int) + 1
        · have HF := Aside0.mk (HON.out.flush_hit ((HO.out.2 i (by omega)).2 hh))
          have d9 : (ca == (i : Int) + 1) = true := beq_iff_eq.2 hh
          have d10 : (ca != (i : Int) + 1) = false := bne_eq_false_iff_eq.2 hh
          clear hh
          go_wp2_with fail
          refine (Flush HCT.out.disk HCT.out.fit (by omega)).mono ?_
          rw [HF.out.1]
          rintro e w4 ⟨rfl, hd4, hk4⟩
          have HCT4 := Aside0.mk (HCT.out.move (n' := 2 * i + 2) hd4 hk4 (HCT.out.fit.flush.mono (by omega)))
          have HOF := Aside0.mk HF.out.2
          clear hd4 hk4 HF HCT hx y0
          generalize flushD D = D4 at *
          have y0 : w4.cell? ⟨gb, 0, none⟩ = some (.int .i64 ca) := blk_cell HCT4.out.box 0
          go_upto_region 16 with fail
          have hw1 : IntKind.i64.wrap ((i : Int) + 1) = (i : Int) + 1 := IntWalk.i64_in _ (by omega)
          go_quiet ((go_at_call 24; exact Calls.quiet_of_same ((Down ((HCT4.out.draw _).disk)).mono (fun _ _ ⟨h1, h2⟩ => ⟨h1.trans (by rw [HOF.out.down]), h2⟩))))
          clear hw1
          go_wp2_with fail
          refine (Down (HCT4.out.draw nq).disk).mono ?_
          rw [HOF.out.down]
          rintro e w5 ⟨rfl, rfl⟩
          go_wp2_with fail
          refine (Start (HCT4.out.draw nq).disk).mono ?_
          rintro e w6 ⟨rfl, hd6, hk6⟩
          have HCT6 := Aside0.mk ((HCT4.out.draw nq).move hd6 hk6 HCT4.out.fit.start)
          have HO6 := Aside0.mk (show On { D4 with down := false } 0 0 ((i : Int) + 1) 2 from ⟨rfl, HOF.out.at_, HOF.out.keep, HOF.out.count, HOF.out.size⟩)
          clear hd6 hk6 HCT4 HOF
          generalize { D4 with down := false } = D6 at *
          clear y0 d9 d10 c2b p104 q104
          go_wp2_with fail
          obtain ⟨wo, rfl⟩ : ∃ W, W = wr := ⟨_, rfl⟩
          go_loopg [9] 5 (fun kq v9 w' => ∃ k : Nat, v9 = .int .i64 k ∧ Aside0 (k + kq = 5 ∧ ∃ D, Ct w w' g b gb ca ck D (2 * i + 2 + 3 * k) ∧ On D 0 0 ((i : Int) + 1 + 2 * k) 2))
          case atStart => exact ⟨0, rfl, ⟨rfl, D6, HCT6.out, ⟨HO6.out.down, HO6.out.at_, HO6.out.keep, HO6.out.count.trans (by omega), HO6.out.size⟩⟩⟩
          case round =>
            obtain ⟨k, rfl, HA⟩ := hrel
            clear HCT6 HO6
            by_cases c3 : k < 5
            · have c3b : decide ((k : Int) < 5) = true := decide_eq_true (by omega)
              have HK5 := Aside0.mk c3
              obtain ⟨hkk, D, hct, hon⟩ := HA.out
              have HCT7 := Aside0.mk hct
              have HF7 := Aside0.mk (hon.write_miss (by omega) (x := 0) (by decide) (by decide) (s := ⟨#[121]⟩) (by decide))
              have HG7 := Aside0.mk (HF7.out.2.flush_miss (by omega))
              clear hct hon hkk
              go_wp2_with fail
              refine (Write HCT7.out.disk HCT7.out.fit (by omega) 0 ⟨#[121]⟩).mono ?_
              rw [HF7.out.1]
              rintro e w7 ⟨rfl, hd7, hk7⟩
              have HCT8 := Aside0.mk (HCT7.out.move hd7 hk7 (HCT7.out.fit.write _ _))
              clear hd7 hk7
              go_wp2_with fail
              refine (Flush HCT8.out.disk HCT8.out.fit (by omega)).mono ?_
              rw [HG7.out.1]
              rintro e w8 ⟨rfl, hd8, hk8⟩
              have HCT9 := Aside0.mk (HCT8.out.move hd8 hk8 HCT8.out.fit.flush)
              clear hd8 hk8
              go_wp2_with fail
              go_roundg (gk - 1)
              case measure => have := HA.out.1; have := HK5.out; omega
              case rel => exact ⟨k + 1, by go_num, ⟨by have := HA.out.1; have := HK5.out; omega, _, HCT9.out, ⟨HG7.out.2.down, HG7.out.2.at_, HG7.out.2.keep, HG7.out.2.count.trans (by omega), HG7.out.2.size⟩⟩⟩
            · have c3b : decide ((k : Int) < 5) = false := decide_eq_false (by omega)
              obtain ⟨hkk, D, hct, hon⟩ := HA.out
              have HCT7 := Aside0.mk hct
              have HD7 := Aside0.mk hon.down
              clear hct hon hkk c3
              go_wp2_with fail
              refine (Down HCT7.out.disk).mono ?_
              rw [HD7.out]
              rintro e w7 ⟨rfl, rfl⟩
              go_wp2_with fail
              go_ret
              exact ⟨rfl, HCT7.out.disk.below⟩
        · have HF := Aside0.mk (HON.out.flush_miss (fun e => hh ((HO.out.2 i (by omega)).1 e)))
          have d9 : (ca == (i : Int) + 1) = false := beq_eq_false_iff_ne.2 hh
          have d10 : (ca != (i : Int) + 1) = true := by rw [bne_iff_ne]; exact hh
          clear hh
          go_wp2_with fail
          refine (Flush HCT.out.disk HCT.out.fit (by omega)).mono ?_
          rw [HF.out.1]
          rintro e w4 ⟨rfl, hd4, hk4⟩
          have HCT4 := Aside0.mk (HCT.out.move (n' := 2 * i + 2) hd4 hk4 (HCT.out.fit.flush.mono (by omega)))
          have HOF := Aside0.mk HF.out.2
          clear hd4 hk4 HF HCT hx y0
          generalize flushD D = D4 at *
          have y0 : w4.cell? ⟨gb, 0, none⟩ = some (.int .i64 ca) := blk_cell HCT4.out.box 0
          go_upto_region 16 with fail
          have hw1 : IntKind.i64.wrap ((i : Int) + 1) = (i : Int) + 1 := IntWalk.i64_in _ (by omega)
          go_quiet ((go_at_call 24; exact Calls.quiet_of_same ((Down ((HCT4.out.draw _).disk)).mono (fun _ _ ⟨h1, h2⟩ => ⟨h1.trans (by rw [HOF.out.down]), h2⟩))))
          clear hw1
          go_wp2_with fail
          refine (Down (HCT4.out.draw nq).disk).mono ?_
          rw [HOF.out.down]
          rintro e w5 ⟨rfl, rfl⟩
          go_wp2_with fail
          go_roundg (gk - 1)
          case measure => have := HA.out.1; have := of_eq_true q104; omega
          case rel => exact ⟨i + 1, by go_num, ⟨by have := HA.out.1; have := of_eq_true q104; omega, D4, HCT4.out.draw nq, ⟨HOF.out.down, HOF.out.at_, HOF.out.keep, HOF.out.count.trans (by omega), HOF.out.size⟩⟩⟩
      | false =>
        by_cases hh : ca = (i : Int) + 1
        · have HF := Aside0.mk (HON.out.write_hit ((HO.out.2 i (by omega)).2 hh) HI.out.1 HI.out.2 (s := ⟨#[120]⟩) (by decide))
          have d9 : (ca == (i : Int) + 1) = true := beq_iff_eq.2 hh
          have d10 : (ca != (i : Int) + 1) = false := bne_eq_false_iff_eq.2 hh
          clear hh
          go_wp2_with fail
          refine (Write HCT.out.disk HCT.out.fit (by omega) ((i : Int) % 2) ⟨#[120]⟩).mono ?_
          rw [HF.out.1]
          rintro e w4 ⟨rfl, hd4, hk4⟩
          have HCT4 := Aside0.mk (HCT.out.move (n' := 2 * i + 2) hd4 hk4 (HCT.out.fit.write _ _))
          have HOF := Aside0.mk HF.out.2
          clear hd4 hk4 HF HCT hx y0
          generalize writeD D ((i : Int) % 2) ⟨#[120]⟩ = D4 at *
          have y0 : w4.cell? ⟨gb, 0, none⟩ = some (.int .i64 ca) := blk_cell HCT4.out.box 0
          go_upto_region 16 with fail
          have hw1 : IntKind.i64.wrap ((i : Int) + 1) = (i : Int) + 1 := IntWalk.i64_in _ (by omega)
          go_quiet ((go_at_call 24; exact Calls.quiet_of_same ((Down ((HCT4.out.draw _).disk)).mono (fun _ _ ⟨h1, h2⟩ => ⟨h1.trans (by rw [HOF.out.down]), h2⟩))))
          clear hw1
          go_wp2_with fail
          refine (Down (HCT4.out.draw nq).disk).mono ?_
          rw [HOF.out.down]
          rintro e w5 ⟨rfl, rfl⟩
          go_wp2_with fail
          refine (Start (HCT4.out.draw nq).disk).mono ?_
          rintro e w6 ⟨rfl, hd6, hk6⟩
          have HCT6 := Aside0.mk ((HCT4.out.draw nq).move hd6 hk6 HCT4.out.fit.start)
          have HO6 := Aside0.mk (show On { D4 with down := false } 0 0 ((i : Int) + 1) 2 from ⟨rfl, HOF.out.at_, HOF.out.keep, HOF.out.count, HOF.out.size⟩)
          clear hd6 hk6 HCT4 HOF
          generalize { D4 with down := false } = D6 at *
          clear y0 d9 d10 c2b p104 q104
          go_wp2_with fail
          obtain ⟨wo, rfl⟩ : ∃ W, W = wr := ⟨_, rfl⟩
          go_loopg [9] 5 (fun kq v9 w' => ∃ k : Nat, v9 = .int .i64 k ∧ Aside0 (k + kq = 5 ∧ ∃ D, Ct w w' g b gb ca ck D (2 * i + 2 + 3 * k) ∧ On D 0 0 ((i : Int) + 1 + 2 * k) 2))
          case atStart => exact ⟨0, rfl, ⟨rfl, D6, HCT6.out, ⟨HO6.out.down, HO6.out.at_, HO6.out.keep, HO6.out.count.trans (by omega), HO6.out.size⟩⟩⟩
          case round =>
            obtain ⟨k, rfl, HA⟩ := hrel
            clear HCT6 HO6
            by_cases c3 : k < 5
            · have c3b : decide ((k : Int) < 5) = true := decide_eq_true (by omega)
              have HK5 := Aside0.mk c3
              obtain ⟨hkk, D, hct, hon⟩ := HA.out
              have HCT7 := Aside0.mk hct
              have HF7 := Aside0.mk (hon.write_miss (by omega) (x := 0) (by decide) (by decide) (s := ⟨#[121]⟩) (by decide))
              have HG7 := Aside0.mk (HF7.out.2.flush_miss (by omega))
              clear hct hon hkk
              go_wp2_with fail
              refine (Write HCT7.out.disk HCT7.out.fit (by omega) 0 ⟨#[121]⟩).mono ?_
              rw [HF7.out.1]
              rintro e w7 ⟨rfl, hd7, hk7⟩
              have HCT8 := Aside0.mk (HCT7.out.move hd7 hk7 (HCT7.out.fit.write _ _))
              clear hd7 hk7
              go_wp2_with fail
              refine (Flush HCT8.out.disk HCT8.out.fit (by omega)).mono ?_
              rw [HG7.out.1]
              rintro e w8 ⟨rfl, hd8, hk8⟩
              have HCT9 := Aside0.mk (HCT8.out.move hd8 hk8 HCT8.out.fit.flush)
              clear hd8 hk8
              go_wp2_with fail
              go_roundg (gk - 1)
              case measure => have := HA.out.1; have := HK5.out; omega
              case rel => exact ⟨k + 1, by go_num, ⟨by have := HA.out.1; have := HK5.out; omega, _, HCT9.out, ⟨HG7.out.2.down, HG7.out.2.at_, HG7.out.2.keep, HG7.out.2.count.trans (by omega), HG7.out.2.size⟩⟩⟩
            · have c3b : decide ((k : Int) < 5) = false := decide_eq_false (by omega)
              obtain ⟨hkk, D, hct, hon⟩ := HA.out
              have HCT7 := Aside0.mk hct
              have HD7 := Aside0.mk hon.down
              clear hct hon hkk c3
              go_wp2_with fail
              refine (Down HCT7.out.disk).mono ?_
              rw [HD7.out]
              rintro e w7 ⟨rfl, rfl⟩
              go_wp2_with fail
              go_ret
              exact ⟨rfl, HCT7.out.disk.below⟩
        · have HF := Aside0.mk (HON.out.write_miss (fun e => hh ((HO.out.2 i (by omega)).1 e)) HI.out.1 HI.out.2 (s := ⟨#[120]⟩) (by decide))
          have d9 : (ca == (i : Int) + 1) = false := beq_eq_false_iff_ne.2 hh
          have d10 : (ca != (i : Int) + 1) = true := by rw [bne_iff_ne]; exact hh
          clear hh
          go_wp2_with fail
          refine (Write HCT.out.disk HCT.out.fit (by omega) ((i : Int) % 2) ⟨#[120]⟩).mono ?_
          rw [HF.out.1]
          rintro e w4 ⟨rfl, hd4, hk4⟩
          have HCT4 := Aside0.mk (HCT.out.move (n' := 2 * i + 2) hd4 hk4 (HCT.out.fit.write _ _))
          have HOF := Aside0.mk HF.out.2
          clear hd4 hk4 HF HCT hx y0
          generalize writeD D ((i : Int) % 2) ⟨#[120]⟩ = D4 at *
          have y0 : w4.cell? ⟨gb, 0, none⟩ = some (.int .i64 ca) := blk_cell HCT4.out.box 0
          go_upto_region 16 with fail
          have hw1 : IntKind.i64.wrap ((i : Int) + 1) = (i : Int) + 1 := IntWalk.i64_in _ (by omega)
          go_quiet ((go_at_call 24; exact Calls.quiet_of_same ((Down ((HCT4.out.draw _).disk)).mono (fun _ _ ⟨h1, h2⟩ => ⟨h1.trans (by rw [HOF.out.down]), h2⟩))))
          clear hw1
          go_wp2_with fail
          refine (Down (HCT4.out.draw nq).disk).mono ?_
          rw [HOF.out.down]
          rintro e w5 ⟨rfl, rfl⟩
          go_wp2_with fail
          go_roundg (gk - 1)
          case measure => have := HA.out.1; have := of_eq_true q104; omega
          case rel => exact ⟨i + 1, by go_num, ⟨by have := HA.out.1; have := of_eq_true q104; omega, D4, HCT4.out.draw nq, ⟨HOF.out.down, HOF.out.at_, HOF.out.keep, HOF.out.count.trans (by omega), HOF.out.size⟩⟩⟩
    · have c2b : decide ((i : Int) < (l.length : Int)) = false := decide_eq_false (by omega)
      have c2n : decide (i < l.length) = false := decide_eq_false c2
      obtain ⟨hkk, D, hct, hon⟩ := HA.out
      have HB := Aside0.mk hct.disk.below
      clear hkk hct hon c2
      go_wp2_with fail
      go_ret
      exact ⟨rfl, HB.out⟩
set_option maxRecDepth 100000 in
theorem counts_many (A0 : Option Addr) (c0 : Nat) (l : List Bool) (ca ck : Int) (w : World) (hl : 60 < l.length) :
    Calls Try.prog 7 #[.agg #[.int .i64 ca, .int .u64 ck], .slice A0 l.length c0] w fun e w' => e = .returned (.bool true) ∧ Below w.heap.size w w' := by
  have hu31 := Try.underlying31
  have d60 : decide ((60 : Int) < (l.length : Int)) = true := decide_eq_true (by omega)
  have d61 : decide (60 < l.length) = true := decide_eq_true hl
  clear hl
  go_enter Try.func7, Try.ntmps7
  go_wp2_with fail
  refine (awake _).mono ?_
  rintro e w1 ⟨rfl, hb1⟩
  have HB1 := Aside0.mk (below_step (below_alloc (Below.refl w.heap.size w) (.cells #[.int .i64 ca, .int .u64 ck] 31)) hb1)
  clear hb1
  go_wp2_with fail
  go_ret
  exact ⟨rfl, HB1.out⟩
theorem counts_all (A0 : Option Addr) (c0 : Nat) (l : List Bool) (ca ck : Int) (w : World) (hr : Kd.C Kd.bool w A0 l.length l ∧ l.length ≤ 9223372036854775807) (hc : l.length ≤ c0) (hk : (Lit.int .u64 ck).wf = true) :
    Calls Try.prog 7 #[.agg #[.int .i64 ca, .int .u64 ck], .slice A0 l.length c0] w fun e w' => e = .returned (.bool true) ∧ Below w.heap.size w w' := by
  have hb := Go.bounds_u64 hk
  by_cases h : l.length ≤ 60
  · exact counts_walk A0 c0 l ca ck w hr.1 hc h hb.1 (by have := hb.2; omega)
  · exact counts_many A0 c0 l ca ck w (by omega)
end Go.Proofs.Ytehodgcfejkomaa.Disk
