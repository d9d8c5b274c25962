/- BlockKeeps: the walk of its body: for every input it returns true, and makes memory alone. No condition. -/
import Derived.Test.YtehodgcfejkomaaCounts
namespace Go.Proofs.Ytehodgcfejkomaa.Disk
set_option linter.unusedVariables false
set_option linter.unusedSimpArgs false
open Go.RowKit Go.Proofs.Ytehodgcfejkomaa.Q Go.Proofs.YtehodgcfejkomaaW.PrintWords Go.Proofs.YtehodgcfejkomaaW.PrintMore
def XX : ByteArray := fillB ⟨#[120]⟩
def row (f n : Nat) : List S75 := (List.range n).map fun k => ⟨((f + k : Nat) : Int), XX⟩
def upto (f : Nat) : Int → Option ByteArray := fun j => if 0 ≤ j ∧ j < (f : Int) then some XX else none
theorem row_len (f n : Nat) : (row f n).length = n := by simp [row]
theorem row_at (f n k : Nat) (h : k < n) : rd_T75 (row f n) (k : Int) = ⟨((f + k : Nat) : Int), XX⟩ := by
  unfold rd_T75 row
  rw [List.getD_eq_getElem?_getD, Int.toNat_natCast]
  simp [h]
theorem row_snoc (f n : Nat) : row f (n + 1) = row f n ++ [⟨((f + n : Nat) : Int), XX⟩] := by
  unfold row
  rw [List.range_succ, List.map_append]
  rfl
/-- The writes of a row that are kept. -/
theorem lastTo_row (kept : Nat → Bool) (g : Int → Option ByteArray) (f n : Nat) : ∀ m, m ≤ n → ∀ j, lastTo kept g (row f n) m j = if (f : Int) ≤ j ∧ j < ((f + m : Nat) : Int) ∧ kept (j - f).toNat = true then some XX else g j
  | 0, _, j => by
    rw [if_neg (by omega)]
    rfl
  | m + 1, h, j => by
    have ih := lastTo_row kept g f n m (by omega)
    simp only [lastTo]
    rw [row_at f n m (by omega)]
    cases hk : kept m with
    | false =>
      rw [if_neg (by decide), ih j]
      by_cases e : j = ((f + m : Nat) : Int)
      · subst e
        rw [if_neg (by omega), if_neg (by rw [show (((f + m : Nat) : Int) - f).toNat = m by omega, hk]; simp)]
      · congr 1
        apply propext
        constructor
        · rintro ⟨a, b, c⟩; exact ⟨a, by omega, c⟩
        · rintro ⟨a, b, c⟩; exact ⟨a, by omega, c⟩
    | true =>
      rw [if_pos rfl]
      unfold upd
      by_cases e : j = ((f + m : Nat) : Int)
      · subst e
        rw [if_pos rfl, if_pos ⟨by omega, by omega, by rw [show (((f + m : Nat) : Int) - f).toNat = m by omega, hk]⟩]
      · rw [if_neg e, ih j]
        congr 1
        apply propext
        constructor
        · rintro ⟨a, b, c⟩; exact ⟨a, by omega, c⟩
        · rintro ⟨a, b, c⟩; exact ⟨a, by omega, c⟩
structure St (D : Dk) (c f m : Nat) : Prop where
  on : ∃ cnt : Int, 0 ≤ cnt ∧ On D 0 0 cnt c
  wait : D.wait = row f m
  lasts : D.lasts = upto f
theorem St.flush {D : Dk} {c m : Nat} (h : St D c 0 m) : flushF D = 0 ∧ St (flushD D) c m 0 := by
  obtain ⟨cnt, h0, ho⟩ := h.on
  have hm := ho.flush_miss (by omega)
  refine ⟨hm.1, ⟨cnt + 1, by omega, hm.2⟩, ?_, ?_⟩
  · unfold flushD
    rw [ho.down, if_neg (by decide), if_neg (by rw [ho.at_, ho.count]; omega)]
    rfl
  · unfold flushD
    rw [ho.down, if_neg (by decide), if_neg (by rw [ho.at_, ho.count]; omega)]
    show lastTo (fun _ => true) D.lasts D.wait D.wait.length = _
    rw [h.wait, row_len, h.lasts]
    funext j
    rw [lastTo_row _ _ _ _ _ (Nat.le_refl _)]
    unfold upto
    by_cases e : 0 ≤ j ∧ j < (m : Int)
    · rw [if_pos ⟨by omega, by omega, rfl⟩, if_pos e]
    · rw [if_neg (by omega), if_neg e, if_neg (by omega)]
theorem St.write {D : Dk} {c f m : Nat} (h : St D c f m) (i : Nat) (hi : i = f + m) (hc : i < c) : writeF D i ⟨#[120]⟩ = 0 ∧ St (writeD D i ⟨#[120]⟩) c f (m + 1) := by
  obtain ⟨cnt, h0, ho⟩ := h.on
  have hm := ho.write_miss (by omega) (x := (i : Int)) (by omega) (by omega) (s := ⟨#[120]⟩) (by decide)
  have e1 : writeD D i ⟨#[120]⟩ = countD (putD D i ⟨#[120]⟩) := by
    unfold writeD failsD
    rw [ho.down, if_neg (by decide), if_neg (by rw [ho.size]; omega), if_neg (by decide), if_neg (by show ¬ D.at_ = D.count + 1; rw [ho.at_, ho.count]; omega)]
  refine ⟨hm.1, ⟨cnt + 1, by omega, hm.2⟩, ?_, ?_⟩
  · rw [e1]
    show D.wait ++ [_] = _
    rw [h.wait, row_snoc, hi]
    rfl
  · rw [e1]
    exact h.lasts
/-- Behind the failure. -/
def behind (keep : Int) (f m : Nat) (j : Int) : Option ByteArray := if (f : Int) ≤ j ∧ j < ((f + m : Nat) : Int) ∧ keptB keep (j - f).toNat = true then some XX else upto f j
theorem St.crash {D : Dk} {c f m : Nat} (h : St D c f m) (keep : Int) : (crashD D keep).down = true ∧ (crashD D keep).size = c ∧ (crashD D keep).wait = [] ∧ (crashD D keep).lasts = behind keep f m := by
  obtain ⟨cnt, h0, ho⟩ := h.on
  unfold crashD
  rw [ho.down, if_neg (by decide)]
  refine ⟨rfl, ho.size, rfl, ?_⟩
  show lastTo (keptB keep) D.lasts D.wait D.wait.length = _
  rw [h.wait, row_len, h.lasts]
  funext j
  exact lastTo_row _ _ _ _ _ (Nat.le_refl _) j
def f0x : ByteArray := ⟨#[120, 0, 0, 0, 0, 0, 0, 0, 0, 0, 0, 0, 0, 0, 0, 0, 0, 0, 0, 0, 0, 0, 0, 0, 0, 0, 0, 0, 0, 0, 0, 0]⟩
theorem XX_eq : XX = f0x := by kernel_rfl
def pickB (b : Bool) : ByteArray := if b then f0x else empty32
theorem read_row {D : Dk} {c : Nat} (hd : D.down = false) (hs : D.size = c) (hw : D.wait = []) (j : Nat) (hj : j < c) {b : Bool} (hl : D.lasts j = if b then some XX else none) :
    readF D j = 0 ∧ readS D j = pickB b := by
  have hx : ¬ ((j : Int) < 0 ∨ D.size ≤ j) := by rw [hs]; omega
  unfold readF readS seenD
  rw [hd, if_neg (by decide), if_neg hx, if_neg (by decide), if_neg hx, hw, hl]
  refine ⟨rfl, ?_⟩
  cases b with
  | true => rw [if_pos rfl]; show XX = _; rw [XX_eq]; rfl
  | false => rfl
/-- What the law asks of sector j. -/
def lastsB (keep : Int) (c F j : Nat) : Bool := if F = c then keptB keep j else if j < F then true else keptB keep (j - F)
theorem behind_B (keep : Int) (c F j : Nat) (hF : F ≤ c) (hj : j < c) : behind keep (if F < c then F else 0) (c - (if F < c then F else 0)) j = if lastsB keep c F j then some XX else none := by
  unfold behind lastsB upto
  by_cases e : F < c
  · rw [if_pos e, if_neg (show ¬ F = c by omega)]
    by_cases h : j < F
    · rw [if_neg (by omega), if_pos ⟨by omega, by omega⟩, if_pos h]
      rfl
    · rw [if_neg h, show ((j : Int) - (F : Int)).toNat = j - F by omega]
      cases hk : keptB keep (j - F) with
      | true => rw [if_pos ⟨by omega, by omega, rfl⟩]; rfl
      | false => rw [if_neg (by simp), if_neg (by omega)]; rfl
  · have e' : F = c := by omega
    rw [if_neg e, if_pos e', show ((j : Int) - ((0 : Nat) : Int)).toNat = j by omega]
    cases hk : keptB keep j with
    | true => rw [if_pos ⟨by omega, by omega, rfl⟩]; rfl
    | false => rw [if_neg (by simp), if_neg (by omega)]; rfl
theorem tmod_bit (keep : Int) (h0 : 0 ≤ keep) (k : Nat) : ((keep / 2 ^ k).tmod 2 == 1) = decide (keep / 2 ^ k % 2 = 1) := by
  have hp : (0 : Int) < 2 ^ k := Int.pow_pos (by decide)
  have e0 : 0 ≤ keep / 2 ^ k := Int.ediv_nonneg h0 (Int.le_of_lt hp)
  rw [Int.tmod_eq_emod_of_nonneg e0]
  exact Bool.eq_iff_iff.2 (by simp)
set_option maxRecDepth 100000 in
set_option maxHeartbeats 16000000 in
theorem keeps_walk (n fl keep : Int) (w : World) (hn : 0 ≤ n ∧ n ≤ 255) (hf : 0 ≤ fl ∧ fl ≤ 255) (h0 : 0 ≤ keep) (h1 : keep < 18446744073709551616) :
    Calls Try.prog 5 #[.int .u8 n, .int .u8 fl, .int .u64 keep] w fun e w' => e = .returned (.bool true) ∧ Below w.heap.size w w' := by
  obtain ⟨hn0, hn1⟩ := hn
  obtain ⟨hf0, hf1⟩ := hf
  obtain ⟨c, hc⟩ : ∃ c : Nat, 1 + n % 80 = (c : Int) := ⟨(1 + n % 80).toNat, by omega⟩
  have hc1 : 1 ≤ c := by omega
  have hc2 : c ≤ 80 := by omega
  obtain ⟨F, hF⟩ : ∃ F : Nat, fl % ((c : Int) + 1) = (F : Int) := ⟨(fl % ((c : Int) + 1)).toNat, by have := Int.emod_nonneg fl (show (c : Int) + 1 ≠ 0 by omega); omega⟩
  have hFc : F ≤ c := by have := Int.emod_lt_of_pos fl (show (0 : Int) < (c : Int) + 1 by omega); omega
  have HK := Aside0.mk (⟨h0, h1⟩ : _ ∧ _)
  have HC := Aside0.mk hc
  have HF := Aside0.mk hF
  clear h1 hc hF
  go_enter Try.func5, Try.ntmps5
  go_wp2_with fail
  refine (awake _).mono ?_
  rintro e w1 ⟨rfl, hb1⟩
  have HB1 := Aside0.mk hb1
  clear hb1
  go_wp2_with fail
  rw [HC.out, HF.out]
  refine (New HB1.out (c : Int) (by omega) (by omega)).mono ?_
  rintro e w2 ⟨rfl, hd2, hb2⟩
  have HD := Aside0.mk hd2
  have HS := Aside0.mk (newD_fit (n := (c : Int)) (by omega) (by omega))
  have HT := Aside0.mk (show St (newD (c : Int)) c 0 0 from ⟨⟨0, Int.le_refl 0, rfl, rfl, rfl, rfl, rfl⟩, rfl, by
    funext j
    show none = upto 0 j
    unfold upto
    rw [if_neg (by omega)]⟩)
  clear hd2 hb2 HC HF hn0 hn1 hf0 hf1
  generalize newD (c : Int) = D0 at *
  generalize w1.heap.size + 1 = g at *
  generalize w1.heap.size = b at *
  go_wp2_with fail
  go_loopg [11] c (fun kq v11 wr => ∃ i : Nat, v11 = .int .i64 i ∧ Aside0 (i + kq = c ∧ ∃ D, Disk w wr g b D ∧ Fit D (3 * i) ∧ St D c (if F < i then F else 0) (i - (if F < i then F else 0))))
  case atStart => exact ⟨0, rfl, ⟨Nat.zero_add _, D0, HD.out, HS.out, HT.out⟩⟩
  case round =>
    obtain ⟨i, rfl, HA⟩ := hrel
    by_cases c2 : i < c
    · have c2b : decide ((i : Int) < (c : Int)) = true := decide_eq_true (by omega)
      have c2n : decide (i < c) = true := decide_eq_true c2
      obtain ⟨hkk, D, hd, hft, hst⟩ := HA.out
      have hib : i < 80 := by omega
      have HI := Aside0.mk c2
      have HD1 := Aside0.mk hd
      have HF1 := Aside0.mk hft
      by_cases ce : i = F
      · have d1 : ((i : Int) == (F : Int)) = true := beq_iff_eq.2 (by omega)
        have d2 : (i == F) = true := beq_iff_eq.2 ce
        rw [if_neg (by omega), Nat.sub_zero] at hst
        have HS1 := Aside0.mk hst.flush
        have HS2 := Aside0.mk (hst.flush.2.write i (Nat.add_zero i).symm c2)
        have HE := Aside0.mk ce
        clear hkk hd hft hst c2 ce
        go_wp2_with fail
        refine (Flush HD1.out HF1.out (by omega)).mono ?_
        rw [HS1.out.1]
        rintro e w3 ⟨rfl, hd3, _⟩
        have HD3 := Aside0.mk hd3
        clear hd3
        go_wp2_with fail
        refine (Write HD3.out HF1.out.flush (by omega) (i : Int) ⟨#[120]⟩).mono ?_
        rw [HS2.out.1]
        rintro e w4 ⟨rfl, hd4, _⟩
        have HD4 := Aside0.mk hd4
        clear hd4
        go_wp2_with fail
        go_roundg (gk - 1)
        case measure => have := HA.out.1; have := HI.out; omega
        case rel => exact ⟨i + 1, by go_num, ⟨by have := HA.out.1; have := HI.out; omega, _, HD4.out, HF1.out.flush.write _ _, by
          have h := HS2.out.2
          have e := HE.out
          rw [if_pos (by omega), ← e, show i + 1 - i = 0 + 1 by omega]
          exact h⟩⟩
      · have d1 : ((i : Int) == (F : Int)) = false := beq_eq_false_iff_ne.2 (by omega)
        have d2 : (i == F) = false := beq_eq_false_iff_ne.2 ce
        have HS2 := Aside0.mk (hst.write i (by split <;> omega) c2)
        have HE := Aside0.mk ce
        clear hkk hd hft hst c2 ce
        go_wp2_with fail
        refine (Write HD1.out HF1.out (by omega) (i : Int) ⟨#[120]⟩).mono ?_
        rw [HS2.out.1]
        rintro e w4 ⟨rfl, hd4, _⟩
        have HD4 := Aside0.mk hd4
        clear hd4
        go_wp2_with fail
        go_roundg (gk - 1)
        case measure => have := HA.out.1; have := HI.out; omega
        case rel => exact ⟨i + 1, by go_num, ⟨by have := HA.out.1; have := HI.out; omega, _, HD4.out, (HF1.out.write _ _).mono (by omega), by
          have h := HS2.out.2
          have e := HE.out
          have e1 : (if F < i + 1 then F else 0) = (if F < i then F else 0) := by
            by_cases q : F < i
            · rw [if_pos q, if_pos (by omega)]
            · rw [if_neg q, if_neg (by omega)]
          rw [e1, show i + 1 - (if F < i then F else 0) = i - (if F < i then F else 0) + 1 by split <;> omega]
          exact h⟩⟩
    · have c2b : decide ((i : Int) < (c : Int)) = false := decide_eq_false (by omega)
      have c2n : decide (i < c) = false := decide_eq_false c2
      obtain ⟨hkk, D, hd, hft, hst⟩ := HA.out
      have e : i = c := by omega
      subst e
      have HD1 := Aside0.mk hd
      have HF1 := Aside0.mk hft
      have HB := Aside0.mk (hst.crash keep)
      clear hkk hd hft hst c2 HD HS HT
      go_wp2_with fail
      refine (Crash HD1.out HF1.out (by omega) keep HK.out.1 HK.out.2).mono ?_
      rintro e w3 ⟨rfl, hd3, _⟩
      have HD3 := Aside0.mk hd3
      clear hd3
      go_wp2_with fail
      refine (Start HD3.out).mono ?_
      rintro e w4 ⟨rfl, hd4, _⟩
      have HD4 := Aside0.mk hd4
      have HF4 := Aside0.mk (HF1.out.crash keep).start
      have HR := Aside0.mk (show ∀ j : Nat, j < i → readF { crashD D keep with down := false } j = 0 ∧ readS { crashD D keep with down := false } j = pickB (lastsB keep i F j) from fun j hj =>
        read_row (D := { crashD D keep with down := false }) (c := i) rfl HB.out.2.1 HB.out.2.2.1 j hj (by show (crashD D keep).lasts j = _; rw [HB.out.2.2.2]; exact behind_B keep i F j hFc hj))
      clear hd4 HD3 HB HD1 HF1
      generalize { crashD D keep with down := false } = D9 at *
      go_wp2_with fail
      obtain ⟨wo, rfl⟩ : ∃ W, W = wr := ⟨_, rfl⟩
      clear HA c2b c2n
      go_loopg [12] i (fun kq v12 w' => ∃ j : Nat, v12 = .int .i64 j ∧ w' = w4 ∧ Aside0 (j + kq = i))
      case atStart => exact ⟨0, rfl, rfl, ⟨Nat.zero_add _⟩⟩
      case round =>
        obtain ⟨j, rfl, rfl, HA⟩ := hrel
        by_cases c3 : j < i
        · have c3b : decide ((j : Int) < (i : Int)) = true := decide_eq_true (by omega)
          have c3n : decide (j < i) = true := decide_eq_true c3
          have HR1 := Aside0.mk (HR.out j c3)
          have HJ := Aside0.mk c3
          have hjb : j < 80 := by omega
          have hwf : (Lit.int .i64 (j : Int)).wf = true := WalkArith.wf_i64 (by omega)
          have HW := Aside0.mk hwf
          clear hwf
          have hk0 : True := trivial
          by_cases hE : F = i
          · have a1 : decide ((j : Int) < (F : Int)) = true := decide_eq_true (by omega)
            have a2 : decide ((F : Int) < (i : Int)) = false := decide_eq_false (by omega)
            have a3 : decide ((j : Int) - (F : Int) < 64) = true := decide_eq_true (by omega)
            have a4 : decide ((F : Int) ≤ (j : Int)) = false := decide_eq_false (by omega)
            have a5 : ((F : Int) == (i : Int)) = true := beq_iff_eq.2 (by omega)
            have n1 : decide (j < F) = true := decide_eq_true (by omega)
            have n2 : decide (F < i) = false := decide_eq_false (by omega)
            have n4 : decide (F ≤ j) = false := decide_eq_false (by omega)
            have n5 : (F == i) = true := beq_iff_eq.2 (by omega)
            by_cases hj : j < 64
            · have a6 : decide ((j : Int) < 64) = true := decide_eq_true (by omega)
              have n6 : decide (j < 64) = true := decide_eq_true (by omega)
              rcases Bool.eq_false_or_eq_true (decide (keep / 2 ^ (j) % 2 = 1)) with hb | hb
              · have HE := Aside0.mk (show lastsB keep i F j = true by unfold lastsB keptB; rw [if_pos (by omega), decide_eq_true (show j < 64 by omega), hb]; rfl)
                have HZ := Aside0.mk (show readS D9 j = ⟨#[120, 0, 0, 0, 0, 0, 0, 0, 0, 0, 0, 0, 0, 0, 0, 0, 0, 0, 0, 0, 0, 0, 0, 0, 0, 0, 0, 0, 0, 0, 0, 0]⟩ by rw [HR1.out.2, HE.out]; rfl)
                have q : ((keep / 2 ^ (j)).tmod 2 == 1) = true := by rw [tmod_bit keep h0, hb]
                clear hk0 hE
                go_wp2_with fail
                refine (Read HD4.out HF4.out (by omega) (j : Int) HW.out).mono ?_
                rw [HR1.out.1, HZ.out]
                rintro e w5 ⟨rfl, rfl⟩
                go_wp2_with fail
                go_roundg (gk - 1)
                case measure => have := HA.out; have := HJ.out; omega
                case rel => exact ⟨j + 1, by go_num, rfl, ⟨by have := HA.out; have := HJ.out; omega⟩⟩
              · have HE := Aside0.mk (show lastsB keep i F j = false by unfold lastsB keptB; rw [if_pos (by omega), decide_eq_true (show j < 64 by omega), hb]; rfl)
                have HZ := Aside0.mk (show readS D9 j = ⟨#[0, 0, 0, 0, 0, 0, 0, 0, 0, 0, 0, 0, 0, 0, 0, 0, 0, 0, 0, 0, 0, 0, 0, 0, 0, 0, 0, 0, 0, 0, 0, 0]⟩ by rw [HR1.out.2, HE.out]; rfl)
                have q : ((keep / 2 ^ (j)).tmod 2 == 1) = false := by rw [tmod_bit keep h0, hb]
                clear hk0 hE
                go_wp2_with fail
                refine (Read HD4.out HF4.out (by omega) (j : Int) HW.out).mono ?_
                rw [HR1.out.1, HZ.out]
                rintro e w5 ⟨rfl, rfl⟩
                go_wp2_with fail
                go_roundg (gk - 1)
                case measure => have := HA.out; have := HJ.out; omega
                case rel => exact ⟨j + 1, by go_num, rfl, ⟨by have := HA.out; have := HJ.out; omega⟩⟩
            · have a6 : decide ((j : Int) < 64) = false := decide_eq_false (by omega)
              have n6 : decide (j < 64) = false := decide_eq_false (by omega)
              have HE := Aside0.mk (show lastsB keep i F j = false by unfold lastsB keptB; rw [if_pos (by omega), decide_eq_false (show ¬ j < 64 by omega)]; rfl)
              have HZ := Aside0.mk (show readS D9 j = ⟨#[0, 0, 0, 0, 0, 0, 0, 0, 0, 0, 0, 0, 0, 0, 0, 0, 0, 0, 0, 0, 0, 0, 0, 0, 0, 0, 0, 0, 0, 0, 0, 0]⟩ by rw [HR1.out.2, HE.out]; rfl)
              clear hk0 hE
              go_wp2_with fail
              refine (Read HD4.out HF4.out (by omega) (j : Int) HW.out).mono ?_
              rw [HR1.out.1, HZ.out]
              rintro e w5 ⟨rfl, rfl⟩
              go_wp2_with fail
              go_roundg (gk - 1)
              case measure => have := HA.out; have := HJ.out; omega
              case rel => exact ⟨j + 1, by go_num, rfl, ⟨by have := HA.out; have := HJ.out; omega⟩⟩
          · have hFi : F < i := by omega
            by_cases hA : j < F
            · have a1 : decide ((j : Int) < (F : Int)) = true := decide_eq_true (by omega)
              have a2 : decide ((F : Int) < (i : Int)) = true := decide_eq_true (by omega)
              have a3 : decide ((j : Int) - (F : Int) < 64) = true := decide_eq_true (by omega)
              have a4 : decide ((F : Int) ≤ (j : Int)) = false := decide_eq_false (by omega)
              have a5 : ((F : Int) == (i : Int)) = false := beq_eq_false_iff_ne.2 (by omega)
              have n1 : decide (j < F) = true := decide_eq_true (by omega)
              have n2 : decide (F < i) = true := decide_eq_true (by omega)
              have n4 : decide (F ≤ j) = false := decide_eq_false (by omega)
              have n5 : (F == i) = false := beq_eq_false_iff_ne.2 (by omega)
              have HE := Aside0.mk (show lastsB keep i F j = true by unfold lastsB; rw [if_neg (by omega), if_pos (by omega)])
              have HZ := Aside0.mk (show readS D9 j = ⟨#[120, 0, 0, 0, 0, 0, 0, 0, 0, 0, 0, 0, 0, 0, 0, 0, 0, 0, 0, 0, 0, 0, 0, 0, 0, 0, 0, 0, 0, 0, 0, 0]⟩ by rw [HR1.out.2, HE.out]; rfl)
              clear hk0
              go_wp2_with fail
              refine (Read HD4.out HF4.out (by omega) (j : Int) HW.out).mono ?_
              rw [HR1.out.1, HZ.out]
              rintro e w5 ⟨rfl, rfl⟩
              go_wp2_with fail
              go_roundg (gk - 1)
              case measure => have := HA.out; have := HJ.out; omega
              case rel => exact ⟨j + 1, by go_num, rfl, ⟨by have := HA.out; have := HJ.out; omega⟩⟩
            · by_cases hk : j - F < 64
              · have a1 : decide ((j : Int) < (F : Int)) = false := decide_eq_false (by omega)
                have a2 : decide ((F : Int) < (i : Int)) = true := decide_eq_true (by omega)
                have a3 : decide ((j : Int) - (F : Int) < 64) = true := decide_eq_true (by omega)
                have a4 : decide ((F : Int) ≤ (j : Int)) = true := decide_eq_true (by omega)
                have a5 : ((F : Int) == (i : Int)) = false := beq_eq_false_iff_ne.2 (by omega)
                have n1 : decide (j < F) = false := decide_eq_false (by omega)
                have n2 : decide (F < i) = true := decide_eq_true (by omega)
                have n4 : decide (F ≤ j) = true := decide_eq_true (by omega)
                have n5 : (F == i) = false := beq_eq_false_iff_ne.2 (by omega)
                have b0 : 0 ≤ (j : Int) - (F : Int) := by omega
                have b1 : (j : Int) - (F : Int) < 64 := by omega
                rcases Bool.eq_false_or_eq_true (decide (keep / 2 ^ (j - F) % 2 = 1)) with hb | hb
                · have HE := Aside0.mk (show lastsB keep i F j = true by unfold lastsB keptB; rw [if_neg (by omega), if_neg (by omega), decide_eq_true (show j - F < 64 by omega), hb]; rfl)
                  have HZ := Aside0.mk (show readS D9 j = ⟨#[120, 0, 0, 0, 0, 0, 0, 0, 0, 0, 0, 0, 0, 0, 0, 0, 0, 0, 0, 0, 0, 0, 0, 0, 0, 0, 0, 0, 0, 0, 0, 0]⟩ by rw [HR1.out.2, HE.out]; rfl)
                  have q : ((keep / 2 ^ (j - F)).tmod 2 == 1) = true := by rw [tmod_bit keep h0, hb]
                  clear hk0
                  go_wp2_with fail
                  refine (Read HD4.out HF4.out (by omega) (j : Int) HW.out).mono ?_
                  rw [HR1.out.1, HZ.out]
                  rintro e w5 ⟨rfl, rfl⟩
                  go_wp2_with fail
                  go_roundg (gk - 1)
                  case measure => have := HA.out; have := HJ.out; omega
                  case rel => exact ⟨j + 1, by go_num, rfl, ⟨by have := HA.out; have := HJ.out; omega⟩⟩
                · have HE := Aside0.mk (show lastsB keep i F j = false by unfold lastsB keptB; rw [if_neg (by omega), if_neg (by omega), decide_eq_true (show j - F < 64 by omega), hb]; rfl)
                  have HZ := Aside0.mk (show readS D9 j = ⟨#[0, 0, 0, 0, 0, 0, 0, 0, 0, 0, 0, 0, 0, 0, 0, 0, 0, 0, 0, 0, 0, 0, 0, 0, 0, 0, 0, 0, 0, 0, 0, 0]⟩ by rw [HR1.out.2, HE.out]; rfl)
                  have q : ((keep / 2 ^ (j - F)).tmod 2 == 1) = false := by rw [tmod_bit keep h0, hb]
                  clear hk0
                  go_wp2_with fail
                  refine (Read HD4.out HF4.out (by omega) (j : Int) HW.out).mono ?_
                  rw [HR1.out.1, HZ.out]
                  rintro e w5 ⟨rfl, rfl⟩
                  go_wp2_with fail
                  go_roundg (gk - 1)
                  case measure => have := HA.out; have := HJ.out; omega
                  case rel => exact ⟨j + 1, by go_num, rfl, ⟨by have := HA.out; have := HJ.out; omega⟩⟩
              · have a1 : decide ((j : Int) < (F : Int)) = false := decide_eq_false (by omega)
                have a2 : decide ((F : Int) < (i : Int)) = true := decide_eq_true (by omega)
                have a3 : decide ((j : Int) - (F : Int) < 64) = false := decide_eq_false (by omega)
                have a4 : decide ((F : Int) ≤ (j : Int)) = true := decide_eq_true (by omega)
                have a5 : ((F : Int) == (i : Int)) = false := beq_eq_false_iff_ne.2 (by omega)
                have n1 : decide (j < F) = false := decide_eq_false (by omega)
                have n2 : decide (F < i) = true := decide_eq_true (by omega)
                have n4 : decide (F ≤ j) = true := decide_eq_true (by omega)
                have n5 : (F == i) = false := beq_eq_false_iff_ne.2 (by omega)
                have HE := Aside0.mk (show lastsB keep i F j = false by unfold lastsB keptB; rw [if_neg (by omega), if_neg (by omega), decide_eq_false (show ¬ j - F < 64 by omega)]; rfl)
                have HZ := Aside0.mk (show readS D9 j = ⟨#[0, 0, 0, 0, 0, 0, 0, 0, 0, 0, 0, 0, 0, 0, 0, 0, 0, 0, 0, 0, 0, 0, 0, 0, 0, 0, 0, 0, 0, 0, 0, 0]⟩ by rw [HR1.out.2, HE.out]; rfl)
                clear hk0
                go_wp2_with fail
                refine (Read HD4.out HF4.out (by omega) (j : Int) HW.out).mono ?_
                rw [HR1.out.1, HZ.out]
                rintro e w5 ⟨rfl, rfl⟩
                go_wp2_with fail
                go_roundg (gk - 1)
                case measure => have := HA.out; have := HJ.out; omega
                case rel => exact ⟨j + 1, by go_num, rfl, ⟨by have := HA.out; have := HJ.out; omega⟩⟩
        · have c3b : decide ((j : Int) < (i : Int)) = false := decide_eq_false (by omega)
          have c3n : decide (j < i) = false := decide_eq_false c3
          clear c3
          go_wp2_with fail
          go_ret
          exact ⟨rfl, HD4.out.below⟩
theorem keeps_all (n fl keep : Int) (w : World) (hn : (Lit.int .u8 n).wf = true) (hf : (Lit.int .u8 fl).wf = true) (hk : (Lit.int .u64 keep).wf = true) :
    Calls Try.prog 5 #[.int .u8 n, .int .u8 fl, .int .u64 keep] w fun e w' => e = .returned (.bool true) ∧ Below w.heap.size w w' := by
  have hb := Go.bounds_u64 hk
  exact keeps_walk n fl keep w (Go.bounds_u8 hn) (Go.bounds_u8 hf) hb.1 (by have := hb.2; omega)
end Go.Proofs.Ytehodgcfejkomaa.Disk
