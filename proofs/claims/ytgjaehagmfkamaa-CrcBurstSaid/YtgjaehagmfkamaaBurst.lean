/- CrcBurst: the walk of its body: for every input it returns true, and makes memory alone. No condition. -/
import Derived.Test.YtgjaehagmfkamaaQx1
import Derived.Test.YtgjaehagmfkamaaLem
import Derived.Test.YtgjaehagmfkamaaBits
import Derived.Test.YtgjaehagmfkamaaPlain
import Derived.Test.YtgjaehagmfkamaaMB
import Derived.RegionTactic
import Derived.LoopTactic
namespace Go.Proofs.Ytgjaehagmfkamaa.Burst
set_option linter.unusedVariables false
set_option linter.unusedSimpArgs false
open Go.RowKit Go.Proofs.Ytgjaehagmfkamaa.Q Go.Proofs.YtgjaehagmfkamaaW.PrintWords Go.Proofs.YtgjaehagmfkamaaW.PrintLast Go.Proofs.YtgjaehagmfkamaaW.PrintMore
open Go.Proofs.Ytgjaehagmfkamaa.Pure
set_option maxRecDepth 100000 in
set_option maxHeartbeats 1000000 in
theorem walk (s : ByteArray) (at_ turn : Int) (w : World) (hs : s.size ≤ 2000) (h0 : 0 ≤ at_) (hat : at_ ≤ 9223372036854775807) (ht0 : 0 ≤ turn) (ht : turn < 4294967296) :
    Calls Try.prog 5 #[.string s, .int .i64 at_, .int .u32 turn] w fun e w' => e = .returned (.bool true) ∧ Below w.heap.size w w' := by
  have d1 : decide ((s.size : Int) > 2000) = false := decide_eq_false (by omega)
  have d1' : decide ((2000 : Int) < s.size) = false := decide_eq_false (by omega)
  have d1'' : decide (2000 < s.size) = false := decide_eq_false (by omega)
  have d2 : decide (at_ < 0) = false := decide_eq_false (by omega)
  have hcv := fun (w : World) (s : ByteArray) => @Lib.run_convert_string_bytes Try.prog w 9 35 5 s _ Try.underlying9 Try.underlying35 Try.underlying5
  obtain ⟨S, hS⟩ : ∃ S, sealB s = S := ⟨_, rfl⟩
  have hSz : S.size = s.size + 4 := by rw [← hS, sealB_size]
  have hseal : crc_Seal.f s = some S := by rw [seal_eq (by omega), hS]
  have hN4 : 4 ≤ S.size := by omega
  have hN : S.size ≤ 2004 := by omega
  have H0 := Aside0.mk h0
  have HS := Aside0.mk (⟨hs, hS, hSz⟩ : s.size ≤ 2000 ∧ sealB s = S ∧ S.size = s.size + 4)
  have HSE := Aside0.mk hseal
  clear hs hS hSz hseal
  go_enter Try.func5, Try.ntmps5
  go_wp2_with (first | (go_at_call 7; refine (snapferrylaw02_awake.calls _ _ awake_true).mono ?_; rintro e w1 ⟨rfl, hb1⟩) | (go_at_call 12; refine (crc_Seal.calls s S _ HSE.out).mono ?_; rintro e w2 ⟨rfl, hb2⟩))
  obtain ⟨A, hA⟩ : ∃ A : Nat, at_ % (8 * (S.size : Int)) = (A : Int) := ⟨(at_ % (8 * (S.size : Int))).toNat, by have := Int.emod_nonneg at_ (show 8 * (S.size : Int) ≠ 0 by omega); omega⟩
  have hAN : A < 8 * S.size := by have := Int.emod_lt_of_pos at_ (show 0 < 8 * (S.size : Int) by omega); omega
  rw [hA]
  have HMB := Aside0.mk (MB.made w2 5 S)
  have HB2 := Aside0.mk (bytesWorld_below 5 S ((hb1.trans (hb2.mono hb1.size))) (Nat.le_trans hb1.size hb2.size))
  have HG := Aside0.mk (Nat.le_trans hb1.size hb2.size)
  clear hb1 hb2 hA
  generalize Lib.bytesWorld w2 5 S = W3 at *
  generalize w2.heap.size = g at *
  generalize grownCap w2 S.size 0 5 = cap
  go_loopg [8, 9] 32 (fun kq v8 v9 wr => ∃ i : Nat, v9 = .int .i64 i ∧ v8 = .bool (anyB turn A S.size i) ∧ Aside0 (i + kq = 32 ∧ MB.MB 5 wr g (runB turn A S.size S.data.toList i) ∧ Below w.heap.size w wr))
  case atStart => exact ⟨0, rfl, rfl, ⟨rfl, HMB.out, HB2.out⟩⟩
  case round =>
    obtain ⟨i, rfl, rfl, HI⟩ := hrel
    clear HMB HB2
    by_cases c1 : i < 32
    · have d3 : decide ((i : Int) < 32) = true := decide_eq_true (by omega)
      obtain ⟨hk, hmb, hbl⟩ := HI.out
      have hlen : (runB turn A S.size S.data.toList i).length = S.size := by rw [runB_length]; rfl
      generalize hbs : runB turn A S.size S.data.toList i = bs at *
      have HR := Aside0.mk hbs
      clear hbs
      by_cases c2 : A + i < 8 * S.size
      · have hj : (A + i) / 8 < bs.length := by omega
        have hcell := MB.cell hmb ((A + i) / 8) hj
        have hfree := MB.free hmb ((A + i) / 8) hj
        obtain ⟨c, hc⟩ : ∃ c, bs[(A + i) / 8] = c := ⟨_, rfl⟩
        rw [hc] at hcell
        have Hj := Aside0.mk hj
        have Hk := Aside0.mk hk
        have Hc := Aside0.mk (show bs.getD ((A + i) / 8) 0 = c by rw [← hc]; simp [List.getD, hj])
        have Hm := Aside0.mk (⟨hmb, hbl⟩ : MB.MB 5 wr g bs ∧ Below w.heap.size w wr)
        clear HI hmb hbl hlen hk hc hj
        go_wp2
        · have hh : hit turn A S.size i = true := by
            have h1 : (turn / 2 ^ i).tmod 2 = 1 := by assumption
            rw [Int.tmod_eq_emod_of_nonneg (Int.ediv_nonneg ht0 (Int.pow_nonneg (by omega)))] at h1
            unfold hit
            rw [decide_eq_true h1, decide_eq_true (show A + i < 8 * S.size from c2)]
            rfl
          go_roundg (gk - 1)
          case measure => have := Hk.out; omega
          case rel =>
            refine ⟨i + 1, by go_num, by rw [Pure.anyB, hh]; rfl, ⟨by have := Hk.out; omega, ?_, Below.setCell Hm.out.2 HG.out _⟩⟩
            rw [runB, hh, if_pos rfl, HR.out, xor_u8 _ _ (Nat.mod_lt _ (by omega))]
            unfold flip1
            rw [Hc.out]
            exact MB.set Hm.out.1 _ Hj.out _
        · have hh : hit turn A S.size i = false := by
            have h1 : ¬ (turn / 2 ^ i).tmod 2 = 1 := by assumption
            rw [Int.tmod_eq_emod_of_nonneg (Int.ediv_nonneg ht0 (Int.pow_nonneg (by omega)))] at h1
            unfold hit
            rw [decide_eq_false h1]
            rfl
          go_roundg (gk - 1)
          case measure => have := Hk.out; omega
          case rel =>
            refine ⟨i + 1, by go_num, by rw [Pure.anyB, hh]; rfl, ⟨by have := Hk.out; omega, ?_, Hm.out.2⟩⟩
            rw [runB, hh, if_neg (by decide), HR.out]
            exact Hm.out.1
      · have Hm := Aside0.mk (⟨hmb, hbl⟩ : MB.MB 5 wr g bs ∧ Below w.heap.size w wr)
        have Hk := Aside0.mk hk
        clear HI hmb hbl hlen hk
        have hh : hit turn A S.size i = false := by
          unfold hit
          rw [decide_eq_false (show ¬ A + i < 8 * S.size from c2), Bool.and_false]
        have HH := Aside0.mk hh
        clear hh
        go_wp2
        all_goals
          go_roundg (gk - 1)
          case measure => have := Hk.out; omega
          case rel =>
            refine ⟨i + 1, by go_num, by rw [Pure.anyB, HH.out]; rfl, ⟨by have := Hk.out; omega, ?_, Hm.out.2⟩⟩
            rw [runB, HH.out, if_neg (by decide), HR.out]
            exact Hm.out.1
    · have d3 : decide ((i : Int) < 32) = false := decide_eq_false (by omega)
      obtain ⟨hk, hmb, hbl⟩ := HI.out
      obtain rfl : i = 32 := by omega
      have hlen : (runB turn A S.size S.data.toList 32).length = S.size := by rw [runB_length]; rfl
      have hcs := MB.conv (P := Try.prog) hmb cap Try.underlying35 Try.underlying5 Try.underlying9
      rw [hlen] at hcs
      have Hb := Aside0.mk hbl
      clear HI hmb hbl hk hlen
      cases ha : anyB turn A S.size 32 with
      | false =>
        have ho : crc_Open.f ⟨(runB turn A S.size S.data.toList 32).toArray⟩ = some (s, 0) := by
          obtain ⟨h1, h2, h3⟩ := HS.out
          subst h2
          exact open_unturned (by omega) ha
        have HO := Aside0.mk ho
        clear ho ha
        generalize (⟨(runB turn A S.size S.data.toList 32).toArray⟩ : ByteArray) = F at *
        go_wp2_with (go_at_call 8; refine (crc_Open.calls F s 0 _ HO.out).mono ?_; rintro e w4 ⟨rfl, hb4⟩)
        go_ret
        exact ⟨rfl, Hb.out.trans (hb4.mono Hb.out.size)⟩
      | true =>
        have ho : crc_Open.f ⟨(runB turn A S.size S.data.toList 32).toArray⟩ = some (⟨#[]⟩, 8) := by
          obtain ⟨h1, h2, h3⟩ := HS.out
          subst h2
          exact open_turned (by omega) ha
        have HO := Aside0.mk ho
        clear ho ha
        generalize (⟨(runB turn A S.size S.data.toList 32).toArray⟩ : ByteArray) = F at *
        go_wp2_with (go_at_call 8; refine (crc_Open.calls F ⟨#[]⟩ 8 _ HO.out).mono ?_; rintro e w4 ⟨rfl, hb4⟩)
        go_ret
        exact ⟨rfl, Hb.out.trans (hb4.mono Hb.out.size)⟩
set_option maxRecDepth 100000 in
theorem long (s : ByteArray) (at_ turn : Int) (w : World) (hs : 2000 < s.size) :
    Calls Try.prog 5 #[.string s, .int .i64 at_, .int .u32 turn] w fun e w' => e = .returned (.bool true) ∧ Below w.heap.size w w' := by
  have d1'' : decide (2000 < s.size) = true := decide_eq_true (by omega)
  go_enter Try.func5, Try.ntmps5
  go_wp2_with (go_at_call 7; refine (snapferrylaw02_awake.calls _ _ awake_true).mono ?_; rintro e w1 ⟨rfl, hb1⟩)
  go_ret
  exact ⟨rfl, hb1⟩
set_option maxRecDepth 100000 in
theorem neg (s : ByteArray) (at_ turn : Int) (w : World) (hs : s.size ≤ 2000) (h0 : at_ < 0) :
    Calls Try.prog 5 #[.string s, .int .i64 at_, .int .u32 turn] w fun e w' => e = .returned (.bool true) ∧ Below w.heap.size w w' := by
  have d1'' : decide (2000 < s.size) = false := decide_eq_false (by omega)
  have d2 : decide (at_ < 0) = true := decide_eq_true (by omega)
  go_enter Try.func5, Try.ntmps5
  go_wp2_with (go_at_call 7; refine (snapferrylaw02_awake.calls _ _ awake_true).mono ?_; rintro e w1 ⟨rfl, hb1⟩)
  go_ret
  exact ⟨rfl, hb1⟩
theorem all (s : ByteArray) (at_ turn : Int) (w : World) (hat : at_ ≤ 9223372036854775807) (ht0 : 0 ≤ turn) (ht : turn < 4294967296) :
    Calls Try.prog 5 #[.string s, .int .i64 at_, .int .u32 turn] w fun e w' => e = .returned (.bool true) ∧ Below w.heap.size w w' := by
  by_cases hs : s.size ≤ 2000
  · by_cases h0 : 0 ≤ at_
    · exact walk s at_ turn w hs h0 hat ht0 ht
    · exact neg s at_ turn w hs (by omega)
  · exact long s at_ turn w (by omega)
end Go.Proofs.Ytgjaehagmfkamaa.Burst
