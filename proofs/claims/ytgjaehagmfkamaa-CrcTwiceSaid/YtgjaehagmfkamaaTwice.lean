/- CrcTwice: the walk of its body: for every input it returns true, and makes memory alone. No condition. -/
import Derived.Test.YtgjaehagmfkamaaQx1
import Derived.Test.YtgjaehagmfkamaaLem
import Derived.Test.YtgjaehagmfkamaaBits
import Derived.Test.YtgjaehagmfkamaaPlain
import Derived.Test.YtgjaehagmfkamaaMB
import Derived.RegionTactic
import Derived.Deep.RegionWith
import Derived.LoopTactic
namespace Go.Proofs.Ytgjaehagmfkamaa.Twice
set_option linter.unusedVariables false
set_option linter.unusedSimpArgs false
open Go.RowKit Go.Proofs.Ytgjaehagmfkamaa.Q Go.Proofs.YtgjaehagmfkamaaW.PrintWords Go.Proofs.YtgjaehagmfkamaaW.PrintLast Go.Proofs.YtgjaehagmfkamaaW.PrintMore
open Go.Proofs.Ytgjaehagmfkamaa.Pure
theorem runB_stop (turn : Int) (A N : Nat) (bs : List UInt8) (i : Nat) (hi : i ≤ 32) (h : ¬ (i < 32 ∧ A + i < 8 * N)) : runB turn A N bs 32 = runB turn A N bs i := by
  have key : ∀ d, i + d ≤ 32 → runB turn A N bs (i + d) = runB turn A N bs i := by
    intro d
    induction d with
    | zero => intro _; rfl
    | succ d ih =>
      intro hd
      have hh : hit turn A N (i + d) = false := by
        unfold hit
        rw [decide_eq_false (show ¬ A + (i + d) < 8 * N by omega), Bool.and_false]
      show runB turn A N bs (i + d + 1) = _
      rw [runB, hh, if_neg (by decide), ih (by omega)]
  have := key (32 - i) (by omega)
  rwa [show i + (32 - i) = 32 by omega] at this
/-- The bytes turned within 32 bits have the sum of what they were just where they are what they were. -/
theorem twice_law (turn : Int) (A : Nat) (s : ByteArray) : ((crcSum [(⟨(runB turn A s.size s.data.toList 32).toArray⟩ : ByteArray)] == crcSum [s]) == ((⟨(runB turn A s.size s.data.toList 32).toArray⟩ : ByteArray).toList == s.toList)) = true := by
  have hl : s.data.toList.length = s.size := rfl
  cases h : anyB turn A s.size 32 with
  | false =>
    rw [runB_none h]
    simp
  | true =>
    have hd : bState ones (⟨(runB turn A s.size s.data.toList 32).toArray⟩ : ByteArray) ≠ bState ones s := by
      unfold bState
      rw [← hl] at h ⊢
      exact runB_turned h
    have h1 : (crcSum [(⟨(runB turn A s.size s.data.toList 32).toArray⟩ : ByteArray)] == crcSum [s]) = false := by
      rw [beq_eq_false_iff_ne]
      intro e
      rw [crcSum_one, crcSum_one] at e
      apply hd
      have := congrArg (fun x => ones ^^^ x) (toI_inj e)
      simpa [xor_cc] using this
    have h2 : ((⟨(runB turn A s.size s.data.toList 32).toArray⟩ : ByteArray).toList == s.toList) = false := by
      rw [beq_eq_false_iff_ne]
      intro e
      apply hd
      unfold bState
      rw [data_of e]
    rw [h1, h2]
    rfl
theorem lit_reads (W : World) (x : ByteArray) (e : TypeId) : Kd.C Kd.string (W.alloc (.cells #[.string x] e)) (some ⟨W.heap.size, 0, none⟩) [x].length [x] := by
  refine ⟨rfl, by simp, fun _ => ⟨_, rfl, fun j p hj => ⟨[.string p], rfl, rfl, fun i u hu => ?_⟩⟩⟩
  cases j with
  | succ j => simp at hj
  | zero =>
    obtain rfl : x = p := by simpa using hj
    cases i with
    | succ i => simp at hu
    | zero =>
      obtain rfl : .string x = u := by simpa using hu
      show (W.alloc (.cells #[.string x] e)).cell? ⟨W.heap.size, 0, none⟩ = _
      unfold World.cell?
      rw [heap_alloc_new]
      rfl
def twice.T18 : Bool × List (List Nat × List Nat) := (true, [([], []), ([0], [0]), ([1], [1]), ([2], [2]), ([], []), ([4], [4]), ([5, 3], [5]), ([3, 6], [3, 6]), ([], []), ([8], [8]), ([], []), ([9, 10], [9, 10]), ([7, 11], [7, 11]), ([12, 6, 0, 1, 2, 3, 4, 5, 6, 7, 8, 9, 10, 11, 12], [12])])
def twice.B18 : List Nat := [0, 1, 3, 7, 0, 16, 63, 127, 0, 256, 0, 1792, 4095, 8191]
theorem twice.tab18 : rtab .any (opsOf Try.f6 18) = twice.T18 := by kernel_rfl
theorem twice.bits18 : waitsOk twice.T18.2 twice.B18 = true := by kernel_rfl
set_option maxRecDepth 100000 in
set_option maxHeartbeats 2000000 in
theorem walk (S t : ByteArray) (at_ turn : Int) (w : World) (hs : S.size ≤ 2000) (ht : t.size ≤ 2000) (hne : 1 ≤ S.size) (h0 : 0 ≤ at_) (hat : at_ ≤ 9223372036854775807) (ht0 : 0 ≤ turn) (htu : turn < 4294967296) :
    Calls Try.prog 6 #[.string S, .string t, .int .i64 at_, .int .u32 turn] w fun e w' => e = .returned (.bool true) ∧ Below w.heap.size w w' := by
  have d1 : decide (2000 < S.size) = false := decide_eq_false (by omega)
  have d1' : decide (2000 < t.size) = false := decide_eq_false (by omega)
  have d1i : decide ((2000 : Int) < S.size) = false := decide_eq_false (by omega)
  have d1i' : decide ((2000 : Int) < t.size) = false := decide_eq_false (by omega)
  have d2 : decide (at_ < 0) = false := decide_eq_false (by omega)
  have d4 : S.toList.isEmpty = false := by
    rw [ByteArray.toList_eq, List.isEmpty_eq_false_iff]
    intro h
    have : S.size = 0 := by show S.data.size = 0; rw [← Array.length_toList, h]; rfl
    omega
  have hcv := fun (w : World) (s : ByteArray) => @Lib.run_convert_string_bytes Try.prog w 9 35 5 s _ Try.underlying9 Try.underlying35 Try.underlying5
  obtain ⟨S1, hS1⟩ : ∃ S1, sealB S = S1 := ⟨_, rfl⟩
  obtain ⟨S2, hS2⟩ : ∃ S2, sealB S1 = S2 := ⟨_, rfl⟩
  obtain ⟨t1, ht1⟩ : ∃ t1, sealB t = t1 := ⟨_, rfl⟩
  have z1 : S1.size = S.size + 4 := by rw [← hS1, sealB_size]
  have z3 : t1.size = t.size + 4 := by rw [← ht1, sealB_size]
  have C1 := Aside0.mk (show crc_Seal.f S = some S1 by rw [seal_eq (by omega), hS1])
  have C2 := Aside0.mk (show crc_Seal.f S1 = some S2 by rw [seal_eq (by omega), hS2])
  have C3 := Aside0.mk (show crc_Open.f S2 = some (S1, 0) by rw [← hS2, open_seal (by omega)])
  have C4 := Aside0.mk (show crc_Open.f S1 = some (S, 0) by rw [← hS1, open_seal (by omega)])
  have C5 := Aside0.mk (show crc_Seal.f t = some t1 by rw [seal_eq (by omega), ht1])
  have C6 := Aside0.mk (show crc_Sum.f [S1] = some (toI (ones ^^^ bBits 32 ones)) by rw [sum_one (by omega), ← hS1, crcSum_seal])
  have C7 := Aside0.mk (show crc_Sum.f [t1] = some (toI (ones ^^^ bBits 32 ones)) by rw [sum_one (by omega), ← ht1, crcSum_seal])
  have HSS := Aside0.mk (show crc_Sum.f [S] = some (crcSum [S]) from sum_one (by omega))
  generalize toI (ones ^^^ bBits 32 ones) = RR at *
  have hN1 : 1 ≤ S.size := hne
  have hN : S.size ≤ 2000 := hs
  have H0 := Aside0.mk h0
  have HB := Aside0.mk (Below.refl w.heap.size w)
  clear hs ht hne hS1 hS2 ht1 z1 z3
  go_enter Try.func6, Try.ntmps6
  go_wp2_with (first | (go_at_call 7; refine (snapferrylaw02_awake.calls _ _ awake_true).mono ?_; rintro e w' ⟨rfl, hb⟩; have HB' := Aside0.mk (Below.trans HB.out (Below.mono hb HB.out.size)); clear HB hb; have HB := HB'; clear HB') | (go_at_call_of 12 (Value.string S); (refine (crc_Seal.calls S S1 _ C1.out).mono ?_; rintro e w' ⟨rfl, hb⟩; have HB' := Aside0.mk (Below.trans HB.out (Below.mono hb HB.out.size)); clear HB hb; have HB := HB'; clear HB')) | (go_at_call_of 12 (Value.string S1); refine (crc_Seal.calls S1 S2 _ C2.out).mono ?_; rintro e w' ⟨rfl, hb⟩; have HB' := Aside0.mk (Below.trans HB.out (Below.mono hb HB.out.size)); clear HB hb; have HB := HB'; clear HB') | (go_at_call_of 12 (Value.string t); refine (crc_Seal.calls t t1 _ C5.out).mono ?_; rintro e w' ⟨rfl, hb⟩; have HB' := Aside0.mk (Below.trans HB.out (Below.mono hb HB.out.size)); clear HB hb; have HB := HB'; clear HB') | (go_at_call_of 8 (Value.string S2); refine (crc_Open.calls S2 S1 0 _ C3.out).mono ?_; rintro e w' ⟨rfl, hb⟩; have HB' := Aside0.mk (Below.trans HB.out (Below.mono hb HB.out.size)); clear HB hb; have HB := HB'; clear HB') | (go_at_call_of 8 (Value.string S1); refine (crc_Open.calls S1 S 0 _ C4.out).mono ?_; rintro e w' ⟨rfl, hb⟩; have HB' := Aside0.mk (Below.trans HB.out (Below.mono hb HB.out.size)); clear HB hb; have HB := HB'; clear HB') | (go_at_call 10; refine (crc_Sum.calls _ _ [t1] RR _ (lit_reads _ _ _) (Nat.le_refl _) C7.out).mono ?_; rintro e w' ⟨rfl, hb⟩; have HB' := Aside0.mk (Below.trans (Below.alloc HB.out HB.out.size _) (Below.mono hb (Nat.le_trans HB.out.size (by simp)))); clear HB hb; have HB := HB'; clear HB') | (go_at_call 10; refine (crc_Sum.calls _ _ [S1] RR _ (lit_reads _ _ _) (Nat.le_refl _) C6.out).mono ?_; rintro e w' ⟨rfl, hb⟩; have HB' := Aside0.mk (Below.trans (Below.alloc HB.out HB.out.size _) (Below.mono hb (Nat.le_trans HB.out.size (by simp)))); clear HB hb; have HB := HB'; clear HB'))
  obtain ⟨A, hA⟩ : ∃ A : Nat, at_ % (8 * (S.size : Int)) = (A : Int) := ⟨(at_ % (8 * (S.size : Int))).toNat, by have := Int.emod_nonneg at_ (show 8 * (S.size : Int) ≠ 0 by omega); omega⟩
  have hAN : A < 8 * S.size := by have := Int.emod_lt_of_pos at_ (show 0 < 8 * (S.size : Int) by omega); omega
  rw [hA]
  have HMB := Aside0.mk (MB.made w' 5 S)
  have HB2 := Aside0.mk (bytesWorld_below 5 S HB.out HB.out.size)
  have HG := Aside0.mk HB.out.size
  clear HB hA hcv C1 C2 C3 C4 C5 C6 C7
  generalize Lib.bytesWorld w' 5 S = W3 at *
  generalize w'.heap.size = g at *
  generalize grownCap w' S.size 0 5 = cap
  go_loopg [14] 32 (fun kq v14 wr => ∃ i : Nat, v14 = .int .i64 i ∧ Aside0 (i + kq = 32 ∧ MB.MB 5 wr g (runB turn A S.size S.data.toList i) ∧ Below w.heap.size w wr))
  case atStart => exact ⟨0, rfl, ⟨rfl, HMB.out, HB2.out⟩⟩
  case round =>
    obtain ⟨i, rfl, HI⟩ := hrel
    clear HMB HB2
    obtain ⟨hk, hmb, hbl⟩ := HI.out
    have hi32 : i ≤ 32 := by omega
    have hlen : (runB turn A S.size S.data.toList i).length = S.size := by rw [runB_length]; rfl
    by_cases c0 : i < 32 ∧ A + i < 8 * S.size
    · obtain ⟨c1, c2⟩ := c0
      have d3 : decide ((i : Int) < 32) = true := decide_eq_true (by omega)
      generalize hbs : runB turn A S.size S.data.toList i = bs at *
      have HR := Aside0.mk hbs
      clear hbs
      have hj : (A + i) / 8 < bs.length := by omega
      have hcell := MB.cell hmb ((A + i) / 8) hj
      have hfree := MB.free hmb ((A + i) / 8) hj
      obtain ⟨c, hc⟩ : ∃ c, bs[(A + i) / 8] = c := ⟨_, rfl⟩
      rw [hc] at hcell
      have Hj := Aside0.mk hj
      have Hk := Aside0.mk hk
      have Hc := Aside0.mk (show bs.getD ((A + i) / 8) 0 = c by rw [← hc]; simp [List.getD, hj])
      have Hm := Aside0.mk (⟨hmb, hbl⟩ : MB.MB 5 wr g bs ∧ Below w.heap.size w wr)
      clear HI hmb hbl hlen hk hc hj
      go_wp2
      · have hh : hit turn A S.size i = true := by
          have h1 : ((turn / 2 ^ i).tmod 2 == 1) = true := by assumption
          rw [beq_iff_eq, Int.tmod_eq_emod_of_nonneg (Int.ediv_nonneg ht0 (Int.pow_nonneg (by omega)))] at h1
          unfold hit
          rw [decide_eq_true h1, decide_eq_true (show A + i < 8 * S.size from c2)]
          rfl
        go_roundg (gk - 1)
        case measure => have := Hk.out; omega
        case rel =>
          refine ⟨i + 1, by go_num, ⟨by have := Hk.out; omega, ?_, Below.setCell Hm.out.2 HG.out _⟩⟩
          rw [runB, hh, if_pos rfl, HR.out, xor_u8 _ _ (Nat.mod_lt _ (by omega))]
          unfold flip1
          rw [Hc.out]
          exact MB.set Hm.out.1 _ Hj.out _
      · have hh : hit turn A S.size i = false := by
          have h1 : ((turn / 2 ^ i).tmod 2 == 1) = false := by assumption
          rw [beq_eq_false_iff_ne, ne_eq, Int.tmod_eq_emod_of_nonneg (Int.ediv_nonneg ht0 (Int.pow_nonneg (by omega)))] at h1
          unfold hit
          rw [decide_eq_false h1]
          rfl
        go_roundg (gk - 1)
        case measure => have := Hk.out; omega
        case rel =>
          refine ⟨i + 1, by go_num, ⟨by have := Hk.out; omega, ?_, Hm.out.2⟩⟩
          rw [runB, hh, if_neg (by decide), HR.out]
          exact Hm.out.1
    · have hend := runB_stop turn A S.size S.data.toList i hi32 c0
      rw [← hend] at hmb
      generalize hbs : runB turn A S.size S.data.toList 32 = bs at *
      have HLEN := Aside0.mk (show bs.length = S.size by rw [← hbs, runB_length]; rfl)
      have HR := Aside0.mk hbs
      have hz : (⟨bs.toArray⟩ : ByteArray).size = S.size := by show bs.toArray.size = _; rw [List.size_toArray]; exact HLEN.out
      obtain ⟨F, hF⟩ : ∃ F : ByteArray, ⟨bs.toArray⟩ = F := ⟨_, rfl⟩
      have HF := Aside0.mk hF
      have HSF := Aside0.mk (show crc_Sum.f [F] = some (crcSum [F]) from sum_one (by rw [← hF, hz]; omega))
      have HM := Aside0.mk hmb
      have HB := Aside0.mk hbl
      have HE := Aside0.mk (show ((crcSum [F] == crcSum [S]) == (F.toList == S.toList)) = true from by
        rw [← hF, ← hbs]
        exact twice_law turn A S)
      clear hbs hz hF hmb hbl HI hk hend hlen
      by_cases c1 : i < 32
      all_goals
        have c2 : i < 32 → ¬ A + i < 8 * S.size := fun h h' => c0 ⟨h, h'⟩
        go_wp2
        refine start_ (n := 14) (S := fun w' => True) (ds := []) #[false, false, false, false, false, false, false, false, false, false, false, false, false, false] (by kernel_rfl) rfl rfl trivial (fun hHeld => ?_); refine with_tabW twice.tab18 twice.bits18 (fun HT_ HW_ => ?_)
        refine inv_at [0, 1, 2, 3, 4, 5, 6, 7, 8, 9, 10, 11, 12, 13] (fun a0_ b a w' => ∃ (v119 : Value) (v122 : Value), a = putSel a0_ b [(0, 117, .slice (some ⟨g, 0, none⟩) S.size cap), (1, 118, .string F), (2, 119, v119), (3, 120, .int .u32 (crcSum [F])), (4, 121, .string S), (5, 122, v122), (6, 123, .int .u32 (crcSum [S])), (7, 124, .bool (crcSum [F] == crcSum [S])), (8, 125, .slice (some ⟨g, 0, none⟩) S.size cap), (9, 126, .string F), (10, 127, .string S), (11, 128, .bool (F.toList == S.toList)), (12, 129, .bool ((crcSum [F] == crcSum [S]) == (F.toList == S.toList))), (13, 8, .bool ((crcSum [F] == crcSum [S]) == (F.toList == S.toList)))] ∧ (Below w.heap.size w w') ∧ (MB.MB 5 w' g bs) ∧ (b 2 = true → Kd.R Kd.string 9 w' w.heap.size (fun _ => True) v119 [F]) ∧ (b 5 = true → Kd.R Kd.string 9 w' w.heap.size (fun _ => True) v122 [S])) HT_.out HW_.out (by kernel_rfl) (by kernel_rfl) ?_ ?_ ?_
        · exact ⟨.bool false, .bool false, by simp only [putSel, Bool.false_eq_true, if_false], (Below.drew HB.out), (MB.move HM.out rfl), fun h_ => absurd h_ (by decide), fun h_ => absurd h_ (by decide)⟩
        · skip
          clear HB HM
          refine steps_cons ?_ ?_
          · rintro b a w' ⟨v119, v122, ha, Q_HB, Q_HM, Q_HO2, Q_HO5⟩ hb_ hon hoff
            refine ⟨_, rfl, fun K hK => ?_⟩
            have e13 : a.tmps[13]? = some (.slice (some ⟨g, 0, none⟩) S.size cap) := by rw [ha]; exact (putSel_off rfl).trans rfl
            replace ha := Aside0.mk ha
            have HB := Aside0.mk Q_HB
            have HM := Aside0.mk Q_HM
            refine value_ (w1 := w') (v := .slice (some ⟨g, 0, none⟩) S.size cap) (by rfl) rfl ?_ ?_
            · go_simp
              (try simp only [i64_w])
              try rfl
            refine hK.out _ _ ⟨v119, v122, (by rw [ha.out]; exact putSel_upk 0 hb_ rfl rfl rfl), Q_HB, Q_HM, fun h0_ => absurd ((hoff 2 (by kernel_rfl)).symm.trans h0_) (by decide), Q_HO5⟩
          refine steps_cons ?_ ?_
          · rintro b a w' ⟨v119, v122, ha, Q_HB, Q_HM, Q_HO2, Q_HO5⟩ hb_ hon hoff
            refine ⟨_, rfl, fun K hK => ?_⟩
            have e117 : a.tmps[117]? = some (.slice (some ⟨g, 0, none⟩) S.size cap) := by rw [ha]; exact putSel_on (e := (0, 117, .slice (some ⟨g, 0, none⟩) S.size cap)) 0 rfl rfl (hon 0 (by kernel_rfl)) rfl
            replace ha := Aside0.mk ha
            have HB := Aside0.mk Q_HB
            have HM := Aside0.mk Q_HM
            have hcs := MB.conv (P := Try.prog) HM.out cap Try.underlying35 Try.underlying5 Try.underlying9
            rw [HLEN.out, HF.out] at hcs
            refine value_ (w1 := w') (v := .string F) (by rfl) rfl ?_ ?_
            · go_simp
              (try simp only [i64_w])
              try rfl
            refine hK.out _ _ ⟨v119, v122, (by rw [ha.out]; exact putSel_upk 1 hb_ rfl rfl rfl), Q_HB, Q_HM, fun h0_ => absurd ((hoff 2 (by kernel_rfl)).symm.trans h0_) (by decide), Q_HO5⟩
          refine steps_cons ?_ ?_
          · rintro b a w' ⟨v119, v122, ha, Q_HB, Q_HM, Q_HO2, Q_HO5⟩ hb_ hon hoff
            refine ⟨_, rfl, fun K hK => ?_⟩
            have e118 : a.tmps[118]? = some (.string F) := by rw [ha]; exact putSel_on (e := (1, 118, .string F)) 1 rfl rfl (hon 1 (by kernel_rfl)) rfl
            replace ha := Aside0.mk ha
            have HB := Aside0.mk Q_HB
            have HM := Aside0.mk Q_HM
            refine Kd.R_lit_step Kd.string _ 9 ?hg (N := 119) ?hd (xs := ([F] : List ByteArray)) (inner := [.string F]) (ok := fun _ => True) (okp := fun _ => True) ?hr ?hp (fun _ hk => hk) trivial (Below.refl _ _) (Nat.le_refl _) (by simp) ?_; (case hd => rfl); (case hg => exact (by rfl)); (case hr => first | (go_simp; done) | (go_simp; rfl)); (case hp => exact (Reps.one (show Kd.M Kd.string _ _ _ F [.string F] from rfl) (Reps.none _ _)))
            intro v119 wN ho_ hb hg_ hnew_
            clear hg_ hnew_
            refine hK.out _ _ ⟨v119, v122, (by rw [ha.out]; exact putSel_upk 2 hb_ rfl rfl rfl), (Below.trans HB.out (Below.mono hb HB.out.size)), (MB.move HM.out (hb.block g (MB.lt HM.out))), fun _ => (Kd.R_lower ho_ (below_size HB.out)), fun h0_ => (Kd.R_below (Q_HO5 h0_) hb)⟩
          refine steps_cons ?_ ?_
          · rintro b a w' ⟨v119, v122, ha, Q_HB, Q_HM, Q_HO2, Q_HO5⟩ hb_ hon hoff
            refine ⟨_, rfl, fun K hK => ?_⟩
            have e119 : a.tmps[119]? = some (v119) := by rw [ha]; exact putSel_on (e := (2, 119, v119)) 2 rfl rfl (hon 2 (by kernel_rfl)) rfl
            replace ha := Aside0.mk ha
            have HB := Aside0.mk Q_HB
            have HM := Aside0.mk Q_HM
            have HO2 := Aside0.mk (Q_HO2 (hon 2 (by kernel_rfl)))
            obtain ⟨Ao, co, eo⟩ := Kd.R_slice HO2.out
            subst eo
            refine goes_ Try.func10 (by kernel_rfl) rfl #[.slice Ao (List.length [F]) co] (by rfl) rfl rfl (by first | (simp only [List.map_toArray, List.map_cons, List.map_nil, Act.eval, Array.getD_eq_getD_getElem?, Option.getD_some, e119]; done) | (simp only [List.map_toArray, List.map_cons, List.map_nil, Act.eval, Array.getD_eq_getD_getElem?, Option.getD_some, e119]; rfl)) ?_
            refine (crc_Sum.calls _ _ [F] (crcSum [F]) _ (Kd.R_reads' HO2.out).2.2 (Kd.R_reads' HO2.out).2.1 HSF.out).mono ?_
            rintro e wN ⟨rfl, hb⟩
            refine ⟨_, rfl, ?_⟩
            refine hK.out _ _ ⟨.slice Ao (List.length [F]) co, v122, (by rw [ha.out]; exact putSel_upk 3 hb_ rfl rfl rfl), (Below.trans HB.out (Below.mono hb HB.out.size)), (MB.move HM.out (hb.block g (MB.lt HM.out))), fun _ => (Kd.R_below HO2.out hb), fun h0_ => (Kd.R_below (Q_HO5 h0_) hb)⟩
          refine steps_cons ?_ ?_
          · rintro b a w' ⟨v119, v122, ha, Q_HB, Q_HM, Q_HO2, Q_HO5⟩ hb_ hon hoff
            refine ⟨_, rfl, fun K hK => ?_⟩
            have e0 : a.tmps[0]? = some (.string S) := by rw [ha]; exact (putSel_off rfl).trans rfl
            replace ha := Aside0.mk ha
            have HB := Aside0.mk Q_HB
            have HM := Aside0.mk Q_HM
            refine value_ (w1 := w') (v := .string S) (by rfl) rfl ?_ ?_
            · go_simp
              (try simp only [i64_w])
              try rfl
            refine hK.out _ _ ⟨v119, v122, (by rw [ha.out]; exact putSel_upk 4 hb_ rfl rfl rfl), Q_HB, Q_HM, Q_HO2, fun h0_ => absurd ((hoff 5 (by kernel_rfl)).symm.trans h0_) (by decide)⟩
          refine steps_cons ?_ ?_
          · rintro b a w' ⟨v119, v122, ha, Q_HB, Q_HM, Q_HO2, Q_HO5⟩ hb_ hon hoff
            refine ⟨_, rfl, fun K hK => ?_⟩
            have e121 : a.tmps[121]? = some (.string S) := by rw [ha]; exact putSel_on (e := (4, 121, .string S)) 4 rfl rfl (hon 4 (by kernel_rfl)) rfl
            replace ha := Aside0.mk ha
            have HB := Aside0.mk Q_HB
            have HM := Aside0.mk Q_HM
            refine Kd.R_lit_step Kd.string _ 9 ?hg (N := 122) ?hd (xs := ([S] : List ByteArray)) (inner := [.string S]) (ok := fun _ => True) (okp := fun _ => True) ?hr ?hp (fun _ hk => hk) trivial (Below.refl _ _) (Nat.le_refl _) (by simp) ?_; (case hd => rfl); (case hg => exact (by rfl)); (case hr => first | (go_simp; done) | (go_simp; rfl)); (case hp => exact (Reps.one (show Kd.M Kd.string _ _ _ S [.string S] from rfl) (Reps.none _ _)))
            intro v122 wN ho_ hb hg_ hnew_
            clear hg_ hnew_
            refine hK.out _ _ ⟨v119, v122, (by rw [ha.out]; exact putSel_upk 5 hb_ rfl rfl rfl), (Below.trans HB.out (Below.mono hb HB.out.size)), (MB.move HM.out (hb.block g (MB.lt HM.out))), fun h0_ => (Kd.R_below (Q_HO2 h0_) hb), fun _ => (Kd.R_lower ho_ (below_size HB.out))⟩
          refine steps_cons ?_ ?_
          · rintro b a w' ⟨v119, v122, ha, Q_HB, Q_HM, Q_HO2, Q_HO5⟩ hb_ hon hoff
            refine ⟨_, rfl, fun K hK => ?_⟩
            have e122 : a.tmps[122]? = some (v122) := by rw [ha]; exact putSel_on (e := (5, 122, v122)) 5 rfl rfl (hon 5 (by kernel_rfl)) rfl
            replace ha := Aside0.mk ha
            have HB := Aside0.mk Q_HB
            have HM := Aside0.mk Q_HM
            have HO2 := Aside0.mk (Q_HO2 (hon 2 (by kernel_rfl)))
            have HO5 := Aside0.mk (Q_HO5 (hon 5 (by kernel_rfl)))
            obtain ⟨Ao, co, eo⟩ := Kd.R_slice HO5.out
            subst eo
            refine goes_ Try.func10 (by kernel_rfl) rfl #[.slice Ao (List.length [S]) co] (by rfl) rfl rfl (by first | (simp only [List.map_toArray, List.map_cons, List.map_nil, Act.eval, Array.getD_eq_getD_getElem?, Option.getD_some, e122]; done) | (simp only [List.map_toArray, List.map_cons, List.map_nil, Act.eval, Array.getD_eq_getD_getElem?, Option.getD_some, e122]; rfl)) ?_
            refine (crc_Sum.calls _ _ [S] (crcSum [S]) _ (Kd.R_reads' HO5.out).2.2 (Kd.R_reads' HO5.out).2.1 HSS.out).mono ?_
            rintro e wN ⟨rfl, hb⟩
            refine ⟨_, rfl, ?_⟩
            refine hK.out _ _ ⟨v119, .slice Ao (List.length [S]) co, (by rw [ha.out]; exact putSel_upk 6 hb_ rfl rfl rfl), (Below.trans HB.out (Below.mono hb HB.out.size)), (MB.move HM.out (hb.block g (MB.lt HM.out))), fun _ => (Kd.R_below HO2.out hb), fun _ => (Kd.R_below HO5.out hb)⟩
          refine steps_cons ?_ ?_
          · rintro b a w' ⟨v119, v122, ha, Q_HB, Q_HM, Q_HO2, Q_HO5⟩ hb_ hon hoff
            refine ⟨_, rfl, fun K hK => ?_⟩
            have e120 : a.tmps[120]? = some (.int .u32 (crcSum [F])) := by rw [ha]; exact putSel_on (e := (3, 120, .int .u32 (crcSum [F]))) 3 rfl rfl (hon 3 (by kernel_rfl)) rfl
            have e123 : a.tmps[123]? = some (.int .u32 (crcSum [S])) := by rw [ha]; exact putSel_on (e := (6, 123, .int .u32 (crcSum [S]))) 6 rfl rfl (hon 6 (by kernel_rfl)) rfl
            replace ha := Aside0.mk ha
            have HB := Aside0.mk Q_HB
            have HM := Aside0.mk Q_HM
            have HO2 := Aside0.mk (Q_HO2 (hon 2 (by kernel_rfl)))
            have HO5 := Aside0.mk (Q_HO5 (hon 5 (by kernel_rfl)))
            refine value_ (w1 := w') (v := .bool (crcSum [F] == crcSum [S])) (by rfl) rfl ?_ ?_
            · go_simp
              (try simp only [i64_w])
              try rfl
            refine hK.out _ _ ⟨v119, v122, (by rw [ha.out]; exact putSel_upk 7 hb_ rfl rfl rfl), Q_HB, Q_HM, Q_HO2, Q_HO5⟩
          refine steps_cons ?_ ?_
          · rintro b a w' ⟨v119, v122, ha, Q_HB, Q_HM, Q_HO2, Q_HO5⟩ hb_ hon hoff
            refine ⟨_, rfl, fun K hK => ?_⟩
            have e13 : a.tmps[13]? = some (.slice (some ⟨g, 0, none⟩) S.size cap) := by rw [ha]; exact (putSel_off rfl).trans rfl
            replace ha := Aside0.mk ha
            have HB := Aside0.mk Q_HB
            have HM := Aside0.mk Q_HM
            refine value_ (w1 := w') (v := .slice (some ⟨g, 0, none⟩) S.size cap) (by rfl) rfl ?_ ?_
            · go_simp
              (try simp only [i64_w])
              try rfl
            refine hK.out _ _ ⟨v119, v122, (by rw [ha.out]; exact putSel_upk 8 hb_ rfl rfl rfl), Q_HB, Q_HM, Q_HO2, Q_HO5⟩
          refine steps_cons ?_ ?_
          · rintro b a w' ⟨v119, v122, ha, Q_HB, Q_HM, Q_HO2, Q_HO5⟩ hb_ hon hoff
            refine ⟨_, rfl, fun K hK => ?_⟩
            have e125 : a.tmps[125]? = some (.slice (some ⟨g, 0, none⟩) S.size cap) := by rw [ha]; exact putSel_on (e := (8, 125, .slice (some ⟨g, 0, none⟩) S.size cap)) 8 rfl rfl (hon 8 (by kernel_rfl)) rfl
            replace ha := Aside0.mk ha
            have HB := Aside0.mk Q_HB
            have HM := Aside0.mk Q_HM
            have hcs := MB.conv (P := Try.prog) HM.out cap Try.underlying35 Try.underlying5 Try.underlying9
            rw [HLEN.out, HF.out] at hcs
            refine value_ (w1 := w') (v := .string F) (by rfl) rfl ?_ ?_
            · go_simp
              (try simp only [i64_w])
              try rfl
            refine hK.out _ _ ⟨v119, v122, (by rw [ha.out]; exact putSel_upk 9 hb_ rfl rfl rfl), Q_HB, Q_HM, Q_HO2, Q_HO5⟩
          refine steps_cons ?_ ?_
          · rintro b a w' ⟨v119, v122, ha, Q_HB, Q_HM, Q_HO2, Q_HO5⟩ hb_ hon hoff
            refine ⟨_, rfl, fun K hK => ?_⟩
            have e0 : a.tmps[0]? = some (.string S) := by rw [ha]; exact (putSel_off rfl).trans rfl
            replace ha := Aside0.mk ha
            have HB := Aside0.mk Q_HB
            have HM := Aside0.mk Q_HM
            refine value_ (w1 := w') (v := .string S) (by rfl) rfl ?_ ?_
            · go_simp
              (try simp only [i64_w])
              try rfl
            refine hK.out _ _ ⟨v119, v122, (by rw [ha.out]; exact putSel_upk 10 hb_ rfl rfl rfl), Q_HB, Q_HM, Q_HO2, Q_HO5⟩
          refine steps_cons ?_ ?_
          · rintro b a w' ⟨v119, v122, ha, Q_HB, Q_HM, Q_HO2, Q_HO5⟩ hb_ hon hoff
            refine ⟨_, rfl, fun K hK => ?_⟩
            have e126 : a.tmps[126]? = some (.string F) := by rw [ha]; exact putSel_on (e := (9, 126, .string F)) 9 rfl rfl (hon 9 (by kernel_rfl)) rfl
            have e127 : a.tmps[127]? = some (.string S) := by rw [ha]; exact putSel_on (e := (10, 127, .string S)) 10 rfl rfl (hon 10 (by kernel_rfl)) rfl
            replace ha := Aside0.mk ha
            have HB := Aside0.mk Q_HB
            have HM := Aside0.mk Q_HM
            refine value_ (w1 := w') (v := .bool (F.toList == S.toList)) (by rfl) rfl ?_ ?_
            · go_simp
              (try simp only [i64_w])
              try rfl
            refine hK.out _ _ ⟨v119, v122, (by rw [ha.out]; exact putSel_upk 11 hb_ rfl rfl rfl), Q_HB, Q_HM, Q_HO2, Q_HO5⟩
          refine steps_cons ?_ ?_
          · rintro b a w' ⟨v119, v122, ha, Q_HB, Q_HM, Q_HO2, Q_HO5⟩ hb_ hon hoff
            refine ⟨_, rfl, fun K hK => ?_⟩
            have e124 : a.tmps[124]? = some (.bool (crcSum [F] == crcSum [S])) := by rw [ha]; exact putSel_on (e := (7, 124, .bool (crcSum [F] == crcSum [S]))) 7 rfl rfl (hon 7 (by kernel_rfl)) rfl
            have e128 : a.tmps[128]? = some (.bool (F.toList == S.toList)) := by rw [ha]; exact putSel_on (e := (11, 128, .bool (F.toList == S.toList))) 11 rfl rfl (hon 11 (by kernel_rfl)) rfl
            replace ha := Aside0.mk ha
            have HB := Aside0.mk Q_HB
            have HM := Aside0.mk Q_HM
            have HO2 := Aside0.mk (Q_HO2 (hon 2 (by kernel_rfl)))
            have HO5 := Aside0.mk (Q_HO5 (hon 5 (by kernel_rfl)))
            refine value_ (w1 := w') (v := .bool ((crcSum [F] == crcSum [S]) == (F.toList == S.toList))) (by rfl) rfl ?_ ?_
            · go_simp
              (try simp only [i64_w])
              try rfl
            refine hK.out _ _ ⟨v119, v122, (by rw [ha.out]; exact putSel_upk 12 hb_ rfl rfl rfl), Q_HB, Q_HM, Q_HO2, Q_HO5⟩
          refine steps_cons ?_ ?_
          · rintro b a w' ⟨v119, v122, ha, Q_HB, Q_HM, Q_HO2, Q_HO5⟩ hb_ hon hoff
            refine ⟨_, rfl, fun K hK => ?_⟩
            have e129 : a.tmps[129]? = some (.bool ((crcSum [F] == crcSum [S]) == (F.toList == S.toList))) := by rw [ha]; exact putSel_on (e := (12, 129, .bool ((crcSum [F] == crcSum [S]) == (F.toList == S.toList)))) 12 rfl rfl (hon 12 (by kernel_rfl)) rfl
            replace ha := Aside0.mk ha
            have HB := Aside0.mk Q_HB
            have HM := Aside0.mk Q_HM
            have HO2 := Aside0.mk (Q_HO2 (hon 2 (by kernel_rfl)))
            have HO5 := Aside0.mk (Q_HO5 (hon 5 (by kernel_rfl)))
            refine value_ (w1 := w') (v := .bool ((crcSum [F] == crcSum [S]) == (F.toList == S.toList))) (by rfl) rfl ?_ ?_
            · go_simp
              (try simp only [i64_w])
              try rfl
            refine hK.out _ _ ⟨v119, v122, (by rw [ha.out]; exact putSel_upk 13 hb_ rfl rfl rfl), Q_HB, Q_HM, Q_HO2, Q_HO5⟩
          exact steps_nil
        · rintro b a w' hall ⟨v119, v122, ha, Q_HB, Q_HM, Q_HO2, Q_HO5⟩
          clear HB HM
          have hb0_ := hall 0 (by kernel_rfl)
          have hb1_ := hall 1 (by kernel_rfl)
          have hb2_ := hall 2 (by kernel_rfl)
          have hb3_ := hall 3 (by kernel_rfl)
          have hb4_ := hall 4 (by kernel_rfl)
          have hb5_ := hall 5 (by kernel_rfl)
          have hb6_ := hall 6 (by kernel_rfl)
          have hb7_ := hall 7 (by kernel_rfl)
          have hb8_ := hall 8 (by kernel_rfl)
          have hb9_ := hall 9 (by kernel_rfl)
          have hb10_ := hall 10 (by kernel_rfl)
          have hb11_ := hall 11 (by kernel_rfl)
          have hb12_ := hall 12 (by kernel_rfl)
          have hb13_ := hall 13 (by kernel_rfl)
          subst ha
          simp only [putSel, hb0_, hb1_, hb2_, hb3_, hb4_, hb5_, hb6_, hb7_, hb8_, hb9_, hb10_, hb11_, hb12_, hb13_, if_true, Act.put, List.setIfInBounds_toArray, List.set_cons_zero, List.set_cons_succ]
          have HB := Aside0.mk Q_HB
          clear Q_HB
          have HM := Aside0.mk Q_HM
          clear Q_HM
          have HO2 := Aside0.mk (Q_HO2 hb2_)
          clear Q_HO2
          have HO5 := Aside0.mk (Q_HO5 hb5_)
          clear Q_HO5
          clear hall hb0_ hb1_ hb2_ hb3_ hb4_ hb5_ hb6_ hb7_ hb8_ hb9_ hb10_ hb11_ hb12_ hb13_
          rw [HE.out]
          go_wp2
          go_ret
          exact ⟨rfl, HB.out⟩
set_option maxRecDepth 100000 in
set_option maxHeartbeats 2000000 in
theorem empty (S t : ByteArray) (at_ turn : Int) (w : World) (hs : S.size ≤ 2000) (ht : t.size ≤ 2000) (hne : S.size = 0) (h0 : 0 ≤ at_) (hat : at_ ≤ 9223372036854775807) (ht0 : 0 ≤ turn) (htu : turn < 4294967296) :
    Calls Try.prog 6 #[.string S, .string t, .int .i64 at_, .int .u32 turn] w fun e w' => e = .returned (.bool true) ∧ Below w.heap.size w w' := by
  have d1 : decide (2000 < S.size) = false := decide_eq_false (by omega)
  have d1' : decide (2000 < t.size) = false := decide_eq_false (by omega)
  have d1i : decide ((2000 : Int) < S.size) = false := decide_eq_false (by omega)
  have d1i' : decide ((2000 : Int) < t.size) = false := decide_eq_false (by omega)
  have d2 : decide (at_ < 0) = false := decide_eq_false (by omega)
  have d4 : S.toList.isEmpty = true := by
    rw [ByteArray.toList_eq, List.isEmpty_iff]
    exact List.eq_nil_of_length_eq_zero hne
  have hcv := fun (w : World) (s : ByteArray) => @Lib.run_convert_string_bytes Try.prog w 9 35 5 s _ Try.underlying9 Try.underlying35 Try.underlying5
  obtain ⟨S1, hS1⟩ : ∃ S1, sealB S = S1 := ⟨_, rfl⟩
  obtain ⟨S2, hS2⟩ : ∃ S2, sealB S1 = S2 := ⟨_, rfl⟩
  obtain ⟨t1, ht1⟩ : ∃ t1, sealB t = t1 := ⟨_, rfl⟩
  have z1 : S1.size = S.size + 4 := by rw [← hS1, sealB_size]
  have z3 : t1.size = t.size + 4 := by rw [← ht1, sealB_size]
  have C1 := Aside0.mk (show crc_Seal.f S = some S1 by rw [seal_eq (by omega), hS1])
  have C2 := Aside0.mk (show crc_Seal.f S1 = some S2 by rw [seal_eq (by omega), hS2])
  have C3 := Aside0.mk (show crc_Open.f S2 = some (S1, 0) by rw [← hS2, open_seal (by omega)])
  have C4 := Aside0.mk (show crc_Open.f S1 = some (S, 0) by rw [← hS1, open_seal (by omega)])
  have C5 := Aside0.mk (show crc_Seal.f t = some t1 by rw [seal_eq (by omega), ht1])
  have C6 := Aside0.mk (show crc_Sum.f [S1] = some (toI (ones ^^^ bBits 32 ones)) by rw [sum_one (by omega), ← hS1, crcSum_seal])
  have C7 := Aside0.mk (show crc_Sum.f [t1] = some (toI (ones ^^^ bBits 32 ones)) by rw [sum_one (by omega), ← ht1, crcSum_seal])
  have HSS := Aside0.mk (show crc_Sum.f [S] = some (crcSum [S]) from sum_one (by omega))
  generalize toI (ones ^^^ bBits 32 ones) = RR at *
  have hN : S.size ≤ 2000 := hs
  have H0 := Aside0.mk h0
  have HB := Aside0.mk (Below.refl w.heap.size w)
  clear hs ht hne hS1 hS2 ht1 z1 z3
  go_enter Try.func6, Try.ntmps6
  go_wp2_with (first | (go_at_call 7; refine (snapferrylaw02_awake.calls _ _ awake_true).mono ?_; rintro e w' ⟨rfl, hb⟩; have HB' := Aside0.mk (Below.trans HB.out (Below.mono hb HB.out.size)); clear HB hb; have HB := HB'; clear HB') | (go_at_call_of 12 (Value.string S); (refine (crc_Seal.calls S S1 _ C1.out).mono ?_; rintro e w' ⟨rfl, hb⟩; have HB' := Aside0.mk (Below.trans HB.out (Below.mono hb HB.out.size)); clear HB hb; have HB := HB'; clear HB')) | (go_at_call_of 12 (Value.string S1); refine (crc_Seal.calls S1 S2 _ C2.out).mono ?_; rintro e w' ⟨rfl, hb⟩; have HB' := Aside0.mk (Below.trans HB.out (Below.mono hb HB.out.size)); clear HB hb; have HB := HB'; clear HB') | (go_at_call_of 12 (Value.string t); refine (crc_Seal.calls t t1 _ C5.out).mono ?_; rintro e w' ⟨rfl, hb⟩; have HB' := Aside0.mk (Below.trans HB.out (Below.mono hb HB.out.size)); clear HB hb; have HB := HB'; clear HB') | (go_at_call_of 8 (Value.string S2); refine (crc_Open.calls S2 S1 0 _ C3.out).mono ?_; rintro e w' ⟨rfl, hb⟩; have HB' := Aside0.mk (Below.trans HB.out (Below.mono hb HB.out.size)); clear HB hb; have HB := HB'; clear HB') | (go_at_call_of 8 (Value.string S1); refine (crc_Open.calls S1 S 0 _ C4.out).mono ?_; rintro e w' ⟨rfl, hb⟩; have HB' := Aside0.mk (Below.trans HB.out (Below.mono hb HB.out.size)); clear HB hb; have HB := HB'; clear HB') | (go_at_call 10; refine (crc_Sum.calls _ _ [t1] RR _ (lit_reads _ _ _) (Nat.le_refl _) C7.out).mono ?_; rintro e w' ⟨rfl, hb⟩; have HB' := Aside0.mk (Below.trans (Below.alloc HB.out HB.out.size _) (Below.mono hb (Nat.le_trans HB.out.size (by simp)))); clear HB hb; have HB := HB'; clear HB') | (go_at_call 10; refine (crc_Sum.calls _ _ [S1] RR _ (lit_reads _ _ _) (Nat.le_refl _) C6.out).mono ?_; rintro e w' ⟨rfl, hb⟩; have HB' := Aside0.mk (Below.trans (Below.alloc HB.out HB.out.size _) (Below.mono hb (Nat.le_trans HB.out.size (by simp)))); clear HB hb; have HB := HB'; clear HB'))
  go_ret
  exact ⟨rfl, HB.out⟩
set_option maxRecDepth 100000 in
theorem long1 (S t : ByteArray) (at_ turn : Int) (w : World) (hs : 2000 < S.size) :
    Calls Try.prog 6 #[.string S, .string t, .int .i64 at_, .int .u32 turn] w fun e w' => e = .returned (.bool true) ∧ Below w.heap.size w w' := by
  have d1 : decide (2000 < S.size) = true := decide_eq_true (by omega)
  have d1i : decide ((2000 : Int) < S.size) = true := decide_eq_true (by omega)
  go_enter Try.func6, Try.ntmps6
  go_wp2_with (go_at_call 7; refine (snapferrylaw02_awake.calls _ _ awake_true).mono ?_; rintro e w1 ⟨rfl, hb1⟩)
  go_ret
  exact ⟨rfl, hb1⟩
set_option maxRecDepth 100000 in
theorem long2 (S t : ByteArray) (at_ turn : Int) (w : World) (hs : S.size ≤ 2000) (ht : 2000 < t.size) :
    Calls Try.prog 6 #[.string S, .string t, .int .i64 at_, .int .u32 turn] w fun e w' => e = .returned (.bool true) ∧ Below w.heap.size w w' := by
  have d1 : decide (2000 < S.size) = false := decide_eq_false (by omega)
  have d1i : decide ((2000 : Int) < S.size) = false := decide_eq_false (by omega)
  have d2 : decide (2000 < t.size) = true := decide_eq_true (by omega)
  have d2i : decide ((2000 : Int) < t.size) = true := decide_eq_true (by omega)
  go_enter Try.func6, Try.ntmps6
  go_wp2_with (go_at_call 7; refine (snapferrylaw02_awake.calls _ _ awake_true).mono ?_; rintro e w1 ⟨rfl, hb1⟩)
  go_ret
  exact ⟨rfl, hb1⟩
set_option maxRecDepth 100000 in
theorem neg (S t : ByteArray) (at_ turn : Int) (w : World) (hs : S.size ≤ 2000) (ht : t.size ≤ 2000) (h0 : at_ < 0) :
    Calls Try.prog 6 #[.string S, .string t, .int .i64 at_, .int .u32 turn] w fun e w' => e = .returned (.bool true) ∧ Below w.heap.size w w' := by
  have d1 : decide (2000 < S.size) = false := decide_eq_false (by omega)
  have d1i : decide ((2000 : Int) < S.size) = false := decide_eq_false (by omega)
  have d2 : decide (2000 < t.size) = false := decide_eq_false (by omega)
  have d2i : decide ((2000 : Int) < t.size) = false := decide_eq_false (by omega)
  have d3 : decide (at_ < 0) = true := decide_eq_true (by omega)
  go_enter Try.func6, Try.ntmps6
  go_wp2_with (go_at_call 7; refine (snapferrylaw02_awake.calls _ _ awake_true).mono ?_; rintro e w1 ⟨rfl, hb1⟩)
  go_ret
  exact ⟨rfl, hb1⟩
theorem all (S t : ByteArray) (at_ turn : Int) (w : World) (hat : at_ ≤ 9223372036854775807) (ht0 : 0 ≤ turn) (htu : turn < 4294967296) :
    Calls Try.prog 6 #[.string S, .string t, .int .i64 at_, .int .u32 turn] w fun e w' => e = .returned (.bool true) ∧ Below w.heap.size w w' := by
  by_cases hs : S.size ≤ 2000
  · by_cases ht : t.size ≤ 2000
    · by_cases h0 : 0 ≤ at_
      · by_cases hne : 1 ≤ S.size
        · exact walk S t at_ turn w hs ht hne h0 hat ht0 htu
        · exact empty S t at_ turn w hs ht (by omega) h0 hat ht0 htu
      · exact neg S t at_ turn w hs ht (by omega)
    · exact long2 S t at_ turn w hs (by omega)
  · exact long1 S t at_ turn w (by omega)
end Go.Proofs.Ytgjaehagmfkamaa.Twice
