/- TlvRest: the walk of its body: for every input it returns true, and makes memory alone. No condition. -/
import Derived.Test.YtimamhklcglljaaTlv
import Derived.Deep.RegionWith
namespace Go.Proofs.Ytimamhklcglljaa.Rest
set_option linter.unusedVariables false
set_option linter.unusedSimpArgs false
open Go.RowKit Go.Proofs.Ytimamhklcglljaa.Q Go.Proofs.YtimamhklcglljaaW.PrintWords Go.Proofs.YtimamhklcglljaaW.PrintLast Go.Proofs.YtimamhklcglljaaW.PrintMore
open Go.Proofs.Ytimamhklcglljaa.Pure
def recO (K S : Int) (P : ByteArray) : Obj := .cells #[.int .i64 K, .int .i64 S, .string P] 29
/-- The two records' blocks, in a world that is behind the call's begin. -/
structure Two (w W : World) (K S : Int) (P : ByteArray) (K' S' : Int) (P' : ByteArray) : Prop where
  x : W.heap[w.heap.size]? = some (recO K S P)
  y : W.heap[w.heap.size + 1]? = some (recO K' S' P')
  b : Below w.heap.size w W
theorem Two.new (w : World) (K S : Int) (P : ByteArray) (K' S' : Int) (P' : ByteArray) : Two w ((w.alloc (recO K S P)).alloc (recO K' S' P')) K S P K' S' P' :=
  ⟨blk_alloc (blk_new _ _) _, by have := blk_new (w.alloc (recO K S P)) (recO K' S' P'); simpa using this, below_alloc (below_alloc (Below.refl _ _) _) _⟩
section
variable {K S : Int} {P : ByteArray} {K' S' : Int} {P' : ByteArray} {w W W' : World}
theorem Two.below (h : Two w W K S P K' S' P') (hb : Below W.heap.size W W') : Two w W' K S P K' S' P' := ⟨blk_below h.x hb, blk_below h.y hb, below_step h.b hb⟩
theorem Two.alloc (h : Two w W K S P K' S' P') (o : Obj) : Two w (W.alloc o) K S P K' S' P' := ⟨blk_alloc h.x _, blk_alloc h.y _, below_alloc h.b _⟩
theorem Two.x0 (h : Two w W K S P K' S' P') : W.cell? ⟨w.heap.size, 0, none⟩ = some (.int .i64 K) := blk_cell h.x 0
theorem Two.x1 (h : Two w W K S P K' S' P') : W.cell? ⟨w.heap.size, 1, none⟩ = some (.int .i64 S) := blk_cell h.x 1
theorem Two.x2 (h : Two w W K S P K' S' P') : W.cell? ⟨w.heap.size, 2, none⟩ = some (.string P) := blk_cell h.x 2
theorem Two.y0 (h : Two w W K S P K' S' P') : W.cell? ⟨w.heap.size + 1, 0, none⟩ = some (.int .i64 K') := blk_cell h.y 0
theorem Two.y1 (h : Two w W K S P K' S' P') : W.cell? ⟨w.heap.size + 1, 1, none⟩ = some (.int .i64 S') := blk_cell h.y 1
theorem Two.y2 (h : Two w W K S P K' S' P') : W.cell? ⟨w.heap.size + 1, 2, none⟩ = some (.string P') := blk_cell h.y 2
end
section
variable (K S : Int) (P : ByteArray) (K' S' : Int) (P' : ByteArray) (more : ByteArray) (cut : Int) (w : World)
set_option maxRecDepth 100000 in
set_option maxHeartbeats 2000000 in
theorem early (h : 9000 < P.size ∨ 9000 < P'.size ∨ 2000 < more.size ∨ cut < 0) :
    Calls Try.prog 4 #[.agg #[.int .i64 K, .int .i64 S, .string P], .agg #[.int .i64 K', .int .i64 S', .string P'], .string more, .int .i64 cut] w fun e w' => e = .returned (.bool true) ∧ Below w.heap.size w w' := by
  have hu29 := Try.underlying29
  have HT := Aside0.mk (Two.new w K S P K' S' P')
  by_cases h1 : 9000 < P.size
  · have d1 : decide (9000 < P.size) = true := decide_eq_true h1
    have d1i : decide ((9000 : Int) < P.size) = true := decide_eq_true (by omega)
    clear h
    go_enter Try.func4, Try.ntmps4
    go_wp2_with (go_at_call 6; refine (snapferrylaw04_awake.calls true _ rfl).mono ?_; rintro e w1 ⟨rfl, hb1⟩; have HT1 := Aside0.mk (HT.out.below hb1); clear hb1; have hx2 := HT1.out.x2; have hy2 := HT1.out.y2)
    go_ret
    exact ⟨rfl, HT1.out.b⟩
  · have d1 : decide (9000 < P.size) = false := decide_eq_false h1
    have d1i : decide ((9000 : Int) < P.size) = false := decide_eq_false (by omega)
    by_cases h2 : 9000 < P'.size
    · have d2 : decide (9000 < P'.size) = true := decide_eq_true h2
      have d2i : decide ((9000 : Int) < P'.size) = true := decide_eq_true (by omega)
      clear h
      go_enter Try.func4, Try.ntmps4
      go_wp2_with (go_at_call 6; refine (snapferrylaw04_awake.calls true _ rfl).mono ?_; rintro e w1 ⟨rfl, hb1⟩; have HT1 := Aside0.mk (HT.out.below hb1); clear hb1; have hx2 := HT1.out.x2; have hy2 := HT1.out.y2)
      go_ret
      exact ⟨rfl, HT1.out.b⟩
    · have d2 : decide (9000 < P'.size) = false := decide_eq_false h2
      have d2i : decide ((9000 : Int) < P'.size) = false := decide_eq_false (by omega)
      by_cases h3 : 2000 < more.size
      · have d3 : decide (2000 < more.size) = true := decide_eq_true h3
        have d3i : decide ((2000 : Int) < more.size) = true := decide_eq_true (by omega)
        clear h
        go_enter Try.func4, Try.ntmps4
        go_wp2_with (go_at_call 6; refine (snapferrylaw04_awake.calls true _ rfl).mono ?_; rintro e w1 ⟨rfl, hb1⟩; have HT1 := Aside0.mk (HT.out.below hb1); clear hb1; have hx2 := HT1.out.x2; have hy2 := HT1.out.y2)
        go_ret
        exact ⟨rfl, HT1.out.b⟩
      · have d3 : decide (2000 < more.size) = false := decide_eq_false h3
        have d3i : decide ((2000 : Int) < more.size) = false := decide_eq_false (by omega)
        have d4 : decide (cut < 0) = true := decide_eq_true (by omega)
        clear h
        go_enter Try.func4, Try.ntmps4
        go_wp2_with (go_at_call 6; refine (snapferrylaw04_awake.calls true _ rfl).mono ?_; rintro e w1 ⟨rfl, hb1⟩; have HT1 := Aside0.mk (HT.out.below hb1); clear hb1; have hx2 := HT1.out.x2; have hy2 := HT1.out.y2)
        go_ret
        exact ⟨rfl, HT1.out.b⟩
set_option maxRecDepth 100000 in
set_option maxHeartbeats 2000000 in
theorem bad (h1 : P.size ≤ 9000) (h2 : P'.size ≤ 9000) (h3 : more.size ≤ 2000) (h4 : 0 ≤ cut) (hx : ¬ Right K S P) :
    Calls Try.prog 4 #[.agg #[.int .i64 K, .int .i64 S, .string P], .agg #[.int .i64 K', .int .i64 S', .string P'], .string more, .int .i64 cut] w fun e w' => e = .returned (.bool true) ∧ Below w.heap.size w w' := by
  have hu29 := Try.underlying29
  have HT := Aside0.mk (Two.new w K S P K' S' P')
  have d1 : decide (9000 < P.size) = false := decide_eq_false (by omega)
  have d1i : decide ((9000 : Int) < P.size) = false := decide_eq_false (by omega)
  have d2 : decide (9000 < P'.size) = false := decide_eq_false (by omega)
  have d2i : decide ((9000 : Int) < P'.size) = false := decide_eq_false (by omega)
  have d3 : decide (2000 < more.size) = false := decide_eq_false (by omega)
  have d3i : decide ((2000 : Int) < more.size) = false := decide_eq_false (by omega)
  have d4 : decide (cut < 0) = false := decide_eq_false (by omega)
  obtain ⟨e, he, hp⟩ := print_bad hx 0
  obtain ⟨t, f, hq⟩ : ∃ t f, tlv_Print.f 1 K' S' P' = some (t, f) := by
    by_cases hy : Right K' S' P'
    · exact ⟨_, _, print_ok hy 0⟩
    · obtain ⟨f, _, hq⟩ := print_bad hy 0; exact ⟨_, _, hq⟩
  have d5 : (e != 0) = true := by rw [bne_iff_ne]; exact he
  have HP := Aside0.mk hp
  have HQ := Aside0.mk hq
  clear hp hq he hx h1 h2 h3 h4
  go_enter Try.func4, Try.ntmps4
  go_wp2_with (first | (go_at_call 6; refine (snapferrylaw04_awake.calls true _ rfl).mono ?_; rintro e w1 ⟨rfl, hb1⟩; have HT1 := Aside0.mk (HT.out.below hb1); clear hb1; have hx0 := HT1.out.x0; have hx1 := HT1.out.x1; have hx2 := HT1.out.x2; have hy2 := HT1.out.y2) | (go_at_call_of 8 (Value.string P); refine (tlv_Print.calls _ _ _ _ _ _ _ HP.out).mono ?_; rintro e w2 ⟨rfl, hb2⟩; have HT2 := Aside0.mk (HT1.out.below hb2); clear hb2 hx0 hx1 hx2 hy2 HT1; have hy0 := HT2.out.y0; have hy1 := HT2.out.y1; have hy2 := HT2.out.y2) | (go_at_call_of 8 (Value.string P'); refine (tlv_Print.calls _ _ _ _ _ _ _ HQ.out).mono ?_; rintro e w3 ⟨rfl, hb3⟩; have HT3 := Aside0.mk (HT2.out.below hb3); clear hb3))
  go_ret
  exact ⟨rfl, HT3.out.b⟩
set_option maxRecDepth 100000 in
set_option maxHeartbeats 2000000 in
theorem good (h1 : P.size ≤ 9000) (h2 : P'.size ≤ 9000) (h3 : more.size ≤ 2000) (h4 : 0 ≤ cut) (h5 : cut ≤ 9223372036854775807) (hx : Right K S P) :
    Calls Try.prog 4 #[.agg #[.int .i64 K, .int .i64 S, .string P], .agg #[.int .i64 K', .int .i64 S', .string P'], .string more, .int .i64 cut] w fun e w' => e = .returned (.bool true) ∧ Below w.heap.size w w' := by
  have hu29 := Try.underlying29
  have HT := Aside0.mk (Two.new w K S P K' S' P')
  have d1 : decide (9000 < P.size) = false := decide_eq_false (by omega)
  have d1i : decide ((9000 : Int) < P.size) = false := decide_eq_false (by omega)
  have d2 : decide (9000 < P'.size) = false := decide_eq_false (by omega)
  have d2i : decide ((9000 : Int) < P'.size) = false := decide_eq_false (by omega)
  have d3 : decide (2000 < more.size) = false := decide_eq_false (by omega)
  have d3i : decide ((2000 : Int) < more.size) = false := decide_eq_false (by omega)
  have d4 : decide (cut < 0) = false := decide_eq_false (by omega)
  obtain ⟨s, hs⟩ : ∃ s, recB K S P = s := ⟨_, rfl⟩
  have hsz : s.size = P.size + 11 := by rw [← hs, recB_size]
  have HP := Aside0.mk (show tlv_Print.f 1 K S P = some (s, 0) by rw [← hs]; exact print_ok hx 0)
  have HA := Aside0.mk (show tlv_Parse.f (s ++ more) = some (K, S, P, more, 0) by rw [← hs]; exact parse_rec hx (by omega))
  have hpos : 0 < (s.size : Int) := by omega
  obtain ⟨c, hc⟩ : ∃ c : Nat, cut % (s.size : Int) = (c : Int) := ⟨(cut % (s.size : Int)).toNat, by have := Int.emod_nonneg cut (show (s.size : Int) ≠ 0 by omega); omega⟩
  have hcs : c < s.size := by have := Int.emod_lt_of_pos cut hpos; omega
  have HC := Aside0.mk (show tlv_Parse.f (s.extract 0 c) = some (0, 0, ⟨#[]⟩, ⟨#[]⟩, 4) by rw [← hs]; exact parse_cut hx (by rw [hs]; exact hcs))
  have hszb : s.size ≤ 9011 := by omega
  have hsum : s.size + more.size ≤ 9223372036854775807 := by omega
  have HS := Aside0.mk hsz
  have HH := Aside0.mk hs
  have hse : ((s.size : Int) == (P.size : Int) + 11) = true := by rw [beq_iff_eq]; omega
  clear hsz hs
  by_cases hy : Right K' S' P'
  · by_cases heq : K = K' ∧ S = S' ∧ P = P'
    · obtain ⟨rfl, rfl, rfl⟩ := heq
      have tok1 : True := trivial
      go_enter Try.func4, Try.ntmps4
      go_wp2_with (first | (go_at_call 6; refine (snapferrylaw04_awake.calls true _ rfl).mono ?_; rintro e w1 ⟨rfl, hb1⟩; have HT1 := Aside0.mk (HT.out.below hb1); clear hb1; have hx0 := HT1.out.x0; have hx1 := HT1.out.x1; have hx2 := HT1.out.x2; have hy2 := HT1.out.y2) | (go_at_call_of 8 (Value.string P); have _t := tok1; refine (tlv_Print.calls _ _ _ _ _ _ _ HP.out).mono ?_; rintro e w2 ⟨rfl, hb2⟩; have HT2 := Aside0.mk (HT1.out.below hb2); clear hb2 hx0 hx1 hx2 hy2 HT1 tok1; have hy0 := HT2.out.y0; have hy1 := HT2.out.y1; have hy2 := HT2.out.y2) | (go_at_call_of 8 (Value.string P); refine (tlv_Print.calls _ _ _ _ _ _ _ HP.out).mono ?_; rintro e w3 ⟨rfl, hb3⟩; have HT3 := Aside0.mk (HT2.out.below hb3); clear hb3 hy0 hy1 hy2 HT2) | (go_at_call_of 13 (Value.string (s ++ more)); refine (tlv_Parse.calls _ _ _ _ _ _ _ HA.out).mono ?_; rintro e w4 ⟨rfl, hb4⟩; have HT4 := Aside0.mk ((HT3.out.below hb4).alloc (recO K S P)); clear hb4 HT3; have HZ4 := Aside0.mk (blk_new w4 (recO K S P))) | (go_at_call 13; refine (tlv_Parse.calls _ _ _ _ _ _ _ HC.out).mono ?_; rintro e w5 ⟨rfl, hb5⟩; have HT5 := Aside0.mk (HT4.out.below hb5); have HZ5 := blk_below HZ4.out hb5; have hl1 := blk_lt HZ5; have hl2 := blk_lt HT5.out.x; have hl3 := blk_lt HT5.out.y; have hz0 : w5.cell? ⟨w4.heap.size, 0, none⟩ = some (.int .i64 K) := blk_cell HZ5 0; have hz1 : w5.cell? ⟨w4.heap.size, 1, none⟩ = some (.int .i64 S) := blk_cell HZ5 1; have hz2 : w5.cell? ⟨w4.heap.size, 2, none⟩ = some (.string P) := blk_cell HZ5 2; clear hb5 HT4 HZ4 HZ5; have hx0 := HT5.out.x0; have hx1 := HT5.out.x1; have hx2 := HT5.out.x2; have hy0 := HT5.out.y0; have hy1 := HT5.out.y1; have hy2 := HT5.out.y2))
      go_ret
      exact ⟨rfl, HT5.out.b.alloc HT5.out.b.size _⟩
    · have HQ := Aside0.mk (print_ok hy 0)
      have dst : (s.toList == (recB K' S' P').toList) = false := by
        rw [beq_eq_false_iff_ne, ByteArray.toList_eq, ByteArray.toList_eq]
        intro e
        apply heq
        have e2 : s = recB K' S' P' := by
          apply ByteArray.ext
          rw [← Array.toList_inj]
          exact e
        rw [← HH.out] at e2
        exact recB_inj hx hy e2
      have HD := Aside0.mk heq
      generalize recB K' S' P' = t at *
      clear heq
      go_enter Try.func4, Try.ntmps4
      go_wp2_with (first | (go_at_call 6; refine (snapferrylaw04_awake.calls true _ rfl).mono ?_; rintro e w1 ⟨rfl, hb1⟩; have HT1 := Aside0.mk (HT.out.below hb1); clear hb1; have hx0 := HT1.out.x0; have hx1 := HT1.out.x1; have hx2 := HT1.out.x2; have hy2 := HT1.out.y2) | (go_at_call_of 8 (Value.string P); refine (tlv_Print.calls _ _ _ _ _ _ _ HP.out).mono ?_; rintro e w2 ⟨rfl, hb2⟩; have HT2 := Aside0.mk (HT1.out.below hb2); clear hb2 hx0 hx1 hx2 hy2 HT1; have hy0 := HT2.out.y0; have hy1 := HT2.out.y1; have hy2 := HT2.out.y2) | (go_at_call_of 8 (Value.string P'); refine (tlv_Print.calls _ _ _ _ _ _ _ HQ.out).mono ?_; rintro e w3 ⟨rfl, hb3⟩; have HT3 := Aside0.mk (HT2.out.below hb3); clear hb3 hy0 hy1 hy2 HT2) | (go_at_call_of 13 (Value.string (s ++ more)); refine (tlv_Parse.calls _ _ _ _ _ _ _ HA.out).mono ?_; rintro e w4 ⟨rfl, hb4⟩; have HT4 := Aside0.mk ((HT3.out.below hb4).alloc (recO K S P)); clear hb4 HT3; have HZ4 := Aside0.mk (blk_new w4 (recO K S P))) | (go_at_call 13; refine (tlv_Parse.calls _ _ _ _ _ _ _ HC.out).mono ?_; rintro e w5 ⟨rfl, hb5⟩; have HT5 := Aside0.mk (HT4.out.below hb5); have HZ5 := blk_below HZ4.out hb5; have hl1 := blk_lt HZ5; have hl2 := blk_lt HT5.out.x; have hl3 := blk_lt HT5.out.y; have hz0 : w5.cell? ⟨w4.heap.size, 0, none⟩ = some (.int .i64 K) := blk_cell HZ5 0; have hz1 : w5.cell? ⟨w4.heap.size, 1, none⟩ = some (.int .i64 S) := blk_cell HZ5 1; have hz2 : w5.cell? ⟨w4.heap.size, 2, none⟩ = some (.string P) := blk_cell HZ5 2; clear hb5 HT4 HZ4 HZ5; have hx0 := HT5.out.x0; have hx1 := HT5.out.x1; have hx2 := HT5.out.x2; have hy0 := HT5.out.y0; have hy1 := HT5.out.y1; have hy2 := HT5.out.y2))
      all_goals first
        | (go_ret; exact ⟨rfl, HT5.out.b.alloc HT5.out.b.size _⟩)
        | (exfalso; apply HD.out; refine ⟨by assumption, by assumption, ?_⟩; have hpp : P.toList = P'.toList := by assumption
           rw [ByteArray.toList_eq, ByteArray.toList_eq] at hpp; apply ByteArray.ext; rw [← Array.toList_inj]; exact hpp)
  · obtain ⟨f, hf, hq⟩ := print_bad hy 0
    have d5 : (f != 0) = true := by rw [bne_iff_ne]; exact hf
    have HQ := Aside0.mk hq
    clear hq hf
    go_enter Try.func4, Try.ntmps4
    go_wp2_with (first | (go_at_call 6; refine (snapferrylaw04_awake.calls true _ rfl).mono ?_; rintro e w1 ⟨rfl, hb1⟩; have HT1 := Aside0.mk (HT.out.below hb1); clear hb1; have hx0 := HT1.out.x0; have hx1 := HT1.out.x1; have hx2 := HT1.out.x2; have hy2 := HT1.out.y2) | (go_at_call_of 8 (Value.string P); refine (tlv_Print.calls _ _ _ _ _ _ _ HP.out).mono ?_; rintro e w2 ⟨rfl, hb2⟩; have HT2 := Aside0.mk (HT1.out.below hb2); clear hb2 hx0 hx1 hx2 hy2 HT1; have hy0 := HT2.out.y0; have hy1 := HT2.out.y1; have hy2 := HT2.out.y2) | (go_at_call_of 8 (Value.string P'); refine (tlv_Print.calls _ _ _ _ _ _ _ HQ.out).mono ?_; rintro e w3 ⟨rfl, hb3⟩; have HT3 := Aside0.mk (HT2.out.below hb3); clear hb3 hy0 hy1 hy2 HT2) | (go_at_call_of 13 (Value.string (s ++ more)); refine (tlv_Parse.calls _ _ _ _ _ _ _ HA.out).mono ?_; rintro e w4 ⟨rfl, hb4⟩; have HT4 := Aside0.mk ((HT3.out.below hb4).alloc (recO K S P)); clear hb4 HT3; have HZ4 := Aside0.mk (blk_new w4 (recO K S P))) | (go_at_call 13; refine (tlv_Parse.calls _ _ _ _ _ _ _ HC.out).mono ?_; rintro e w5 ⟨rfl, hb5⟩; have HT5 := Aside0.mk (HT4.out.below hb5); have HZ5 := blk_below HZ4.out hb5; have hl1 := blk_lt HZ5; have hl2 := blk_lt HT5.out.x; have hl3 := blk_lt HT5.out.y; have hz0 : w5.cell? ⟨w4.heap.size, 0, none⟩ = some (.int .i64 K) := blk_cell HZ5 0; have hz1 : w5.cell? ⟨w4.heap.size, 1, none⟩ = some (.int .i64 S) := blk_cell HZ5 1; have hz2 : w5.cell? ⟨w4.heap.size, 2, none⟩ = some (.string P) := blk_cell HZ5 2; clear hb5 HT4 HZ4 HZ5; have hx0 := HT5.out.x0; have hx1 := HT5.out.x1; have hx2 := HT5.out.x2; have hy0 := HT5.out.y0; have hy1 := HT5.out.y1; have hy2 := HT5.out.y2))
    go_ret
    exact ⟨rfl, HT5.out.b.alloc HT5.out.b.size _⟩
theorem all (h5 : cut ≤ 9223372036854775807) :
    Calls Try.prog 4 #[.agg #[.int .i64 K, .int .i64 S, .string P], .agg #[.int .i64 K', .int .i64 S', .string P'], .string more, .int .i64 cut] w fun e w' => e = .returned (.bool true) ∧ Below w.heap.size w w' := by
  by_cases h1 : P.size ≤ 9000
  · by_cases h2 : P'.size ≤ 9000
    · by_cases h3 : more.size ≤ 2000
      · by_cases h4 : 0 ≤ cut
        · by_cases hx : Right K S P
          · exact good K S P K' S' P' more cut w h1 h2 h3 h4 h5 hx
          · exact bad K S P K' S' P' more cut w h1 h2 h3 h4 hx
        · exact early K S P K' S' P' more cut w (.inr (.inr (.inr (by omega))))
      · exact early K S P K' S' P' more cut w (.inr (.inr (.inl (by omega))))
    · exact early K S P K' S' P' more cut w (.inr (.inl (by omega)))
  · exact early K S P K' S' P' more cut w (.inl (by omega))
end
end Go.Proofs.Ytimamhklcglljaa.Rest
