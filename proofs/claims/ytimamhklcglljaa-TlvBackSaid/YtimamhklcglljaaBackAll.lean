/- TlvBack: for every input it returns true, and makes memory alone. No condition. -/
import Derived.Test.YtimamhklcglljaaBack
namespace Go.Proofs.Ytimamhklcglljaa.Back
set_option linter.unusedVariables false
set_option linter.unusedSimpArgs false
open Go.RowKit Go.Proofs.Ytimamhklcglljaa.Q Go.Proofs.YtimamhklcglljaaW.PrintWords Go.Proofs.YtimamhklcglljaaW.PrintMore
open Go.Proofs.Ytimamhklcglljaa.Pure Go.Proofs.Ytimamhklcglljaa.Pieces
set_option maxRecDepth 100000 in
theorem many (A0 : Option Addr) (c0 : Nat) (kinds : List Int) (A1 : Option Addr) (c1 : Nat) (texts : List ByteArray) (cut at_ turn : Int) (w : World)
    (hr1 : Kd.C Kd.string w A1 texts.length texts) (hc1 : texts.length ≤ c1) (hf : Ev (fun k => snapferrylaw04_few.f k texts) false) :
    Calls Try.prog 3 #[.slice A0 kinds.length c0, .slice A1 texts.length c1, .int .i64 cut, .int .i64 at_, .int .u8 turn] w fun e w' => e = .returned (.bool true) ∧ Below w.heap.size w w' := by
  obtain ⟨kf, hkf⟩ := hf.rounds
  have HF := Aside0.mk hkf
  have HR := Aside0.mk hr1
  have HC := Aside0.mk hc1
  clear hr1 hc1 hf hkf
  go_enter Try.func3, Try.ntmps3
  go_wp2_with (first | (go_at_call 6; refine (snapferrylaw04_awake.calls true _ rfl).mono ?_; rintro e w1 ⟨rfl, hb1⟩; have HB1 := Aside0.mk hb1; clear hb1) | (go_at_call 7; refine (snapferrylaw04_few.calls kf _ _ texts false _ (Kd.C_below HR.out HB1.out) HC.out HF.out).mono ?_; rintro e w2 ⟨rfl, hd⟩; have HB2 := Aside0.mk (show Below w.heap.size w w2 by obtain ⟨n, rfl⟩ := hd.out; exact pw_below_drewN HB1.out n); clear hd HB1))
  go_ret
  exact ⟨rfl, HB2.out⟩
set_option maxRecDepth 100000 in
theorem early (A0 : Option Addr) (c0 : Nat) (kinds : List Int) (A1 : Option Addr) (c1 : Nat) (texts : List ByteArray) (cut at_ turn : Int) (w : World)
    (hr1 : Kd.C Kd.string w A1 texts.length texts) (hc1 : texts.length ≤ c1) (hf : Ev (fun k => snapferrylaw04_few.f k texts) true)
    (h : kinds.length < texts.length ∨ cut < 0 ∨ at_ < 0) :
    Calls Try.prog 3 #[.slice A0 kinds.length c0, .slice A1 texts.length c1, .int .i64 cut, .int .i64 at_, .int .u8 turn] w fun e w' => e = .returned (.bool true) ∧ Below w.heap.size w w' := by
  obtain ⟨kf, hkf⟩ := hf.rounds
  have HF := Aside0.mk hkf
  have HR := Aside0.mk hr1
  have HC := Aside0.mk hc1
  clear hr1 hc1 hf hkf
  by_cases e1 : kinds.length < texts.length
  · have d1 : decide (kinds.length < texts.length) = true := decide_eq_true e1
    have d2 : decide ((kinds.length : Int) < (texts.length : Int)) = true := decide_eq_true (by omega)
    clear h e1
    go_enter Try.func3, Try.ntmps3
    go_wp2_with (first | (go_at_call 6; refine (snapferrylaw04_awake.calls true _ rfl).mono ?_; rintro e w1 ⟨rfl, hb1⟩; have HB1 := Aside0.mk hb1; clear hb1) | (go_at_call 7; refine (snapferrylaw04_few.calls kf _ _ texts true _ (Kd.C_below HR.out HB1.out) HC.out HF.out).mono ?_; rintro e w2 ⟨rfl, hd⟩; have HB2 := Aside0.mk (show Below w.heap.size w w2 by obtain ⟨n, rfl⟩ := hd.out; exact pw_below_drewN HB1.out n); clear hd HB1))
    go_ret
    exact ⟨rfl, HB2.out⟩
  · have d1 : decide (kinds.length < texts.length) = false := decide_eq_false e1
    have d2 : decide ((kinds.length : Int) < (texts.length : Int)) = false := decide_eq_false (by omega)
    by_cases e2 : cut < 0
    · have d3 : decide (cut < 0) = true := decide_eq_true e2
      clear h e1 e2
      go_enter Try.func3, Try.ntmps3
      go_wp2_with (first | (go_at_call 6; refine (snapferrylaw04_awake.calls true _ rfl).mono ?_; rintro e w1 ⟨rfl, hb1⟩; have HB1 := Aside0.mk hb1; clear hb1) | (go_at_call 7; refine (snapferrylaw04_few.calls kf _ _ texts true _ (Kd.C_below HR.out HB1.out) HC.out HF.out).mono ?_; rintro e w2 ⟨rfl, hd⟩; have HB2 := Aside0.mk (show Below w.heap.size w w2 by obtain ⟨n, rfl⟩ := hd.out; exact pw_below_drewN HB1.out n); clear hd HB1))
      go_ret
      exact ⟨rfl, HB2.out⟩
    · have d3 : decide (cut < 0) = false := decide_eq_false e2
      have d4 : decide (at_ < 0) = true := decide_eq_true (by rcases h with h | h | h <;> omega)
      clear h e1 e2
      go_enter Try.func3, Try.ntmps3
      go_wp2_with (first | (go_at_call 6; refine (snapferrylaw04_awake.calls true _ rfl).mono ?_; rintro e w1 ⟨rfl, hb1⟩; have HB1 := Aside0.mk hb1; clear hb1) | (go_at_call 7; refine (snapferrylaw04_few.calls kf _ _ texts true _ (Kd.C_below HR.out HB1.out) HC.out HF.out).mono ?_; rintro e w2 ⟨rfl, hd⟩; have HB2 := Aside0.mk (show Below w.heap.size w w2 by obtain ⟨n, rfl⟩ := hd.out; exact pw_below_drewN HB1.out n); clear hd HB1))
      go_ret
      exact ⟨rfl, HB2.out⟩
theorem all (A0 : Option Addr) (c0 : Nat) (kinds : List Int) (A1 : Option Addr) (c1 : Nat) (texts : List ByteArray) (cut at_ turn : Int) (w : World)
    (hr0 : Kd.C (Kd.int .u8) w A0 kinds.length kinds ∧ ∀ i, 0 ≤ rd kinds i ∧ rd kinds i < 256) (hc0 : kinds.length ≤ c0)
    (hr1 : Kd.C Kd.string w A1 texts.length texts) (hc1 : texts.length ≤ c1) (hz : ∀ s ∈ texts, s.size ≤ 140737488351232)
    (h2' : cut ≤ 9223372036854775807) (h3' : at_ ≤ 9223372036854775807) (h4 : 0 ≤ turn ∧ turn ≤ 255) :
    Calls Try.prog 3 #[.slice A0 kinds.length c0, .slice A1 texts.length c1, .int .i64 cut, .int .i64 at_, .int .u8 turn] w fun e w' => e = .returned (.bool true) ∧ Below w.heap.size w w' := by
  rcases few_ev texts (fun s hs => by have := hz s hs; omega) with ⟨h, h1, h2⟩ | h
  · by_cases he : kinds.length < texts.length ∨ cut < 0 ∨ at_ < 0
    · exact early A0 c0 kinds A1 c1 texts cut at_ turn w hr1 hc1 h he
    · exact walk A0 c0 kinds A1 c1 texts cut at_ turn w hr0.1 hc0 hr0.2 hr1 hc1 h h1 h2 (by omega) (by omega) h2' (by omega) h3' h4.1 (by omega)
  · exact many A0 c0 kinds A1 c1 texts cut at_ turn w hr1 hc1 h
end Go.Proofs.Ytimamhklcglljaa.Back
