/- A disk of sectors: the power fails, now or at the effect of its number. No condition. -/
import Derived.Test.YtehodgcfejkomaaLast
import Derived.WalkSmall
import Derived.Deep.QuietTactic
import Derived.BigQuiet
import Derived.Deep.Cut
namespace Go.Proofs.Ytehodgcfejkomaa.Disk
set_option linter.unusedVariables false
set_option linter.unusedSimpArgs false
open Go.RowKit Go.Proofs.Ytehodgcfejkomaa.Q Go.Proofs.YtehodgcfejkomaaW.PrintWords Go.Proofs.YtehodgcfejkomaaW.PrintMore
/-- Is the write of number i kept? -/
def keptB (keep : Int) (i : Nat) : Bool := decide (i < 64) && decide ((keep / 2 ^ i) % 2 = 1)
theorem kept_bit (keep : Int) (h0 : 0 ≤ keep) (h1 : keep < 18446744073709551616) (i : Nat) (h : i < 64) : (bits BinOp.and IntKind.u64 (keep / 2 ^ i) 1 == 1) = keptB keep i := by
  have hp : (0 : Int) < 2 ^ i := Int.pow_pos (by decide)
  have e0 : 0 ≤ keep / 2 ^ i := Int.ediv_nonneg h0 (Int.le_of_lt hp)
  have e1 : keep / 2 ^ i ≤ keep := Int.ediv_le_self _ h0
  rw [and_one_u64 _ e0 (by omega)]
  unfold keptB
  rw [decide_eq_true h, Bool.true_and]
  exact Bool.eq_iff_iff.2 (by simp)
theorem flush_all (i : Nat) (w : World) : Calls Try.prog 29 #[.int .i64 i] w fun e w' => e = .returned (.bool true) ∧ w' = w := by
  go_enter Try.func29, Try.ntmps29
  go_wp2
  go_ret
  exact ⟨rfl, rfl⟩
theorem keep_bit (p : Addr) (keep : Int) (h0 : 0 ≤ keep) (h1 : keep < 18446744073709551616) (i : Nat) (hi : i < 1000000) (w : World) (hc : w.cell? p = some (.int .u64 keep)) :
    Calls Try.prog 30 #[.int .i64 i, .pointer (some p)] w fun e w' => e = .returned (.bool (keptB keep i)) ∧ w' = w := by
  by_cases h : i < 64
  · have d1 : decide ((i : Int) < 64) = true := decide_eq_true (by omega)
    have d2 : decide (i < 64) = true := decide_eq_true h
    have hi0 : 0 ≤ (i : Int) := by omega
    have HK := Aside0.mk (kept_bit keep h0 h1 i h)
    clear h0 h1
    go_enter Try.func30, Try.ntmps30
    go_wp2
    go_ret
    exact ⟨by rw [HK.out]; rfl, rfl⟩
  · have d1 : decide ((i : Int) < 64) = false := decide_eq_false (by omega)
    have d2 : decide (i < 64) = false := decide_eq_false h
    have HK := Aside0.mk (show keptB keep i = false by unfold keptB; rw [d2]; rfl)
    clear h
    go_enter Try.func30, Try.ntmps30
    go_wp2
    go_ret
    exact ⟨HK.out ▸ rfl, rfl⟩
def crashD (D : Dk) (keep : Int) : Dk := if D.down then D else { lastD D (keptB keep) with at_ := 0, keep := 0, down := true }
/-- Plain bounds of a disk's numbers. -/
structure Ok (D : Dk) : Prop where
  size0 : 1 ≤ D.size
  size1 : D.size ≤ 8192
  wait : ∀ x ∈ D.wait, x.f1.size = 32 ∧ 0 ≤ x.f0 ∧ x.f0 < D.size
  lasts : ∀ x s, D.lasts x = some s → s.size = 32
  keep0 : 0 ≤ D.keep
  keep1 : D.keep < 18446744073709551616
theorem Ok.waits {D : Dk} (h : Ok D) : ∀ x ∈ D.wait, x.f1.size ≤ maxLen ∧ (Lit.int .i64 x.f0).wf = true := fun x hx => by
  obtain ⟨h1, h2, h3⟩ := h.wait x hx
  have := h.size1
  exact ⟨by rw [h1]; unfold maxLen; omega, WalkArith.wf_i64 (by omega)⟩
def Turned (w0 w : World) (g b : Nat) (D' : Dk) (w' : World) : Prop := (∃ v', DiskAt w0 w' g b v' D') ∧ Keeps w w'
set_option maxHeartbeats 4000000 in
theorem crash_calls {w0 w : World} {g b : Nat} {v : Value} {D : Dk} (keep : Int) (h : DiskAt w0 w g b v D) (ok : Ok D) (hs : D.stores + D.wait.length < 1000000) (h0 : 0 ≤ keep) (h1 : keep < 18446744073709551616) :
    Calls Try.prog 15 #[.pointer (some ⟨g, 0, none⟩), .int .u64 keep] w fun e w' => e = .returned (.tuple #[]) ∧ Turned w0 w g b (crashD D keep) w' := by
  have hu65 := Try.underlying65
  have hu31 := Try.underlying31
  have h6 := h.c6
  have hl := h.lt
  have HB := Aside0.mk (⟨h0, h1, hs, ok⟩ : _ ∧ _ ∧ _ ∧ _)
  clear h0 h1 hs ok
  cases hd : D.down with
  | true =>
    have HE := Aside0.mk (show crashD D keep = D by unfold crashD; rw [hd]; rfl)
    rw [hd] at h6
    have H := Aside0.mk h
    clear h hd
    go_enter Try.func15, Try.ntmps15
    go_wp2_with fail
    (try simp only [Exit.inBlock, Exit.then])
    refine bodyPost_ret (results_none rfl _ _ _) rfl ?_
    exact ⟨rfl, by rw [HE.out]; exact ⟨⟨v, H.out.step (below_alloc (Below.refl _ _) _)⟩, Keeps.below (below_alloc (Below.refl _ _) _)⟩⟩
  | false =>
    have HE := Aside0.mk (show crashD D keep = { lastD D (keptB keep) with at_ := 0, keep := 0, down := true } by unfold crashD; rw [hd]; rfl)
    rw [hd] at h6
    have H := Aside0.mk h
    clear h hd
    have hmf : ∀ (fn : Fn) (first cap : Array Value) (w : World), (Instr.makeFunc fn first cap).run Try.prog w = .ok (.func fn first cap) w := fun _ _ _ _ => rfl
    go_enter Try.func15, Try.ntmps15
    go_wp2_with fail
    have HW := Aside0.mk (H.out.step (below_alloc (Below.refl _ _) (.cells #[.int .u64 keep] 23)))
    have HN := Aside0.mk (Keeps.below (below_alloc (Below.refl w.heap.size w) (.cells #[.int .u64 keep] 23)))
    refine (last_calls30 ⟨w.heap.size, 0, none⟩ (keptB keep) HW.out HB.out.2.2.1 HB.out.2.2.2.waits ?_).mono ?_
    · intro i w' hi hk
      exact keep_bit _ keep HB.out.1 HB.out.2.1 i (by have := HB.out.2.2.1; omega) w' ((blk_cell (hk.cells (blk_new w (.cells #[.int .u64 keep] 23)) (by decide) (by decide)) 0).trans rfl)
    rintro e w1 ⟨rfl, hd1, hk1⟩
    have f3 := hd1.free 3
    have f4 := hd1.free 4
    have f6 := hd1.free 6
    have z3 := hd1.c3
    have z4 := hd1.c4
    have z6 := hd1.c6
    have H1 := Aside0.mk hd1
    have HN1 := Aside0.mk (HN.out.trans hk1)
    clear hd1 hk1 hmf
    go_wp2_with fail
    (try simp only [Exit.inBlock, Exit.then])
    refine bodyPost_end (results_none rfl _ _ _) rfl ?_
    refine ⟨rfl, ?_⟩
    rw [HE.out]
    refine ⟨⟨_, ((H1.out.set_ 3 (.int .i64 0) { lastD D (keptB keep) with at_ := 0 } rfl rfl rfl rfl).set_ 4 (.int .u64 0) { lastD D (keptB keep) with at_ := 0, keep := 0 } rfl rfl rfl rfl).set_ 6 (.bool true) _ rfl rfl rfl rfl⟩, ?_⟩
    exact HN1.out.trans (((Keeps.set H1.out.blk 3 _).trans (Keeps.set (blk_set H1.out.blk 3 _) 4 _)).trans (Keeps.set (blk_set (blk_set H1.out.blk 3 _) 4 _) 6 _))
/-- An effect: is it the one at which the power fails? -/
def countD (D : Dk) : Dk := { D with count := D.count + 1 }
def failsD (D : Dk) : Dk := if D.at_ = D.count + 1 then crashD (countD D) D.keep else countD D
theorem Ok.count {D : Dk} (h : Ok D) : Ok (countD D) := ⟨h.size0, h.size1, h.wait, h.lasts, h.keep0, h.keep1⟩
set_option maxHeartbeats 4000000 in
theorem fails_calls {w0 w : World} {g b : Nat} {v : Value} {D : Dk} (h : DiskAt w0 w g b v D) (ok : Ok D) (hs : D.stores + D.wait.length < 1000000) (h0 : 0 ≤ D.count) (h1 : D.count < 1000000) :
    Calls Try.prog 27 #[.pointer (some ⟨g, 0, none⟩)] w fun e w' => e = .returned (.bool (decide (D.at_ = D.count + 1))) ∧ Turned w0 w g b (failsD D) w' := by
  have hu65 := Try.underlying65
  have hu31 := Try.underlying31
  have h3 := h.c3
  have h4 := h.c4
  have h5 := h.c5
  have f5 := h.free 5
  have HW := Aside0.mk (h.set_ 5 (.int .i64 (D.count + 1)) (countD D) rfl rfl rfl rfl)
  have HN := Aside0.mk (Keeps.set h.blk 5 (.int .i64 (D.count + 1)))
  have HB := Aside0.mk (⟨hs, ok⟩ : _ ∧ _)
  have H := Aside0.mk h
  clear h ok hs
  by_cases c : D.at_ = D.count + 1
  · have d1 : (D.at_ != D.count + 1) = false := by rw [bne_eq_false_iff_eq]; exact c
    have HE := Aside0.mk (show failsD D = crashD (countD D) D.keep by unfold failsD; rw [if_pos c])
    have HC := Aside0.mk c
    clear c
    go_enter Try.func27, Try.ntmps27
    go_upto_region 2 with fail
    go_quiet (fail)
    go_wp2_with fail
    have H1 := Aside0.mk (HW.out.step (pw_below_drewN (Below.refl _ _) nq))
    refine (crash_calls D.keep H1.out HB.out.2.count HB.out.1 HB.out.2.keep0 HB.out.2.keep1).mono ?_
    rintro e w2 ⟨rfl, ht⟩
    have HT := Aside0.mk ht
    clear ht
    go_wp2_with fail
    go_ret
    exact ⟨by rw [decide_eq_true HC.out]; rfl, by rw [HE.out]; exact ⟨HT.out.1, (HN.out.trans (Keeps.below (pw_below_drewN (Below.refl _ _) nq))).trans HT.out.2⟩⟩
  · have d1 : (D.at_ != D.count + 1) = true := by rw [bne_iff_ne]; exact c
    have HE := Aside0.mk (show failsD D = countD D by unfold failsD; rw [if_neg c])
    have HC := Aside0.mk c
    clear c
    go_enter Try.func27, Try.ntmps27
    go_upto_region 2 with fail
    go_quiet (fail)
    go_wp2_with fail
    go_ret
    exact ⟨by rw [decide_eq_false HC.out]; rfl, by rw [HE.out]; exact ⟨⟨v, HW.out.step (pw_below_drewN (Below.refl _ _) nq)⟩, HN.out.trans (Keeps.below (pw_below_drewN (Below.refl _ _) nq))⟩⟩
/-- A flush. -/
def flushF (D : Dk) : Int := if D.down then 7 else if D.at_ = D.count + 1 then 7 else 0
def flushD (D : Dk) : Dk := if D.down then D else if D.at_ = D.count + 1 then failsD D else lastD (countD D) (fun _ => true)
set_option maxHeartbeats 4000000 in
theorem flush_calls {w0 w : World} {g b : Nat} {v : Value} {D : Dk} (h : DiskAt w0 w g b v D) (ok : Ok D) (hs : D.stores + D.wait.length < 1000000) (h0 : 0 ≤ D.count) (h1 : D.count < 1000000) :
    Calls Try.prog 12 #[.pointer (some ⟨g, 0, none⟩)] w fun e w' => e = .returned (.int .i64 (flushF D)) ∧ Turned w0 w g b (flushD D) w' := by
  have hu65 := Try.underlying65
  have h6 := h.c6
  have HB := Aside0.mk (⟨hs, ok, h0, h1⟩ : _ ∧ _ ∧ _ ∧ _)
  clear ok hs h0 h1
  cases hd : D.down with
  | true =>
    have HE := Aside0.mk (show flushF D = 7 ∧ flushD D = D by unfold flushF flushD; rw [hd]; exact ⟨rfl, rfl⟩)
    rw [hd] at h6
    have H := Aside0.mk h
    clear h hd
    go_enter Try.func12, Try.ntmps12
    go_wp2_with fail
    go_ret
    exact ⟨by rw [HE.out.1]; rfl, by rw [HE.out.2]; exact ⟨⟨v, H.out⟩, Keeps.refl _⟩⟩
  | false =>
    rw [hd] at h6
    have H := Aside0.mk h
    by_cases c : D.at_ = D.count + 1
    · have HE := Aside0.mk (show flushF D = 7 ∧ flushD D = failsD D by unfold flushF flushD; rw [hd, if_pos c, if_pos c]; exact ⟨rfl, rfl⟩)
      have HC := Aside0.mk (decide_eq_true c)
      clear h hd c
      go_enter Try.func12, Try.ntmps12
      go_wp2_with fail
      refine (fails_calls H.out HB.out.2.1 HB.out.1 HB.out.2.2.1 HB.out.2.2.2).mono ?_
      rw [HC.out]
      rintro e w2 ⟨rfl, ht⟩
      have HT := Aside0.mk ht
      clear ht
      go_wp2_with fail
      go_ret
      exact ⟨by rw [HE.out.1]; rfl, by rw [HE.out.2]; exact HT.out⟩
    · have HE := Aside0.mk (show flushF D = 0 ∧ flushD D = lastD (countD D) (fun _ => true) ∧ failsD D = countD D by unfold flushF flushD failsD; rw [hd, if_neg c, if_neg c, if_neg c]; exact ⟨rfl, rfl, rfl⟩)
      have HC := Aside0.mk (decide_eq_false c)
      clear h hd c
      go_enter Try.func12, Try.ntmps12
      go_wp2_with fail
      refine (fails_calls H.out HB.out.2.1 HB.out.1 HB.out.2.2.1 HB.out.2.2.2).mono ?_
      rw [HC.out]
      rintro e w2 ⟨rfl, ⟨v2, hv2⟩, hk2⟩
      rw [HE.out.2.2] at hv2
      have HV := Aside0.mk hv2
      have HK := Aside0.mk hk2
      clear hv2 hk2
      go_wp2_with fail
      refine (last_calls29 (fun _ => true) HV.out HB.out.1 HB.out.2.1.count.waits (fun i w' _ _ => flush_all i w')).mono ?_
      rintro e w3 ⟨rfl, hd3, hk3⟩
      have HT := Aside0.mk (⟨hd3, hk3⟩ : _ ∧ _)
      clear hd3 hk3
      go_wp2_with fail
      go_ret
      exact ⟨by rw [HE.out.1]; rfl, by rw [HE.out.2.1]; exact ⟨⟨_, HT.out.1⟩, HK.out.trans HT.out.2⟩⟩
end Go.Proofs.Ytehodgcfejkomaa.Disk
