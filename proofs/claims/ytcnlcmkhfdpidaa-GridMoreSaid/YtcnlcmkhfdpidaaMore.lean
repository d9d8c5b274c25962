/- GridMore: its walk. -/
import Derived.Test.YtcnlcmkhfdpidaaEnds
namespace Go.Proofs.Ytcnlcmkhfdpidaa.Grid
set_option linter.unusedVariables false
set_option linter.unusedSimpArgs false
open Go.RowKit Go.Proofs.Ytcnlcmkhfdpidaa.Q Go.Proofs.YtcnlcmkhfdpidaaW.PrintWords Go.Proofs.YtcnlcmkhfdpidaaW.PrintLast Go.Proofs.YtcnlcmkhfdpidaaW.PrintMore
/-- No texts, in a block of their own. -/
theorem strs_none (w : World) : Strs w (w.alloc (.cells #[] 9)) (.slice (some ⟨w.heap.size, 0, none⟩) 0 0) [] := by
  refine ⟨fun _ _ => trivial, [], ?_, ?_⟩
  · have h2 := World.ownsRow_lit (base := w.heap.size) (e := 9) (size := 1) w #[] 0 (Nat.le_refl _) (by decide) rfl
    exact h2
  · exact ⟨rfl, fun j q hj => by simp at hj⟩
set_option maxRecDepth 100000 in
set_option maxHeartbeats 8000000 in
theorem more_walk (A0 : Option Addr) (c0 : Nat) (a : List ByteArray) (A1 : Option Addr) (c1 : Nat) (b : List ByteArray) (s : ByteArray) (w : World) (ha : Kd.C Kd.string w A0 a.length a) (hac : a.length ≤ c0) (hb : Kd.C Kd.string w A1 b.length b) (hbc : b.length ≤ c1) (k : Nat) (hk : snapferrylaw05_few.f k a = some true) (hal : a.length ≤ 60) (k1 : Nat) (hk1 : snapferrylaw05_few.f k1 b = some true) (hbl : b.length ≤ 60) (hs : s.size ≤ 100) :
    Calls Try.prog 7 #[.slice A0 a.length c0, .slice A1 b.length c1, .string s] w fun e w' => e = .returned (.bool true) ∧ Below w.heap.size w w' := by
  go_enter Try.func7, Try.ntmps7
  go_wp2_with fail
  refine (awake w).mono ?_
  rintro e w1 ⟨rfl, hb1⟩
  have Ha1 := Aside0.mk (Kd.C_below ha hb1)
  have Hb1 := Aside0.mk (Kd.C_below hb hb1)
  have HW1 := Aside0.mk (below_step (Below.refl w.heap.size w) hb1)
  go_wp2_with fail
  refine (snapferrylaw05_few.calls k A0 c0 a true w1 Ha1.out hac hk).mono ?_
  rintro e w2 ⟨rfl, hd2⟩
  have Ha2 := Aside0.mk (Kd.C_below Ha1.out hd2.below)
  have Hb2 := Aside0.mk (Kd.C_below Hb1.out hd2.below)
  have HW2 := Aside0.mk (below_step HW1.out hd2.below)
  clear Ha1 Hb1 HW1
  go_wp2_with fail
  refine (snapferrylaw05_few.calls k1 A1 c1 b true w2 Hb2.out hbc hk1).mono ?_
  rintro e w3 ⟨rfl, hd3⟩
  have Ha3 := Aside0.mk (Kd.C_below Ha2.out hd3.below)
  have Hb3 := Aside0.mk (Kd.C_below Hb2.out hd3.below)
  have HW3 := Aside0.mk (below_step HW2.out hd3.below)
  clear Ha2 Hb2 HW2
  go_wp2_with fail
  refine (Path A0 c0 a A1 c1 b w3 Ha3.out Hb3.out (by omega) (by omega)).mono ?_
  rintro e w4 ⟨⟨v4, rfl, hp4⟩, hb4⟩
  obtain ⟨AP, cP, rfl⟩ := Kd.R_slice hp4
  have HLP := Aside0.mk (Kd.R_reads' hp4).2.1
  have HP4 := Aside0.mk (Kd.R_reads' hp4).2.2
  clear hp4
  have Ha4 := Aside0.mk (Kd.C_below Ha3.out hb4)
  have Hb4 := Aside0.mk (Kd.C_below Hb3.out hb4)
  have HW4 := Aside0.mk (below_step HW3.out hb4)
  clear Ha3 Hb3 HW3
  go_wp2_with (first | ((with_reducible refine gate_builtin (b := .append) (xs := #[.tmp 36, .tmp 37]) rfl ?_); at_builtin; refine Kd.R_append_row Value.string ByteArray.empty (h1 := fun _ => rfl) (w0 := w4) w4.heap.size rfl (.tmp 36) (.tmp 37) 22 9 (.string ⟨#[]⟩) 16 rfl Try.underlying22 info9 rfl (by decide) _ [] a A0 a.length c0 (fun _ => True) rfl rfl (fun _ _ => trivial) (strs_none _) (Kd.C_alloc Ha4.out _) (below_alloc (Below.refl _ _) _) (below_alloc (Below.refl _ _) _).size (by simp only [List.length_nil]; omega) ?_; intro u5 W5 ho5 hb5 hg5 hat5; rw [List.nil_append] at ho5; have HO5 := Aside0.mk ho5; have HB5 := Aside0.mk hb5; clear ho5 hb5 hg5 hat5) | ((with_reducible refine gate_builtin (b := .append) (xs := #[.tmp 38, .tmp 40]) rfl ?_); at_builtin; refine Kd.R_append Kd.string (w0 := w4) w4.heap.size rfl (.tmp 38) (.tmp 40) 22 9 (.string ⟨#[]⟩) 16 rfl Try.underlying22 info9 rfl (by decide) (by decide) u5 a s [.string s] (fun _ => True) (fun _ => False) rfl rfl rfl (fun _ hk => hk.elim) (fun _ _ => trivial) HO5.out HB5.out HB5.out.size (by omega) ?_; intro v5 w5 ho5 hb5 hg5 hat5; obtain ⟨AX, cX, rfl⟩ := Kd.R_slice ho5; have HLX := Aside0.mk (Kd.R_reads' ho5).2.1; have HX5 := Aside0.mk (Kd.R_reads' ho5).2.2; have hln5 : (a ++ [s]).length = a.length + 1 := List.length_append; have Ha5 := Aside0.mk (Kd.C_below Ha4.out hb5); have Hb5 := Aside0.mk (Kd.C_below Hb4.out hb5); have HP5 := Aside0.mk (Kd.C_below HP4.out hb5); have HW5 := Aside0.mk (below_step HW4.out hb5); clear Ha4 Hb4 HP4 HW4; clear ho5 hb5 hg5 hat5 HO5 HB5) | ((with_reducible refine gate_builtin (b := .append) (xs := #[.tmp 42, .tmp 43]) rfl ?_); at_builtin; refine Kd.R_append_row Value.string ByteArray.empty (h1 := fun _ => rfl) (w0 := w5) w5.heap.size rfl (.tmp 42) (.tmp 43) 22 9 (.string ⟨#[]⟩) 16 rfl Try.underlying22 info9 rfl (by decide) _ [] b A1 b.length c1 (fun _ => True) rfl rfl (fun _ _ => trivial) (strs_none _) (Kd.C_alloc Hb5.out _) (below_alloc (Below.refl _ _) _) (below_alloc (Below.refl _ _) _).size (by simp only [List.length_nil]; omega) ?_; intro u6 W6 ho6 hb6 hg6 hat6; rw [List.nil_append] at ho6; have HO6 := Aside0.mk ho6; have HB6 := Aside0.mk hb6; clear ho6 hb6 hg6 hat6) | ((with_reducible refine gate_builtin (b := .append) (xs := #[.tmp 44, .tmp 46]) rfl ?_); at_builtin; refine Kd.R_append Kd.string (w0 := w5) w5.heap.size rfl (.tmp 44) (.tmp 46) 22 9 (.string ⟨#[]⟩) 16 rfl Try.underlying22 info9 rfl (by decide) (by decide) u6 b s [.string s] (fun _ => True) (fun _ => False) rfl rfl rfl (fun _ hk => hk.elim) (fun _ _ => trivial) HO6.out HB6.out HB6.out.size (by omega) ?_; intro v6 w6 ho6 hb6 hg6 hat6; obtain ⟨AY, cY, rfl⟩ := Kd.R_slice ho6; have HLY := Aside0.mk (Kd.R_reads' ho6).2.1; have HY6 := Aside0.mk (Kd.R_reads' ho6).2.2; have hln6 : (b ++ [s]).length = b.length + 1 := List.length_append; have Ha6 := Aside0.mk (Kd.C_below Ha5.out hb6); have Hb6 := Aside0.mk (Kd.C_below Hb5.out hb6); have HP6 := Aside0.mk (Kd.C_below HP5.out hb6); have HX6 := Aside0.mk (Kd.C_below HX5.out hb6); have HW6 := Aside0.mk (below_step HW5.out hb6); clear Ha5 Hb5 HP5 HX5 HW5; clear ho6 hb6 hg6 hat6 HO6 HB6))
  rw [← hln5, ← hln6]
  refine (Path AX cX (a ++ [s]) AY cY (b ++ [s]) w6 HX6.out HY6.out (by rw [hln5]; omega) (by rw [hln6]; omega)).mono ?_
  rintro e w7 ⟨⟨v7, rfl, hp7⟩, hb7⟩
  obtain ⟨AQ, cQ, rfl⟩ := Kd.R_slice hp7
  have HLQ := Aside0.mk (Kd.R_reads' hp7).2.1
  have HQ7 := Aside0.mk (Kd.R_reads' hp7).2.2
  clear hp7
  have Ha7 := Aside0.mk (Kd.C_below Ha6.out hb7)
  have Hb7 := Aside0.mk (Kd.C_below Hb6.out hb7)
  have HP7 := Aside0.mk (Kd.C_below HP6.out hb7)
  have HX7 := Aside0.mk (Kd.C_below HX6.out hb7)
  have HY7 := Aside0.mk (Kd.C_below HY6.out hb7)
  have HW7 := Aside0.mk (below_step HW6.out hb7)
  clear Ha6 Hb6 HP6 HX6 HY6 HW6
  clear hln5 hln6
  go_wp2_with (first | ((with_reducible refine gate_builtin (b := .append) (xs := #[.tmp 52, .tmp 53]) rfl ?_); at_builtin; refine Kd.R_append_row Value.string ByteArray.empty (h1 := fun _ => rfl) (w0 := w7) w7.heap.size rfl (.tmp 52) (.tmp 53) 22 9 (.string ⟨#[]⟩) 16 rfl Try.underlying22 info9 rfl (by decide) _ [] a A0 a.length c0 (fun _ => True) rfl rfl (fun _ _ => trivial) (strs_none _) (Kd.C_alloc Ha7.out _) (below_alloc (Below.refl _ _) _) (below_alloc (Below.refl _ _) _).size (by simp only [List.length_nil]; omega) ?_; intro u8 W8 ho8 hb8 hg8 hat8; rw [List.nil_append] at ho8; have HO8 := Aside0.mk ho8; have HB8 := Aside0.mk hb8; clear ho8 hb8 hg8 hat8) | ((with_reducible refine gate_builtin (b := .append) (xs := #[.tmp 54, .tmp 56]) rfl ?_); at_builtin; refine Kd.R_append Kd.string (w0 := w7) w7.heap.size rfl (.tmp 54) (.tmp 56) 22 9 (.string ⟨#[]⟩) 16 rfl Try.underlying22 info9 rfl (by decide) (by decide) u8 a s [.string s] (fun _ => True) (fun _ => False) rfl rfl rfl (fun _ hk => hk.elim) (fun _ _ => trivial) HO8.out HB8.out HB8.out.size (by omega) ?_; intro v8 w8 ho8 hb8 hg8 hat8; obtain ⟨AZ, cZ, rfl⟩ := Kd.R_slice ho8; have HLZ := Aside0.mk (Kd.R_reads' ho8).2.1; have HZ8 := Aside0.mk (Kd.R_reads' ho8).2.2; have hln8 : (a ++ [s]).length = a.length + 1 := List.length_append; have Ha8 := Aside0.mk (Kd.C_below Ha7.out hb8); have Hb8 := Aside0.mk (Kd.C_below Hb7.out hb8); have HP8 := Aside0.mk (Kd.C_below HP7.out hb8); have HQ8 := Aside0.mk (Kd.C_below HQ7.out hb8); have HW8 := Aside0.mk (below_step HW7.out hb8); clear Ha7 Hb7 HP7 HQ7 HW7; clear ho8 hb8 hg8 hat8 HO8 HB8))
  rw [← hln8]
  refine (Path AZ cZ (a ++ [s]) A1 c1 b w8 HZ8.out Hb8.out (by rw [hln8]; omega) (by omega)).mono ?_
  rintro e w9 ⟨⟨v9, rfl, hp9⟩, hb9⟩
  obtain ⟨AR, cR, rfl⟩ := Kd.R_slice hp9
  have HLR := Aside0.mk (Kd.R_reads' hp9).2.1
  have HR9 := Aside0.mk (Kd.R_reads' hp9).2.2
  clear hp9
  have Ha9 := Aside0.mk (Kd.C_below Ha8.out hb9)
  have Hb9 := Aside0.mk (Kd.C_below Hb8.out hb9)
  have HP9 := Aside0.mk (Kd.C_below HP8.out hb9)
  have HQ9 := Aside0.mk (Kd.C_below HQ8.out hb9)
  have HZ9 := Aside0.mk (Kd.C_below HZ8.out hb9)
  have HW9 := Aside0.mk (below_step HW8.out hb9)
  clear Ha8 Hb8 HP8 HQ8 HZ8 HW8
  clear hln8
  have g0 := G_both a b s
  have g1 := G_one a b s
  have g2 := G_left a b
  have g3 := G_right a b
  obtain ⟨g, hg⟩ : ∃ g, g = G a b := ⟨_, rfl⟩
  obtain ⟨h, hh⟩ : ∃ h, h = G (a ++ [s]) b := ⟨_, rfl⟩
  rw [← hg] at g0 g1 g2 g3
  rw [← hh] at g1
  obtain ⟨m, hm⟩ : ∃ m, m = min a.length b.length := ⟨_, rfl⟩
  have e1 : (if b.length < a.length then (b.length : Int) else (a.length : Int)) = (m : Int) := by rw [hm]; split <;> omega
  have e2 : (if (b.length : Int) < (a.length : Int) then (b.length : Int) else (a.length : Int)) = (m : Int) := by rw [hm]; split <;> omega
  have b5 : decide ((g : Int) ≤ (m : Int)) = true := decide_eq_true (by omega)
  have b6 : decide (g ≤ m) = true := decide_eq_true (by omega)
  have HG := Aside0.mk hg
  have HH := Aside0.mk hh
  have HG0 := Aside0.mk g0
  have r1 : IntKind.i64.wrap ((g : Int) + 1) = (g : Int) + 1 := IntWalk.i64_in _ (by omega)
  have b1 : decide ((g : Int) ≤ (h : Int)) = true := decide_eq_true (by omega)
  have b2 : decide (g ≤ h) = true := decide_eq_true (by omega)
  have b3 : decide ((h : Int) ≤ (g : Int) + 1) = true := decide_eq_true (by omega)
  have b4 : decide (h ≤ g + 1) = true := decide_eq_true (by omega)
  clear hg hh hm g0 g2 g3
  go_wp2_with fail
  refine (Same AP cP (path a b) w9 HP9.out (path_len _ _ (by omega) (by omega)) (path_steps _ _)).mono ?_
  rw [path_same, ← HG.out]
  rintro e w10 ⟨rfl, rfl⟩
  go_wp2_with fail
  refine (Same AQ cQ (path (a ++ [s]) (b ++ [s])) w10 HQ9.out (path_len _ _ (by rw [List.length_append]; exact Nat.succ_le_succ hal) (by rw [List.length_append]; exact Nat.succ_le_succ hbl)) (path_steps _ _)).mono ?_
  rw [path_same, HG0.out]
  rintro e w11 ⟨rfl, rfl⟩
  go_wp2_with fail
  refine (Same AR cR (path (a ++ [s]) b) w11 HR9.out (path_len _ _ (by rw [List.length_append]; exact Nat.succ_le_succ hal) (by omega)) (path_steps _ _)).mono ?_
  rw [path_same, ← HH.out]
  rintro e w12 ⟨rfl, rfl⟩
  go_wp2_with fail
  refine (Same AR cR (path (a ++ [s]) b) w12 HR9.out (path_len _ _ (by rw [List.length_append]; exact Nat.succ_le_succ hal) (by omega)) (path_steps _ _)).mono ?_
  rw [path_same, ← HH.out]
  rintro e w13 ⟨rfl, rfl⟩
  go_wp2_with fail
  go_ret
  exact ⟨rfl, HW9.out⟩
set_option maxRecDepth 100000 in
set_option maxHeartbeats 8000000 in
theorem more_many (A0 : Option Addr) (c0 : Nat) (a : List ByteArray) (A1 : Option Addr) (c1 : Nat) (b : List ByteArray) (s : ByteArray) (w : World) (ha : Kd.C Kd.string w A0 a.length a) (hac : a.length ≤ c0) (hb : Kd.C Kd.string w A1 b.length b) (hbc : b.length ≤ c1) (k : Nat) (hk : snapferrylaw05_few.f k a = some false) :
    Calls Try.prog 7 #[.slice A0 a.length c0, .slice A1 b.length c1, .string s] w fun e w' => e = .returned (.bool true) ∧ Below w.heap.size w w' := by
  go_enter Try.func7, Try.ntmps7
  go_wp2_with fail
  refine (awake w).mono ?_
  rintro e w1 ⟨rfl, hb1⟩
  have Ha1 := Aside0.mk (Kd.C_below ha hb1)
  have Hb1 := Aside0.mk (Kd.C_below hb hb1)
  have HW1 := Aside0.mk (below_step (Below.refl w.heap.size w) hb1)
  go_wp2_with fail
  refine (snapferrylaw05_few.calls k A0 c0 a false w1 Ha1.out hac hk).mono ?_
  rintro e w2 ⟨rfl, hd2⟩
  have Ha2 := Aside0.mk (Kd.C_below Ha1.out hd2.below)
  have Hb2 := Aside0.mk (Kd.C_below Hb1.out hd2.below)
  have HW2 := Aside0.mk (below_step HW1.out hd2.below)
  clear Ha1 Hb1 HW1
  go_wp2_with fail
  go_ret
  exact ⟨rfl, HW2.out⟩
set_option maxRecDepth 100000 in
set_option maxHeartbeats 8000000 in
theorem more_many2 (A0 : Option Addr) (c0 : Nat) (a : List ByteArray) (A1 : Option Addr) (c1 : Nat) (b : List ByteArray) (s : ByteArray) (w : World) (ha : Kd.C Kd.string w A0 a.length a) (hac : a.length ≤ c0) (hb : Kd.C Kd.string w A1 b.length b) (hbc : b.length ≤ c1) (k : Nat) (hk : snapferrylaw05_few.f k a = some true) (k1 : Nat) (hk1 : snapferrylaw05_few.f k1 b = some false) :
    Calls Try.prog 7 #[.slice A0 a.length c0, .slice A1 b.length c1, .string s] w fun e w' => e = .returned (.bool true) ∧ Below w.heap.size w w' := by
  go_enter Try.func7, Try.ntmps7
  go_wp2_with fail
  refine (awake w).mono ?_
  rintro e w1 ⟨rfl, hb1⟩
  have Ha1 := Aside0.mk (Kd.C_below ha hb1)
  have Hb1 := Aside0.mk (Kd.C_below hb hb1)
  have HW1 := Aside0.mk (below_step (Below.refl w.heap.size w) hb1)
  go_wp2_with fail
  refine (snapferrylaw05_few.calls k A0 c0 a true w1 Ha1.out hac hk).mono ?_
  rintro e w2 ⟨rfl, hd2⟩
  have Ha2 := Aside0.mk (Kd.C_below Ha1.out hd2.below)
  have Hb2 := Aside0.mk (Kd.C_below Hb1.out hd2.below)
  have HW2 := Aside0.mk (below_step HW1.out hd2.below)
  clear Ha1 Hb1 HW1
  go_wp2_with fail
  refine (snapferrylaw05_few.calls k1 A1 c1 b false w2 Hb2.out hbc hk1).mono ?_
  rintro e w3 ⟨rfl, hd3⟩
  have Ha3 := Aside0.mk (Kd.C_below Ha2.out hd3.below)
  have Hb3 := Aside0.mk (Kd.C_below Hb2.out hd3.below)
  have HW3 := Aside0.mk (below_step HW2.out hd3.below)
  clear Ha2 Hb2 HW2
  go_wp2_with fail
  go_ret
  exact ⟨rfl, HW3.out⟩
set_option maxRecDepth 100000 in
set_option maxHeartbeats 8000000 in
theorem more_long (A0 : Option Addr) (c0 : Nat) (a : List ByteArray) (A1 : Option Addr) (c1 : Nat) (b : List ByteArray) (s : ByteArray) (w : World) (ha : Kd.C Kd.string w A0 a.length a) (hac : a.length ≤ c0) (hb : Kd.C Kd.string w A1 b.length b) (hbc : b.length ≤ c1) (k : Nat) (hk : snapferrylaw05_few.f k a = some true) (hal : a.length ≤ 60) (k1 : Nat) (hk1 : snapferrylaw05_few.f k1 b = some true) (hbl : b.length ≤ 60) (hs : 100 < s.size) :
    Calls Try.prog 7 #[.slice A0 a.length c0, .slice A1 b.length c1, .string s] w fun e w' => e = .returned (.bool true) ∧ Below w.heap.size w w' := by
  go_enter Try.func7, Try.ntmps7
  go_wp2_with fail
  have hs1 : decide ((100 : Int) < (s.size : Int)) = true := decide_eq_true (by omega)
  refine (awake w).mono ?_
  rintro e w1 ⟨rfl, hb1⟩
  have Ha1 := Aside0.mk (Kd.C_below ha hb1)
  have Hb1 := Aside0.mk (Kd.C_below hb hb1)
  have HW1 := Aside0.mk (below_step (Below.refl w.heap.size w) hb1)
  go_wp2_with fail
  refine (snapferrylaw05_few.calls k A0 c0 a true w1 Ha1.out hac hk).mono ?_
  rintro e w2 ⟨rfl, hd2⟩
  have Ha2 := Aside0.mk (Kd.C_below Ha1.out hd2.below)
  have Hb2 := Aside0.mk (Kd.C_below Hb1.out hd2.below)
  have HW2 := Aside0.mk (below_step HW1.out hd2.below)
  clear Ha1 Hb1 HW1
  go_wp2_with fail
  refine (snapferrylaw05_few.calls k1 A1 c1 b true w2 Hb2.out hbc hk1).mono ?_
  rintro e w3 ⟨rfl, hd3⟩
  have Ha3 := Aside0.mk (Kd.C_below Ha2.out hd3.below)
  have Hb3 := Aside0.mk (Kd.C_below Hb2.out hd3.below)
  have HW3 := Aside0.mk (below_step HW2.out hd3.below)
  clear Ha2 Hb2 HW2
  go_wp2_with fail
  go_ret
  exact ⟨rfl, HW3.out⟩
theorem more_all (A0 : Option Addr) (c0 : Nat) (a : List ByteArray) (A1 : Option Addr) (c1 : Nat) (b : List ByteArray) (s : ByteArray) (w : World) (ha : Kd.C Kd.string w A0 a.length a) (hac : a.length ≤ c0) (hb : Kd.C Kd.string w A1 b.length b) (hbc : b.length ≤ c1) :
    Calls Try.prog 7 #[.slice A0 a.length c0, .slice A1 b.length c1, .string s] w fun e w' => e = .returned (.bool true) ∧ Below w.heap.size w w' := by
  rcases few_or a ha.2.1 with ⟨k, hk, hal⟩ | ⟨k, hk⟩
  · rcases few_or b hb.2.1 with ⟨k1, hk1, hbl⟩ | ⟨k1, hk1⟩
    · by_cases hs : s.size ≤ 100
      · exact more_walk A0 c0 a A1 c1 b s w ha hac hb hbc k hk hal k1 hk1 hbl hs
      · exact more_long A0 c0 a A1 c1 b s w ha hac hb hbc k hk hal k1 hk1 hbl (by omega)
    · exact more_many2 A0 c0 a A1 c1 b s w ha hac hb hbc k hk k1 hk1
  · exact more_many A0 c0 a A1 c1 b s w ha hac hb hbc k hk
end Go.Proofs.Ytcnlcmkhfdpidaa.Grid
