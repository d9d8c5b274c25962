/- GridLongest: its walk. -/
import Derived.Test.YtcnlcmkhfdpidaaLay
namespace Go.Proofs.Ytcnlcmkhfdpidaa.Grid
set_option linter.unusedVariables false
set_option linter.unusedSimpArgs false
open Go.RowKit Go.Proofs.Ytcnlcmkhfdpidaa.Q Go.Proofs.YtcnlcmkhfdpidaaW.PrintWords Go.Proofs.YtcnlcmkhfdpidaaW.PrintLast Go.Proofs.YtcnlcmkhfdpidaaW.PrintMore
/-- A cell of a block that was made the last but one, and of the last. -/
theorem cell_first (w : World) (v u : Value) (t : TypeId) : ((w.alloc (.cells #[v] t)).alloc (.cells #[u] t)).cell? ⟨w.heap.size, 0, none⟩ = some v := by
  have h1 : (w.alloc (.cells #[v] t)).cell? ⟨w.heap.size, 0, none⟩ = some v := by
    have h := blk_cell (blk_new w (.cells #[v] t)) 0
    rw [h]; rfl
  exact ((below_alloc (Below.refl _ _) _).cell (World.block_lt_of_cell? _ _ h1)).trans h1
theorem cell_second (w : World) (v u : Value) (t : TypeId) : ((w.alloc (.cells #[v] t)).alloc (.cells #[u] t)).cell? ⟨w.heap.size + 1, 0, none⟩ = some u := by
  have h := blk_cell (blk_new (w.alloc (.cells #[v] t)) (.cells #[u] t)) 0
  rw [World.size_alloc] at h
  rw [h]; rfl
set_option maxRecDepth 100000 in
set_option maxHeartbeats 8000000 in
theorem longest_walk (A0 : Option Addr) (c0 : Nat) (cm : List ByteArray) (A1 : Option Addr) (c1 : Nat) (a : List Int) (A2 : Option Addr) (c2 : Nat) (b : List Int) (A3 : Option Addr) (c3 : Nat) (mo : List ByteArray) (w : World) (hcm : Kd.C Kd.string w A0 cm.length cm) (hcc : cm.length ≤ c0) (ha : Kd.C (Kd.int .u8) w A1 a.length a) (hab : ∀ i, 0 ≤ rd a i ∧ rd a i < 256) (hb : Kd.C (Kd.int .u8) w A2 b.length b) (hbb : ∀ i, 0 ≤ rd b i ∧ rd b i < 256) (hmo : Kd.C Kd.string w A3 mo.length mo) (hmc : mo.length ≤ c3) (k : Nat) (hk : snapferrylaw05_few.f k cm = some true) (k1 : Nat) (hk1 : snapferrylaw05_few.f k1 mo = some true) (hml : mo.length ≤ 60) (hcl : cm.length ≤ 30) (hal : a.length ≤ 30) (hbl : b.length ≤ 30) :
    Calls Try.prog 5 #[.slice A0 cm.length c0, .slice A1 a.length c1, .slice A2 b.length c2, .slice A3 mo.length c3] w fun e w' => e = .returned (.bool true) ∧ Below w.heap.size w w' := by
  go_enter Try.func5, Try.ntmps5
  go_wp2_with fail
  obtain ⟨w1, hw1⟩ : ∃ w1, w1 = (w.alloc (.cells #[.slice A0 cm.length c0] 22)).alloc (.cells #[.slice A3 mo.length c3] 22) := ⟨_, rfl⟩
  have hb1 : Below w.heap.size w w1 := by rw [hw1]; exact below_alloc (below_alloc (Below.refl _ _) _) _
  have hc1 : w1.cell? ⟨w.heap.size, 0, none⟩ = some (.slice A0 cm.length c0) := by rw [hw1]; exact cell_first w _ _ _
  have hc2 : w1.cell? ⟨w.heap.size + 1, 0, none⟩ = some (.slice A3 mo.length c3) := by rw [hw1]; exact cell_second w _ _ _
  rw [← hw1]
  clear hw1
  have Hcm1 := Aside0.mk (Kd.C_below hcm hb1)
  have Ha1 := Aside0.mk (Kd.C_below ha hb1)
  have Hb1 := Aside0.mk (Kd.C_below hb hb1)
  have Hmo1 := Aside0.mk (Kd.C_below hmo hb1)
  have HW1 := Aside0.mk (below_step (Below.refl w.heap.size w) hb1)
  have zcell1 := hc1
  have zcell2 := hc2
  refine (awake w1).mono ?_
  rintro e w2 ⟨rfl, hb2⟩
  have Hcm2 := Aside0.mk (Kd.C_below Hcm1.out hb2)
  have Ha2 := Aside0.mk (Kd.C_below Ha1.out hb2)
  have Hb2 := Aside0.mk (Kd.C_below Hb1.out hb2)
  have Hmo2 := Aside0.mk (Kd.C_below Hmo1.out hb2)
  have Hcell12 := Aside0.mk ((hb2.cell (World.block_lt_of_cell? _ _ hc1)).trans hc1)
  have Hcell22 := Aside0.mk ((hb2.cell (World.block_lt_of_cell? _ _ hc2)).trans hc2)
  have HW2 := Aside0.mk (below_step HW1.out hb2)
  clear Hcm1 Ha1 Hb1 Hmo1 HW1
  clear zcell1 zcell2
  have zcell1 := Hcell12.out
  have zcell2 := Hcell22.out
  go_wp2_with fail
  refine (snapferrylaw05_few.calls k A0 c0 cm true w2 Hcm2.out hcc hk).mono ?_
  rintro e w3 ⟨rfl, hd3⟩
  have Hcm3 := Aside0.mk (Kd.C_below Hcm2.out hd3.below)
  have Ha3 := Aside0.mk (Kd.C_below Ha2.out hd3.below)
  have Hb3 := Aside0.mk (Kd.C_below Hb2.out hd3.below)
  have Hmo3 := Aside0.mk (Kd.C_below Hmo2.out hd3.below)
  have Hcell13 := Aside0.mk ((hd3.below.cell (World.block_lt_of_cell? _ _ Hcell12.out)).trans Hcell12.out)
  have Hcell23 := Aside0.mk ((hd3.below.cell (World.block_lt_of_cell? _ _ Hcell22.out)).trans Hcell22.out)
  have HW3 := Aside0.mk (below_step HW2.out hd3.below)
  clear Hcm2 Ha2 Hb2 Hmo2 Hcell12 Hcell22 HW2
  clear zcell1 zcell2
  have zcell1 := Hcell13.out
  have zcell2 := Hcell23.out
  go_wp2_with fail
  refine (snapferrylaw05_few.calls k1 A3 c3 mo true w3 Hmo3.out hmc hk1).mono ?_
  rintro e w4 ⟨rfl, hd4⟩
  have Hcm4 := Aside0.mk (Kd.C_below Hcm3.out hd4.below)
  have Ha4 := Aside0.mk (Kd.C_below Ha3.out hd4.below)
  have Hb4 := Aside0.mk (Kd.C_below Hb3.out hd4.below)
  have Hmo4 := Aside0.mk (Kd.C_below Hmo3.out hd4.below)
  have Hcell14 := Aside0.mk ((hd4.below.cell (World.block_lt_of_cell? _ _ Hcell13.out)).trans Hcell13.out)
  have Hcell24 := Aside0.mk ((hd4.below.cell (World.block_lt_of_cell? _ _ Hcell23.out)).trans Hcell23.out)
  have HW4 := Aside0.mk (below_step HW3.out hd4.below)
  clear Hcm3 Ha3 Hb3 Hmo3 Hcell13 Hcell23 HW3
  clear zcell1 zcell2
  have zcell1 := Hcell14.out
  have zcell2 := Hcell24.out
  go_wp2_with fail
  refine (Lay A1 c1 a ⟨w.heap.size, 0, none⟩ ⟨w.heap.size + 1, 0, none⟩ A0 c0 cm A3 c3 mo w4 Ha4.out hab Hcell14.out Hcell24.out Hcm4.out Hmo4.out hal hcl hml).mono ?_
  rintro e w5 ⟨v5, oX, rfl, hp5, hb5, hsX, hlX⟩
  obtain ⟨AX, cX, rfl⟩ := Kd.R_slice hp5
  have HLX := Aside0.mk (Kd.R_reads' hp5).2.1
  have HX5 := Aside0.mk (Kd.R_reads' hp5).2.2
  clear hp5
  have Hcm5 := Aside0.mk (Kd.C_below Hcm4.out hb5)
  have Ha5 := Aside0.mk (Kd.C_below Ha4.out hb5)
  have Hb5 := Aside0.mk (Kd.C_below Hb4.out hb5)
  have Hmo5 := Aside0.mk (Kd.C_below Hmo4.out hb5)
  have Hcell15 := Aside0.mk ((hb5.cell (World.block_lt_of_cell? _ _ Hcell14.out)).trans Hcell14.out)
  have Hcell25 := Aside0.mk ((hb5.cell (World.block_lt_of_cell? _ _ Hcell24.out)).trans Hcell24.out)
  have HW5 := Aside0.mk (below_step HW4.out hb5)
  clear Hcm4 Ha4 Hb4 Hmo4 Hcell14 Hcell24 HW4
  clear zcell1 zcell2
  have zcell1 := Hcell15.out
  have zcell2 := Hcell25.out
  go_wp2_with fail
  refine (Lay A2 c2 b ⟨w.heap.size, 0, none⟩ ⟨w.heap.size + 1, 0, none⟩ A0 c0 cm A3 c3 mo w5 Hb5.out hbb Hcell15.out Hcell25.out Hcm5.out Hmo5.out hbl hcl hml).mono ?_
  rintro e w6 ⟨v6, oY, rfl, hp6, hb6, hsY, hlY⟩
  obtain ⟨AY, cY, rfl⟩ := Kd.R_slice hp6
  have HLY := Aside0.mk (Kd.R_reads' hp6).2.1
  have HY6 := Aside0.mk (Kd.R_reads' hp6).2.2
  clear hp6
  have Hcm6 := Aside0.mk (Kd.C_below Hcm5.out hb6)
  have Ha6 := Aside0.mk (Kd.C_below Ha5.out hb6)
  have Hb6 := Aside0.mk (Kd.C_below Hb5.out hb6)
  have Hmo6 := Aside0.mk (Kd.C_below Hmo5.out hb6)
  have Hcell16 := Aside0.mk ((hb6.cell (World.block_lt_of_cell? _ _ Hcell15.out)).trans Hcell15.out)
  have Hcell26 := Aside0.mk ((hb6.cell (World.block_lt_of_cell? _ _ Hcell25.out)).trans Hcell25.out)
  have HX6 := Aside0.mk (Kd.C_below HX5.out hb6)
  have HW6 := Aside0.mk (below_step HW5.out hb6)
  clear Hcm5 Ha5 Hb5 Hmo5 Hcell15 Hcell25 HX5 HW5
  clear zcell1 zcell2
  have zcell1 := Hcell16.out
  have zcell2 := Hcell26.out
  go_wp2_with fail
  refine (Path AX cX oX AY cY oY w6 HX6.out HY6.out (by omega) (by omega)).mono ?_
  rintro e w7 ⟨⟨v7, rfl, hp7⟩, hb7⟩
  obtain ⟨AP, cP, rfl⟩ := Kd.R_slice hp7
  have HLP := Aside0.mk (Kd.R_reads' hp7).2.1
  have HP7 := Aside0.mk (Kd.R_reads' hp7).2.2
  clear hp7
  have Hcm7 := Aside0.mk (Kd.C_below Hcm6.out hb7)
  have Ha7 := Aside0.mk (Kd.C_below Ha6.out hb7)
  have Hb7 := Aside0.mk (Kd.C_below Hb6.out hb7)
  have Hmo7 := Aside0.mk (Kd.C_below Hmo6.out hb7)
  have Hcell17 := Aside0.mk ((hb7.cell (World.block_lt_of_cell? _ _ Hcell16.out)).trans Hcell16.out)
  have Hcell27 := Aside0.mk ((hb7.cell (World.block_lt_of_cell? _ _ Hcell26.out)).trans Hcell26.out)
  have HX7 := Aside0.mk (Kd.C_below HX6.out hb7)
  have HY7 := Aside0.mk (Kd.C_below HY6.out hb7)
  have HW7 := Aside0.mk (below_step HW6.out hb7)
  clear Hcm6 Ha6 Hb6 Hmo6 Hcell16 Hcell26 HX6 HY6 HW6
  clear zcell1 zcell2
  have zcell1 := Hcell17.out
  have zcell2 := Hcell27.out
  go_wp2_with fail
  have hg := G_le hsX hsY
  have d1 : decide ((cm.length : Int) ≤ (G oX oY : Int)) = true := decide_eq_true (by omega)
  have d2 : decide (cm.length ≤ G oX oY) = true := decide_eq_true hg
  have d3 : ((G oX oY : Int) ≥ (cm.length : Int)) = True := eq_true (by omega)
  clear hg hsX hsY
  go_upto_region 7 with fail
  go_quiet ((go_at_call 15; exact Calls.quiet_of_same ((Same AP cP (path oX oY) _ (Kd.C_below HP7.out (pw_below_drewN (Below.refl _ _) _)) (path_len _ _ (by omega) (by omega)) (path_steps _ _)).mono (fun _ _ ⟨h1, h2⟩ => ⟨h1.trans (by rw [path_same]), h2⟩))))
  go_wp2_with fail
  go_ret
  exact ⟨rfl, pw_below_drewN HW7.out _⟩
set_option maxRecDepth 100000 in
set_option maxHeartbeats 8000000 in
theorem longest_many (A0 : Option Addr) (c0 : Nat) (cm : List ByteArray) (A1 : Option Addr) (c1 : Nat) (a : List Int) (A2 : Option Addr) (c2 : Nat) (b : List Int) (A3 : Option Addr) (c3 : Nat) (mo : List ByteArray) (w : World) (hcm : Kd.C Kd.string w A0 cm.length cm) (hcc : cm.length ≤ c0) (ha : Kd.C (Kd.int .u8) w A1 a.length a) (hab : ∀ i, 0 ≤ rd a i ∧ rd a i < 256) (hb : Kd.C (Kd.int .u8) w A2 b.length b) (hbb : ∀ i, 0 ≤ rd b i ∧ rd b i < 256) (hmo : Kd.C Kd.string w A3 mo.length mo) (hmc : mo.length ≤ c3) (k : Nat) (hk : snapferrylaw05_few.f k cm = some false) :
    Calls Try.prog 5 #[.slice A0 cm.length c0, .slice A1 a.length c1, .slice A2 b.length c2, .slice A3 mo.length c3] w fun e w' => e = .returned (.bool true) ∧ Below w.heap.size w w' := by
  go_enter Try.func5, Try.ntmps5
  go_wp2_with fail
  obtain ⟨w1, hw1⟩ : ∃ w1, w1 = (w.alloc (.cells #[.slice A0 cm.length c0] 22)).alloc (.cells #[.slice A3 mo.length c3] 22) := ⟨_, rfl⟩
  have hb1 : Below w.heap.size w w1 := by rw [hw1]; exact below_alloc (below_alloc (Below.refl _ _) _) _
  have hc1 : w1.cell? ⟨w.heap.size, 0, none⟩ = some (.slice A0 cm.length c0) := by rw [hw1]; exact cell_first w _ _ _
  have hc2 : w1.cell? ⟨w.heap.size + 1, 0, none⟩ = some (.slice A3 mo.length c3) := by rw [hw1]; exact cell_second w _ _ _
  rw [← hw1]
  clear hw1
  have Hcm1 := Aside0.mk (Kd.C_below hcm hb1)
  have Ha1 := Aside0.mk (Kd.C_below ha hb1)
  have Hb1 := Aside0.mk (Kd.C_below hb hb1)
  have Hmo1 := Aside0.mk (Kd.C_below hmo hb1)
  have HW1 := Aside0.mk (below_step (Below.refl w.heap.size w) hb1)
  have zcell1 := hc1
  have zcell2 := hc2
  refine (awake w1).mono ?_
  rintro e w2 ⟨rfl, hb2⟩
  have Hcm2 := Aside0.mk (Kd.C_below Hcm1.out hb2)
  have Ha2 := Aside0.mk (Kd.C_below Ha1.out hb2)
  have Hb2 := Aside0.mk (Kd.C_below Hb1.out hb2)
  have Hmo2 := Aside0.mk (Kd.C_below Hmo1.out hb2)
  have Hcell12 := Aside0.mk ((hb2.cell (World.block_lt_of_cell? _ _ hc1)).trans hc1)
  have Hcell22 := Aside0.mk ((hb2.cell (World.block_lt_of_cell? _ _ hc2)).trans hc2)
  have HW2 := Aside0.mk (below_step HW1.out hb2)
  clear Hcm1 Ha1 Hb1 Hmo1 HW1
  clear zcell1 zcell2
  have zcell1 := Hcell12.out
  have zcell2 := Hcell22.out
  go_wp2_with fail
  refine (snapferrylaw05_few.calls k A0 c0 cm false w2 Hcm2.out hcc hk).mono ?_
  rintro e w3 ⟨rfl, hd3⟩
  have Hcm3 := Aside0.mk (Kd.C_below Hcm2.out hd3.below)
  have Ha3 := Aside0.mk (Kd.C_below Ha2.out hd3.below)
  have Hb3 := Aside0.mk (Kd.C_below Hb2.out hd3.below)
  have Hmo3 := Aside0.mk (Kd.C_below Hmo2.out hd3.below)
  have Hcell13 := Aside0.mk ((hd3.below.cell (World.block_lt_of_cell? _ _ Hcell12.out)).trans Hcell12.out)
  have Hcell23 := Aside0.mk ((hd3.below.cell (World.block_lt_of_cell? _ _ Hcell22.out)).trans Hcell22.out)
  have HW3 := Aside0.mk (below_step HW2.out hd3.below)
  clear Hcm2 Ha2 Hb2 Hmo2 Hcell12 Hcell22 HW2
  clear zcell1 zcell2
  have zcell1 := Hcell13.out
  have zcell2 := Hcell23.out
  go_wp2_with fail
  go_ret
  exact ⟨rfl, HW3.out⟩
set_option maxRecDepth 100000 in
set_option maxHeartbeats 8000000 in
theorem longest_many2 (A0 : Option Addr) (c0 : Nat) (cm : List ByteArray) (A1 : Option Addr) (c1 : Nat) (a : List Int) (A2 : Option Addr) (c2 : Nat) (b : List Int) (A3 : Option Addr) (c3 : Nat) (mo : List ByteArray) (w : World) (hcm : Kd.C Kd.string w A0 cm.length cm) (hcc : cm.length ≤ c0) (ha : Kd.C (Kd.int .u8) w A1 a.length a) (hab : ∀ i, 0 ≤ rd a i ∧ rd a i < 256) (hb : Kd.C (Kd.int .u8) w A2 b.length b) (hbb : ∀ i, 0 ≤ rd b i ∧ rd b i < 256) (hmo : Kd.C Kd.string w A3 mo.length mo) (hmc : mo.length ≤ c3) (k : Nat) (hk : snapferrylaw05_few.f k cm = some true) (k1 : Nat) (hk1 : snapferrylaw05_few.f k1 mo = some false) :
    Calls Try.prog 5 #[.slice A0 cm.length c0, .slice A1 a.length c1, .slice A2 b.length c2, .slice A3 mo.length c3] w fun e w' => e = .returned (.bool true) ∧ Below w.heap.size w w' := by
  go_enter Try.func5, Try.ntmps5
  go_wp2_with fail
  obtain ⟨w1, hw1⟩ : ∃ w1, w1 = (w.alloc (.cells #[.slice A0 cm.length c0] 22)).alloc (.cells #[.slice A3 mo.length c3] 22) := ⟨_, rfl⟩
  have hb1 : Below w.heap.size w w1 := by rw [hw1]; exact below_alloc (below_alloc (Below.refl _ _) _) _
  have hc1 : w1.cell? ⟨w.heap.size, 0, none⟩ = some (.slice A0 cm.length c0) := by rw [hw1]; exact cell_first w _ _ _
  have hc2 : w1.cell? ⟨w.heap.size + 1, 0, none⟩ = some (.slice A3 mo.length c3) := by rw [hw1]; exact cell_second w _ _ _
  rw [← hw1]
  clear hw1
  have Hcm1 := Aside0.mk (Kd.C_below hcm hb1)
  have Ha1 := Aside0.mk (Kd.C_below ha hb1)
  have Hb1 := Aside0.mk (Kd.C_below hb hb1)
  have Hmo1 := Aside0.mk (Kd.C_below hmo hb1)
  have HW1 := Aside0.mk (below_step (Below.refl w.heap.size w) hb1)
  have zcell1 := hc1
  have zcell2 := hc2
  refine (awake w1).mono ?_
  rintro e w2 ⟨rfl, hb2⟩
  have Hcm2 := Aside0.mk (Kd.C_below Hcm1.out hb2)
  have Ha2 := Aside0.mk (Kd.C_below Ha1.out hb2)
  have Hb2 := Aside0.mk (Kd.C_below Hb1.out hb2)
  have Hmo2 := Aside0.mk (Kd.C_below Hmo1.out hb2)
  have Hcell12 := Aside0.mk ((hb2.cell (World.block_lt_of_cell? _ _ hc1)).trans hc1)
  have Hcell22 := Aside0.mk ((hb2.cell (World.block_lt_of_cell? _ _ hc2)).trans hc2)
  have HW2 := Aside0.mk (below_step HW1.out hb2)
  clear Hcm1 Ha1 Hb1 Hmo1 HW1
  clear zcell1 zcell2
  have zcell1 := Hcell12.out
  have zcell2 := Hcell22.out
  go_wp2_with fail
  refine (snapferrylaw05_few.calls k A0 c0 cm true w2 Hcm2.out hcc hk).mono ?_
  rintro e w3 ⟨rfl, hd3⟩
  have Hcm3 := Aside0.mk (Kd.C_below Hcm2.out hd3.below)
  have Ha3 := Aside0.mk (Kd.C_below Ha2.out hd3.below)
  have Hb3 := Aside0.mk (Kd.C_below Hb2.out hd3.below)
  have Hmo3 := Aside0.mk (Kd.C_below Hmo2.out hd3.below)
  have Hcell13 := Aside0.mk ((hd3.below.cell (World.block_lt_of_cell? _ _ Hcell12.out)).trans Hcell12.out)
  have Hcell23 := Aside0.mk ((hd3.below.cell (World.block_lt_of_cell? _ _ Hcell22.out)).trans Hcell22.out)
  have HW3 := Aside0.mk (below_step HW2.out hd3.below)
  clear Hcm2 Ha2 Hb2 Hmo2 Hcell12 Hcell22 HW2
  clear zcell1 zcell2
  have zcell1 := Hcell13.out
  have zcell2 := Hcell23.out
  go_wp2_with fail
  refine (snapferrylaw05_few.calls k1 A3 c3 mo false w3 Hmo3.out hmc hk1).mono ?_
  rintro e w4 ⟨rfl, hd4⟩
  have Hcm4 := Aside0.mk (Kd.C_below Hcm3.out hd4.below)
  have Ha4 := Aside0.mk (Kd.C_below Ha3.out hd4.below)
  have Hb4 := Aside0.mk (Kd.C_below Hb3.out hd4.below)
  have Hmo4 := Aside0.mk (Kd.C_below Hmo3.out hd4.below)
  have Hcell14 := Aside0.mk ((hd4.below.cell (World.block_lt_of_cell? _ _ Hcell13.out)).trans Hcell13.out)
  have Hcell24 := Aside0.mk ((hd4.below.cell (World.block_lt_of_cell? _ _ Hcell23.out)).trans Hcell23.out)
  have HW4 := Aside0.mk (below_step HW3.out hd4.below)
  clear Hcm3 Ha3 Hb3 Hmo3 Hcell13 Hcell23 HW3
  clear zcell1 zcell2
  have zcell1 := Hcell14.out
  have zcell2 := Hcell24.out
  go_wp2_with fail
  go_ret
  exact ⟨rfl, HW4.out⟩
set_option maxRecDepth 100000 in
set_option maxHeartbeats 8000000 in
theorem longest_large (A0 : Option Addr) (c0 : Nat) (cm : List ByteArray) (A1 : Option Addr) (c1 : Nat) (a : List Int) (A2 : Option Addr) (c2 : Nat) (b : List Int) (A3 : Option Addr) (c3 : Nat) (mo : List ByteArray) (w : World) (hcm : Kd.C Kd.string w A0 cm.length cm) (hcc : cm.length ≤ c0) (ha : Kd.C (Kd.int .u8) w A1 a.length a) (hab : ∀ i, 0 ≤ rd a i ∧ rd a i < 256) (hb : Kd.C (Kd.int .u8) w A2 b.length b) (hbb : ∀ i, 0 ≤ rd b i ∧ rd b i < 256) (hmo : Kd.C Kd.string w A3 mo.length mo) (hmc : mo.length ≤ c3) (k : Nat) (hk : snapferrylaw05_few.f k cm = some true) (k1 : Nat) (hk1 : snapferrylaw05_few.f k1 mo = some true) (h : ¬ 30 < a.length → ¬ 30 < b.length → 30 < cm.length) :
    Calls Try.prog 5 #[.slice A0 cm.length c0, .slice A1 a.length c1, .slice A2 b.length c2, .slice A3 mo.length c3] w fun e w' => e = .returned (.bool true) ∧ Below w.heap.size w w' := by
  go_enter Try.func5, Try.ntmps5
  go_wp2_with fail
  obtain ⟨w1, hw1⟩ : ∃ w1, w1 = (w.alloc (.cells #[.slice A0 cm.length c0] 22)).alloc (.cells #[.slice A3 mo.length c3] 22) := ⟨_, rfl⟩
  have hb1 : Below w.heap.size w w1 := by rw [hw1]; exact below_alloc (below_alloc (Below.refl _ _) _) _
  have hc1 : w1.cell? ⟨w.heap.size, 0, none⟩ = some (.slice A0 cm.length c0) := by rw [hw1]; exact cell_first w _ _ _
  have hc2 : w1.cell? ⟨w.heap.size + 1, 0, none⟩ = some (.slice A3 mo.length c3) := by rw [hw1]; exact cell_second w _ _ _
  rw [← hw1]
  clear hw1
  have Hcm1 := Aside0.mk (Kd.C_below hcm hb1)
  have Ha1 := Aside0.mk (Kd.C_below ha hb1)
  have Hb1 := Aside0.mk (Kd.C_below hb hb1)
  have Hmo1 := Aside0.mk (Kd.C_below hmo hb1)
  have HW1 := Aside0.mk (below_step (Below.refl w.heap.size w) hb1)
  have zcell1 := hc1
  have zcell2 := hc2
  refine (awake w1).mono ?_
  rintro e w2 ⟨rfl, hb2⟩
  have Hcm2 := Aside0.mk (Kd.C_below Hcm1.out hb2)
  have Ha2 := Aside0.mk (Kd.C_below Ha1.out hb2)
  have Hb2 := Aside0.mk (Kd.C_below Hb1.out hb2)
  have Hmo2 := Aside0.mk (Kd.C_below Hmo1.out hb2)
  have Hcell12 := Aside0.mk ((hb2.cell (World.block_lt_of_cell? _ _ hc1)).trans hc1)
  have Hcell22 := Aside0.mk ((hb2.cell (World.block_lt_of_cell? _ _ hc2)).trans hc2)
  have HW2 := Aside0.mk (below_step HW1.out hb2)
  clear Hcm1 Ha1 Hb1 Hmo1 HW1
  clear zcell1 zcell2
  have zcell1 := Hcell12.out
  have zcell2 := Hcell22.out
  go_wp2_with fail
  refine (snapferrylaw05_few.calls k A0 c0 cm true w2 Hcm2.out hcc hk).mono ?_
  rintro e w3 ⟨rfl, hd3⟩
  have Hcm3 := Aside0.mk (Kd.C_below Hcm2.out hd3.below)
  have Ha3 := Aside0.mk (Kd.C_below Ha2.out hd3.below)
  have Hb3 := Aside0.mk (Kd.C_below Hb2.out hd3.below)
  have Hmo3 := Aside0.mk (Kd.C_below Hmo2.out hd3.below)
  have Hcell13 := Aside0.mk ((hd3.below.cell (World.block_lt_of_cell? _ _ Hcell12.out)).trans Hcell12.out)
  have Hcell23 := Aside0.mk ((hd3.below.cell (World.block_lt_of_cell? _ _ Hcell22.out)).trans Hcell22.out)
  have HW3 := Aside0.mk (below_step HW2.out hd3.below)
  clear Hcm2 Ha2 Hb2 Hmo2 Hcell12 Hcell22 HW2
  clear zcell1 zcell2
  have zcell1 := Hcell13.out
  have zcell2 := Hcell23.out
  go_wp2_with fail
  refine (snapferrylaw05_few.calls k1 A3 c3 mo true w3 Hmo3.out hmc hk1).mono ?_
  rintro e w4 ⟨rfl, hd4⟩
  have Hcm4 := Aside0.mk (Kd.C_below Hcm3.out hd4.below)
  have Ha4 := Aside0.mk (Kd.C_below Ha3.out hd4.below)
  have Hb4 := Aside0.mk (Kd.C_below Hb3.out hd4.below)
  have Hmo4 := Aside0.mk (Kd.C_below Hmo3.out hd4.below)
  have Hcell14 := Aside0.mk ((hd4.below.cell (World.block_lt_of_cell? _ _ Hcell13.out)).trans Hcell13.out)
  have Hcell24 := Aside0.mk ((hd4.below.cell (World.block_lt_of_cell? _ _ Hcell23.out)).trans Hcell23.out)
  have HW4 := Aside0.mk (below_step HW3.out hd4.below)
  clear Hcm3 Ha3 Hb3 Hmo3 Hcell13 Hcell23 HW3
  clear zcell1 zcell2
  have zcell1 := Hcell14.out
  have zcell2 := Hcell24.out
  by_cases h1 : 30 < a.length
  · have d1 : decide ((30 : Int) < (a.length : Int)) = true := decide_eq_true (by omega)
    go_wp2_with fail
    go_ret
    exact ⟨rfl, HW4.out⟩
  · have d1 : decide ((30 : Int) < (a.length : Int)) = false := decide_eq_false (by omega)
    by_cases h2 : 30 < b.length
    · have d2 : decide ((30 : Int) < (b.length : Int)) = true := decide_eq_true (by omega)
      go_wp2_with fail
      go_ret
      exact ⟨rfl, HW4.out⟩
    · have d2 : decide ((30 : Int) < (b.length : Int)) = false := decide_eq_false (by omega)
      have d3 : decide ((30 : Int) < (cm.length : Int)) = true := decide_eq_true (by omega)
      go_wp2_with fail
      go_ret
      exact ⟨rfl, HW4.out⟩
theorem longest_all (A0 : Option Addr) (c0 : Nat) (cm : List ByteArray) (A1 : Option Addr) (c1 : Nat) (a : List Int) (A2 : Option Addr) (c2 : Nat) (b : List Int) (A3 : Option Addr) (c3 : Nat) (mo : List ByteArray) (w : World) (hcm : Kd.C Kd.string w A0 cm.length cm) (hcc : cm.length ≤ c0) (ha : Kd.C (Kd.int .u8) w A1 a.length a) (hab : ∀ i, 0 ≤ rd a i ∧ rd a i < 256) (hb : Kd.C (Kd.int .u8) w A2 b.length b) (hbb : ∀ i, 0 ≤ rd b i ∧ rd b i < 256) (hmo : Kd.C Kd.string w A3 mo.length mo) (hmc : mo.length ≤ c3) :
    Calls Try.prog 5 #[.slice A0 cm.length c0, .slice A1 a.length c1, .slice A2 b.length c2, .slice A3 mo.length c3] w fun e w' => e = .returned (.bool true) ∧ Below w.heap.size w w' := by
  rcases few_or cm hcm.2.1 with ⟨k, hk, hcl⟩ | ⟨k, hk⟩
  · rcases few_or mo hmo.2.1 with ⟨k1, hk1, hml⟩ | ⟨k1, hk1⟩
    · by_cases h : cm.length ≤ 30 ∧ a.length ≤ 30 ∧ b.length ≤ 30
      · exact longest_walk A0 c0 cm A1 c1 a A2 c2 b A3 c3 mo w hcm hcc ha hab hb hbb hmo hmc k hk k1 hk1 hml h.1 h.2.1 h.2.2
      · exact longest_large A0 c0 cm A1 c1 a A2 c2 b A3 c3 mo w hcm hcc ha hab hb hbb hmo hmc k hk k1 hk1 (fun h1 h2 => by omega)
    · exact longest_many2 A0 c0 cm A1 c1 a A2 c2 b A3 c3 mo w hcm hcc ha hab hb hbb hmo hmc k hk k1 hk1
  · exact longest_many A0 c0 cm A1 c1 a A2 c2 b A3 c3 mo w hcm hcc ha hab hb hbb hmo hmc k hk
end Go.Proofs.Ytcnlcmkhfdpidaa.Grid
