/- Apply: its walk. Printed by gen_apply.py. -/
import Derived.Test.YtcnlcmkhfdpidaaComes
import Derived.StillTailTactics
namespace Go.Proofs.Ytcnlcmkhfdpidaa.Grid
set_option linter.unusedVariables false
set_option linter.unusedSimpArgs false
open Go.RowKit Go.Proofs.Ytcnlcmkhfdpidaa.Q Go.Proofs.YtcnlcmkhfdpidaaW.PrintWords Go.Proofs.YtcnlcmkhfdpidaaW.PrintLast Go.Proofs.YtcnlcmkhfdpidaaW.PrintMore
theorem add_one_more (ad : Addr) (j : Nat) : (ad.add 1).add (j * 1 + 0) = ad.add ((j + 1) * 1 + 0) := by
  rw [Addr.add_add]
  congr 1
  omega
/-- A row of texts that is read, one step on. -/
theorem str_tail {w : World} {ad : Addr} {c : Nat} {t : ByteArray} {l : List ByteArray} (h : Kd.C Kd.string w (some ad) (t :: l).length (t :: l)) (hc : (t :: l).length ≤ c) : Kd.C Kd.string w (if c = 1 then some ad else some (ad.add 1)) l.length l := by
  obtain ⟨h1, h2, h3⟩ := h
  refine ⟨rfl, by rw [List.length_cons] at h2; omega, fun hn => ?_⟩
  obtain ⟨ad', e, h4⟩ := h3 (by rw [List.length_cons]; omega)
  obtain rfl := Option.some.inj e
  rw [List.length_cons] at hc
  rw [if_neg (by omega)]
  refine ⟨_, rfl, fun j p hj => ?_⟩
  obtain ⟨c', k1, k2, k3⟩ := h4 (j + 1) p (by simpa using hj)
  refine ⟨c', k1, k2, fun i u hu => ?_⟩
  have := k3 i u hu
  rw [← this]
  congr 1
  rw [show Kd.string.sz = 1 from rfl, show i = 0 by
    have : i < c'.length := (List.getElem?_eq_some_iff.1 hu).1
    rw [k1] at this
    exact Nat.lt_one_iff.1 this]
  exact add_one_more ad j
theorem str_head {w : World} {A : Option Addr} {t : ByteArray} {l : List ByteArray} (h : Kd.C Kd.string w A (t :: l).length (t :: l)) : ∃ ad, A = some ad ∧ w.cell? (ad.add 0) = some (.string t) := Kd.at_string h 0 (by decide) (by simp)
/-- Slots of a row of texts that is read. -/
def Row (w : World) (v : Value) (l : List ByteArray) : Prop := ∃ A c, v = .slice A l.length c ∧ l.length ≤ c ∧ Kd.C Kd.string w A l.length l
theorem app_nil (a c : List ByteArray) : app a [] c = if a.length + c.length > 0 then none else some [] := rfl
theorem app_stay_nil {p : List Stp} {c : List ByteArray} : app [] ((1, 1) :: p) c = none := rfl
theorem app_goes_nil {p : List Stp} {c : List ByteArray} : app [] ((1, 0) :: p) c = none := rfl
theorem app_come_nil {a : List ByteArray} {p : List Stp} : app a ((0, 1) :: p) [] = none := by
  have q : ¬ (((0, 1) : Stp) = (1, 1) ∧ 0 < a.length) := fun q => absurd q.1 (by decide)
  have q2 : ¬ (((0, 1) : Stp) = (1, 0) ∧ 0 < a.length) := fun q => absurd q.1 (by decide)
  exact (if_neg q).trans ((if_neg q2).trans (if_neg (fun q => absurd q.2 (by decide))))
theorem drop_cons (p : List Stp) {i : Nat} (h : i < p.length) : p.drop i = p.getD i (0, 0) :: p.drop (i + 1) := by
  rw [List.drop_eq_getElem_cons h, List.getD_eq_getElem?_getD, List.getElem?_eq_getElem h]
  rfl
theorem map_snoc (x : Option (List ByteArray)) (out : List ByteArray) (t : ByteArray) : (x.map fun r => t :: r).map (out ++ ·) = x.map ((out ++ [t]) ++ ·) := by cases x <;> simp
/-- What Apply answers. -/
def Answers (w : World) (r : Option (List ByteArray)) (e : Ending) (w' : World) : Prop := (match r with
  | some l => ∃ v, e = .returned (.tuple #[v, .int .i64 0]) ∧ Strs w w' v l
  | none => e = .returned (.tuple #[.slice none 0 0, .int .i64 2])) ∧ Below w.heap.size w w'
set_option maxRecDepth 100000 in
set_option maxHeartbeats 8000000 in
theorem Apply (A0 : Option Addr) (c0 : Nat) (a : List ByteArray) (A1 : Option Addr) (c1 : Nat) (p : List Stp) (A2 : Option Addr) (c2 : Nat) (c : List ByteArray) (w : World) (ha : Kd.C Kd.string w A0 a.length a) (hac : a.length ≤ c0) (hr : kS.C w A1 p.length p) (hc : Kd.C Kd.string w A2 c.length c) (hcc : c.length ≤ c2) (hl : p.length ≤ 1000) (hs : ∀ s ∈ p, IsStep s) (hal : a.length ≤ 1000) (hcl : c.length ≤ 1000) :
    Calls Try.prog 12 #[.slice A0 a.length c0, .slice A1 p.length c1, .slice A2 c.length c2] w (Answers w (app a p c)) := by
  have o11 := ord11
  have o10 := ord10
  have o01 := ord01
  have o00 := ord00
  have HR := Aside0.mk hr
  have HS := Aside0.mk hs
  have HL := Aside0.mk hl
  have HA0 := Aside0.mk (show Row w (.slice A0 a.length c0) a from ⟨_, _, rfl, hac, ha⟩)
  have HC0 := Aside0.mk (show Row w (.slice A2 c.length c2) c from ⟨_, _, rfl, hcc, hc⟩)
  have HM := Aside0.mk (⟨hal, hcl⟩ : _ ∧ _)
  clear hr hs hl ha hc hac hcc hal hcl
  go_enter Try.func12, Try.ntmps12
  go_wp2_with fail
  go_loopg [0, 2, 8, 13] p.length (fun kq v0 v2 v8 v13 wr => ∃ (i : Nat) (ra rc out : List ByteArray), v13 = .int .i64 i ∧ Aside0 (i + kq = p.length ∧ out.length ≤ i ∧ app a p c = (app ra (p.drop i) rc).map (out ++ ·)) ∧ Aside0 (Row w v0 ra ∧ Row w v2 rc ∧ ra.length ≤ 1000 ∧ rc.length ≤ 1000) ∧ Aside0 (Strs w wr v8 out) ∧ Aside0 (Below w.heap.size w wr))
  case atStart => exact ⟨0, a, c, [], rfl, ⟨Nat.zero_add _, Nat.le_refl _, by rw [List.drop_zero]; cases app a p c <;> rfl⟩, ⟨HA0.out, HC0.out, HM.out⟩, ⟨Kd.R_nil _ _ _ _ _⟩, ⟨Below.refl _ _⟩⟩
  case round =>
    obtain ⟨i, ra, rc, out, rfl, HK, HRR, HT, HB⟩ := hrel
    clear HA0 HC0
    by_cases c2 : i < p.length
    · have c2b : decide ((i : Int) < (p.length : Int)) = true := decide_eq_true (by omega)
      obtain ⟨ad, e1, hx0⟩ := at_step HR.out i c2
      have HLT := Aside0.mk (World.block_lt_of_cell? w _ hx0)
      have hx := (HB.out.cell HLT.out).trans hx0
      cases e1
      have hs1 := HS.out _ (getD_mem c2)
      have p104 := eq_true (show 0 ≤ (i : Int) by omega)
      have q104 := eq_true (show i < p.length by omega)
      have hib : i < 1000 := by have := HL.out; omega
      have HL2 := Aside0.mk (show (out.length + 1) * 16 ≤ 140737488355328 by have := HK.out.2.1; omega)
      have hd := drop_cons p c2
      obtain ⟨hk1, hk2, hk3⟩ := HK.out
      rw [hd] at hk3
      have HKK := Aside0.mk (⟨hk1, hk2⟩ : _ ∧ _)
      obtain ⟨⟨Aa, ca, ea, hca, hra⟩, ⟨Ac, cc, ec, hcc, hrc⟩, hral, hrcl⟩ := HRR.out
      subst ea ec
      have HRA := Aside0.mk (⟨hca, hra⟩ : _ ∧ _)
      have HRC := Aside0.mk (⟨hcc, hrc⟩ : _ ∧ _)
      have HLL := Aside0.mk (⟨hral, hrcl⟩ : _ ∧ _)
      clear hx0 c2 hd hk1 hk2 HK HRR hca hra hcc hrc hral hrcl
      generalize p.getD i (0, 0) = s at *
      rcases hs1 with rfl | rfl | rfl
      · rw [encS_stay] at hx
        cases ra with
        | nil =>
          rw [app_stay_nil] at hk3
          have HE := Aside0.mk hk3
          clear hk3
          go_wp2
          go_ret2
          exact ⟨by rw [HE.out]; rfl, HB.out⟩
        | cons T ra =>
          have hla : (T :: ra).length = ra.length + 1 := rfl
          rw [app_stay (a := T :: ra) (by rw [hla]; omega), List.tail_cons, show rt (T :: ra) 0 = T from rfl, map_snoc] at hk3
          have HK3 := Aside0.mk hk3
          obtain ⟨ada, e1, hz0⟩ := str_head HRA.out.2
          cases e1
          have HN := Aside0.mk (show Row w (Value.slice (if ca = 1 then some ada else some ⟨ada.block, ada.off + 1, none⟩) ra.length (ca - 1)) ra from ⟨_, _, rfl, by have := HRA.out.1; rw [hla] at this; omega, str_tail HRA.out.2 HRA.out.1⟩)
          have hc0 : w.cell? ada = some (.string T) := hz0
          have LT := Aside0.mk (World.block_lt_of_cell? w _ hc0)
          have BW := Aside0.mk HB.out
          have hcd : wr.drew.cell? ada = some (.string T) := ((Below.drew HB.out).cell LT.out).trans hc0
          have hla2 := HRA.out.1
          rw [hla] at hla2
          have hca1 : 1 ≤ ca := by omega
          have hra1 := eq_true (show (1 : Int) ≤ (ra.length : Int) + 1 by omega)
          clear hk3 hz0
          rw [hla]
          go_upto_region 7 with fail
          refine start_ (n := 10) (S := fun w' => w'.cell? ada = some (.string T) ∧ True) (ds := []) #[false, false, false, false, false, false, false, false, false, false] (by kernel_rfl) rfl rfl ⟨hcd, trivial⟩ (fun hHeld => ?_)
          refine pure_ (i := 0) (N := some 25) (v := ?_) (a' := ?_) #[true, false, false, false, false, false, false, false, false, false] rfl rfl (by kernel_rfl) (fun _ _ _ h => h) (Or.inl ⟨by rfl, ?_⟩) ?_ ?_
          rotate_left
          · intro w'
            go_simp
            with_reducible rfl
          rotate_left
          · simp only [Act.put, List.setIfInBounds_toArray, List.set_cons_zero, List.set_cons_succ, i64_w, i32_w]
            rfl
          refine pure_ (i := 1) (N := some 26) (v := ?_) (a' := ?_) #[true, true, false, false, false, false, false, false, false, false] rfl rfl (by kernel_rfl) (fun _ _ _ h => h) (Or.inl ⟨by rfl, ?_⟩) ?_ ?_
          rotate_left
          · intro w'
            go_simp
            with_reducible rfl
          rotate_left
          · simp only [Act.put, List.setIfInBounds_toArray, List.set_cons_zero, List.set_cons_succ, i64_w, i32_w]
            rfl
          refine pure_ (i := 2) (N := some 27) (v := ?_) (a' := ?_) #[true, true, true, false, false, false, false, false, false, false] rfl rfl (by kernel_rfl) (fun _ _ _ h => h) (Or.inl ⟨by rfl, ?_⟩) ?_ ?_
          rotate_left
          · intro w'
            go_simp
            with_reducible rfl
          rotate_left
          · simp only [Act.put, List.setIfInBounds_toArray, List.set_cons_zero, List.set_cons_succ, i64_w, i32_w]
            rfl
          refine take_ (i := 3) (N := some 28) (v := ?_) (a' := ?_) #[true, true, true, true, false, false, false, false, false, false] rfl rfl (by kernel_rfl) (fun _ _ _ h => h) (Or.inl ⟨by rfl, ?_⟩) hHeld ?_ ?_
          rotate_left
          · rintro w' ⟨s0, s1⟩
            go_simp
            with_reducible rfl
          rotate_left
          · simp only [Act.put, List.setIfInBounds_toArray, List.set_cons_zero, List.set_cons_succ, i64_w, i32_w]
            rfl
          refine pure_ (i := 6) (N := some 31) (v := ?_) (a' := ?_) #[true, true, true, true, false, false, true, false, false, false] rfl rfl (by kernel_rfl) (fun _ _ _ h => h) (Or.inl ⟨by rfl, ?_⟩) ?_ ?_
          rotate_left
          · intro w'
            go_simp
            with_reducible rfl
          rotate_left
          · simp only [Act.put, List.setIfInBounds_toArray, List.set_cons_zero, List.set_cons_succ, i64_w, i32_w]
            rfl
          refine pure_ (i := 7) (N := some 32) (v := ?_) (a' := ?_) #[true, true, true, true, false, false, true, true, false, false] rfl rfl (by kernel_rfl) (fun _ _ _ h => h) (Or.inl ⟨by rfl, ?_⟩) ?_ ?_
          rotate_left
          · intro w'
            go_simp
            with_reducible rfl
          rotate_left
          · simp only [Act.put, List.setIfInBounds_toArray, List.set_cons_zero, List.set_cons_succ, i64_w, i32_w]
            rfl
          refine one_ (i := 4) (N := some 29) #[true, true, true, true, true, false, true, true, false, false] rfl rfl (by kernel_rfl) (by decide) (fun K hK => ?_)
          refine value_ (w1 := ?_) (v := ?_) (by rfl) rfl ?_ ?_
          rotate_left 2
          · go_simp
            constructor
            · rfl
            · rfl
          refine hK.out _ _ ⟨(below_alloc (Below.refl _ _) _).cell (Nat.lt_of_lt_of_le LT.out BW.out.size) |>.trans hcd, trivial⟩ (fun hHeld => ?_)
          clear hK K
          refine norm_ (a' := ?_) ?_ ?_
          rotate_left
          · show Act.put _ (some 29) _ = _
            simp only [Act.put, List.setIfInBounds_toArray, List.set_cons_zero, List.set_cons_succ, i64_w, i32_w]
            rfl
          refine one_ (i := 5) (N := some 30) #[true, true, true, true, true, true, true, true, false, false] rfl rfl (by kernel_rfl) (by decide) (fun K hK => ?_)
          refine Kd.R_append_step Kd.string (w0 := w) w.heap.size (by rfl) (.tmp 25) (.tmp 29) 22 9 (.string ⟨#[]⟩) 16 rfl Try.underlying22 info9 rfl (by decide) (by omega) u8 out T [.string T] (fun _ => True) (fun _ => False) rfl rfl rfl (fun _ hk => hk.elim) (fun _ _ => trivial) (Kd.R_drew HT.out) (Below.drew HB.out) HB.out.size HL2.out ?_
          intro v9 w9 ho9 hb9 hg9 hat9
          have HT9 := Aside0.mk ho9
          have HB9 := Aside0.mk hb9
          have hc9 := (hb9.cell LT.out).trans hc0
          clear ho9 hb9 hg9 hat9
          refine hK.out _ _ ⟨hc9, trivial⟩ (fun hHeld => ?_)
          clear hK K
          refine norm_ (a' := ?_) ?_ ?_
          rotate_left
          · show Act.put _ (some 30) _ = _
            simp only [Act.put, List.setIfInBounds_toArray, List.set_cons_zero, List.set_cons_succ, i64_w, i32_w]
            rfl
          refine pure_ (i := 8) (N := some 8) (v := ?_) (a' := ?_) #[true, true, true, true, true, true, true, true, true, false] rfl rfl (by kernel_rfl) (fun _ _ _ h => h) (Or.inl ⟨by rfl, ?_⟩) ?_ ?_
          rotate_left
          · intro w'
            go_simp
            with_reducible rfl
          rotate_left
          · simp only [Act.put, List.setIfInBounds_toArray, List.set_cons_zero, List.set_cons_succ, i64_w, i32_w]
            rfl
          refine pure_ (i := 9) (N := some 0) (v := ?_) (a' := ?_) #[true, true, true, true, true, true, true, true, true, true] rfl rfl (by kernel_rfl) (fun _ _ _ h => h) (Or.inl ⟨by rfl, ?_⟩) ?_ ?_
          rotate_left
          · intro w'
            go_simp
            with_reducible rfl
          rotate_left
          · simp only [Act.put, List.setIfInBounds_toArray, List.set_cons_zero, List.set_cons_succ, i64_w, i32_w]
            rfl
          refine done_ (by kernel_rfl) ?_
          generalize Value.slice (if ca = 1 then some ada else some ⟨ada.block, ada.off + 1, none⟩) ra.length (ca - 1) = vN at *
          go_wp2
          go_roundg (gk - 1)
          case measure => have := HKK.out.1; have := of_eq_true q104; omega
          case rel => exact ⟨i + 1, ra, rc, out ++ [T], by go_num, ⟨by have := HKK.out.1; have := of_eq_true q104; omega, by have := HKK.out.2; simp only [List.length_append, List.length_singleton]; omega, HK3.out⟩, ⟨HN.out, ⟨_, _, rfl, HRC.out.1, HRC.out.2⟩, by have := HLL.out.1; simp only [List.length_cons] at this ⊢; omega, HLL.out.2⟩, HT9, HB9⟩
      · rw [encS_goes] at hx
        cases ra with
        | nil =>
          rw [app_goes_nil] at hk3
          have HE := Aside0.mk hk3
          clear hk3
          go_wp2
          go_ret2
          exact ⟨by rw [HE.out]; rfl, HB.out⟩
        | cons T ra =>
          have hla : (T :: ra).length = ra.length + 1 := rfl
          rw [app_goes (a := T :: ra) (by rw [hla]; omega), List.tail_cons] at hk3
          have HK3 := Aside0.mk hk3
          obtain ⟨ada, e1, hz0⟩ := str_head HRA.out.2
          cases e1
          have HN := Aside0.mk (show Row w (Value.slice (if ca = 1 then some ada else some ⟨ada.block, ada.off + 1, none⟩) ra.length (ca - 1)) ra from ⟨_, _, rfl, by have := HRA.out.1; rw [hla] at this; omega, str_tail HRA.out.2 HRA.out.1⟩)
          have hla2 := HRA.out.1
          rw [hla] at hla2
          have hca1 : 1 ≤ ca := by omega
          have hra1 := eq_true (show (1 : Int) ≤ (ra.length : Int) + 1 by omega)
          clear hk3 hz0
          rw [hla]
          by_cases hq : ca = 1
          · rw [if_pos hq] at HN
            subst hq
            obtain rfl : ra = [] := List.length_eq_zero_iff.1 (by omega)
            go_wp2
            go_roundg (gk - 1)
            case measure => have := HKK.out.1; have := of_eq_true q104; omega
            case rel => exact ⟨i + 1, [], rc, out, by go_num, ⟨by have := HKK.out.1; have := of_eq_true q104; omega, by have := HKK.out.2; omega, HK3.out⟩, ⟨HN.out, ⟨_, _, rfl, HRC.out.1, HRC.out.2⟩, by have := HLL.out.1; simp only [List.length_cons] at this ⊢; omega, HLL.out.2⟩, HT, HB⟩
          · rw [if_neg hq] at HN
            go_wp2
            go_roundg (gk - 1)
            case measure => have := HKK.out.1; have := of_eq_true q104; omega
            case rel => exact ⟨i + 1, ra, rc, out, by go_num, ⟨by have := HKK.out.1; have := of_eq_true q104; omega, by have := HKK.out.2; omega, HK3.out⟩, ⟨HN.out, ⟨_, _, rfl, HRC.out.1, HRC.out.2⟩, by have := HLL.out.1; simp only [List.length_cons] at this ⊢; omega, HLL.out.2⟩, HT, HB⟩
      · rw [encS_come] at hx
        cases rc with
        | nil =>
          rw [app_come_nil] at hk3
          have HE := Aside0.mk hk3
          clear hk3
          go_wp2
          go_ret2
          exact ⟨by rw [HE.out]; rfl, HB.out⟩
        | cons T rc =>
          have hla : (T :: rc).length = rc.length + 1 := rfl
          rw [app_come (c := T :: rc) (by rw [hla]; omega), List.tail_cons, show rt (T :: rc) 0 = T from rfl, map_snoc] at hk3
          have HK3 := Aside0.mk hk3
          obtain ⟨ada, e1, hz0⟩ := str_head HRC.out.2
          cases e1
          have HN := Aside0.mk (show Row w (Value.slice (if cc = 1 then some ada else some ⟨ada.block, ada.off + 1, none⟩) rc.length (cc - 1)) rc from ⟨_, _, rfl, by have := HRC.out.1; rw [hla] at this; omega, str_tail HRC.out.2 HRC.out.1⟩)
          have hc0 : w.cell? ada = some (.string T) := hz0
          have LT := Aside0.mk (World.block_lt_of_cell? w _ hc0)
          have BW := Aside0.mk HB.out
          have hcd : wr.drew.cell? ada = some (.string T) := ((Below.drew HB.out).cell LT.out).trans hc0
          have hla2 := HRC.out.1
          rw [hla] at hla2
          have hca1 : 1 ≤ cc := by omega
          have hra1 := eq_true (show (1 : Int) ≤ (rc.length : Int) + 1 by omega)
          clear hk3 hz0
          rw [hla]
          go_upto_region 11 with fail
          refine start_ (n := 10) (S := fun w' => w'.cell? ada = some (.string T) ∧ True) (ds := []) #[false, false, false, false, false, false, false, false, false, false] (by kernel_rfl) rfl rfl ⟨hcd, trivial⟩ (fun hHeld => ?_)
          refine pure_ (i := 0) (N := some 51) (v := ?_) (a' := ?_) #[true, false, false, false, false, false, false, false, false, false] rfl rfl (by kernel_rfl) (fun _ _ _ h => h) (Or.inl ⟨by rfl, ?_⟩) ?_ ?_
          rotate_left
          · intro w'
            go_simp
            with_reducible rfl
          rotate_left
          · simp only [Act.put, List.setIfInBounds_toArray, List.set_cons_zero, List.set_cons_succ, i64_w, i32_w]
            rfl
          refine pure_ (i := 1) (N := some 52) (v := ?_) (a' := ?_) #[true, true, false, false, false, false, false, false, false, false] rfl rfl (by kernel_rfl) (fun _ _ _ h => h) (Or.inl ⟨by rfl, ?_⟩) ?_ ?_
          rotate_left
          · intro w'
            go_simp
            with_reducible rfl
          rotate_left
          · simp only [Act.put, List.setIfInBounds_toArray, List.set_cons_zero, List.set_cons_succ, i64_w, i32_w]
            rfl
          refine pure_ (i := 2) (N := some 53) (v := ?_) (a' := ?_) #[true, true, true, false, false, false, false, false, false, false] rfl rfl (by kernel_rfl) (fun _ _ _ h => h) (Or.inl ⟨by rfl, ?_⟩) ?_ ?_
          rotate_left
          · intro w'
            go_simp
            with_reducible rfl
          rotate_left
          · simp only [Act.put, List.setIfInBounds_toArray, List.set_cons_zero, List.set_cons_succ, i64_w, i32_w]
            rfl
          refine take_ (i := 3) (N := some 54) (v := ?_) (a' := ?_) #[true, true, true, true, false, false, false, false, false, false] rfl rfl (by kernel_rfl) (fun _ _ _ h => h) (Or.inl ⟨by rfl, ?_⟩) hHeld ?_ ?_
          rotate_left
          · rintro w' ⟨s0, s1⟩
            go_simp
            with_reducible rfl
          rotate_left
          · simp only [Act.put, List.setIfInBounds_toArray, List.set_cons_zero, List.set_cons_succ, i64_w, i32_w]
            rfl
          refine pure_ (i := 6) (N := some 57) (v := ?_) (a' := ?_) #[true, true, true, true, false, false, true, false, false, false] rfl rfl (by kernel_rfl) (fun _ _ _ h => h) (Or.inl ⟨by rfl, ?_⟩) ?_ ?_
          rotate_left
          · intro w'
            go_simp
            with_reducible rfl
          rotate_left
          · simp only [Act.put, List.setIfInBounds_toArray, List.set_cons_zero, List.set_cons_succ, i64_w, i32_w]
            rfl
          refine pure_ (i := 7) (N := some 58) (v := ?_) (a' := ?_) #[true, true, true, true, false, false, true, true, false, false] rfl rfl (by kernel_rfl) (fun _ _ _ h => h) (Or.inl ⟨by rfl, ?_⟩) ?_ ?_
          rotate_left
          · intro w'
            go_simp
            with_reducible rfl
          rotate_left
          · simp only [Act.put, List.setIfInBounds_toArray, List.set_cons_zero, List.set_cons_succ, i64_w, i32_w]
            rfl
          refine one_ (i := 4) (N := some 55) #[true, true, true, true, true, false, true, true, false, false] rfl rfl (by kernel_rfl) (by decide) (fun K hK => ?_)
          refine value_ (w1 := ?_) (v := ?_) (by rfl) rfl ?_ ?_
          rotate_left 2
          · go_simp
            constructor
            · rfl
            · rfl
          refine hK.out _ _ ⟨(below_alloc (Below.refl _ _) _).cell (Nat.lt_of_lt_of_le LT.out BW.out.size) |>.trans hcd, trivial⟩ (fun hHeld => ?_)
          clear hK K
          refine norm_ (a' := ?_) ?_ ?_
          rotate_left
          · show Act.put _ (some 55) _ = _
            simp only [Act.put, List.setIfInBounds_toArray, List.set_cons_zero, List.set_cons_succ, i64_w, i32_w]
            rfl
          refine one_ (i := 5) (N := some 56) #[true, true, true, true, true, true, true, true, false, false] rfl rfl (by kernel_rfl) (by decide) (fun K hK => ?_)
          refine Kd.R_append_step Kd.string (w0 := w) w.heap.size (by rfl) (.tmp 51) (.tmp 55) 22 9 (.string ⟨#[]⟩) 16 rfl Try.underlying22 info9 rfl (by decide) (by omega) u8 out T [.string T] (fun _ => True) (fun _ => False) rfl rfl rfl (fun _ hk => hk.elim) (fun _ _ => trivial) (Kd.R_drew HT.out) (Below.drew HB.out) HB.out.size HL2.out ?_
          intro v9 w9 ho9 hb9 hg9 hat9
          have HT9 := Aside0.mk ho9
          have HB9 := Aside0.mk hb9
          have hc9 := (hb9.cell LT.out).trans hc0
          clear ho9 hb9 hg9 hat9
          refine hK.out _ _ ⟨hc9, trivial⟩ (fun hHeld => ?_)
          clear hK K
          refine norm_ (a' := ?_) ?_ ?_
          rotate_left
          · show Act.put _ (some 56) _ = _
            simp only [Act.put, List.setIfInBounds_toArray, List.set_cons_zero, List.set_cons_succ, i64_w, i32_w]
            rfl
          refine pure_ (i := 8) (N := some 8) (v := ?_) (a' := ?_) #[true, true, true, true, true, true, true, true, true, false] rfl rfl (by kernel_rfl) (fun _ _ _ h => h) (Or.inl ⟨by rfl, ?_⟩) ?_ ?_
          rotate_left
          · intro w'
            go_simp
            with_reducible rfl
          rotate_left
          · simp only [Act.put, List.setIfInBounds_toArray, List.set_cons_zero, List.set_cons_succ, i64_w, i32_w]
            rfl
          refine pure_ (i := 9) (N := some 2) (v := ?_) (a' := ?_) #[true, true, true, true, true, true, true, true, true, true] rfl rfl (by kernel_rfl) (fun _ _ _ h => h) (Or.inl ⟨by rfl, ?_⟩) ?_ ?_
          rotate_left
          · intro w'
            go_simp
            with_reducible rfl
          rotate_left
          · simp only [Act.put, List.setIfInBounds_toArray, List.set_cons_zero, List.set_cons_succ, i64_w, i32_w]
            rfl
          refine done_ (by kernel_rfl) ?_
          generalize Value.slice (if cc = 1 then some ada else some ⟨ada.block, ada.off + 1, none⟩) rc.length (cc - 1) = vN at *
          go_wp2
          go_roundg (gk - 1)
          case measure => have := HKK.out.1; have := of_eq_true q104; omega
          case rel => exact ⟨i + 1, ra, rc, out ++ [T], by go_num, ⟨by have := HKK.out.1; have := of_eq_true q104; omega, by have := HKK.out.2; simp only [List.length_append, List.length_singleton]; omega, HK3.out⟩, ⟨⟨_, _, rfl, HRA.out.1, HRA.out.2⟩, HN.out, HLL.out.1, by have := HLL.out.2; simp only [List.length_cons] at this ⊢; omega⟩, HT9, HB9⟩
    · have c2b : decide ((i : Int) < (p.length : Int)) = false := decide_eq_false (by omega)
      have c2n : decide (i < p.length) = false := decide_eq_false c2
      obtain ⟨hk1, hk2, hk3⟩ := HK.out
      rw [List.drop_of_length_le (by omega), app_nil] at hk3
      obtain ⟨⟨Aa, ca, ea, hca, hra⟩, ⟨Ac, cc, ec, hcc, hrc⟩, hral, hrcl⟩ := HRR.out
      subst ea ec
      have HE := Aside0.mk hk3
      have HN := Aside0.mk (⟨hral, hrcl⟩ : _ ∧ _)
      clear hk1 hk2 hk3 hra hrc hca hcc HK HRR c2
      by_cases hz : ra.length + rc.length > 0
      · rw [if_pos hz] at HE
        have hzb : decide (0 < (ra.length : Int) + (rc.length : Int)) = true := decide_eq_true (by omega)
        have hzc : decide (0 < ra.length + rc.length) = true := decide_eq_true hz
        clear hz
        go_wp2
        go_ret2
        exact ⟨by rw [HE.out]; rfl, HB.out⟩
      · rw [if_neg hz] at HE
        have hzb : decide (0 < (ra.length : Int) + (rc.length : Int)) = false := decide_eq_false (by omega)
        have hzc : decide (0 < ra.length + rc.length) = false := decide_eq_false hz
        clear hz
        go_wp2
        go_ret2
        rw [Option.map_some, List.append_nil] at HE
        exact ⟨by rw [HE.out]; exact ⟨_, rfl, HT.out⟩, HB.out⟩
end Go.Proofs.Ytcnlcmkhfdpidaa.Grid
