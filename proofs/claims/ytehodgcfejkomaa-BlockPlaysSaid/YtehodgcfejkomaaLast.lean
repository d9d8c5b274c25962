/- A disk of sectors: the writes that wait are laid down, those of them that are kept. No condition. -/
import Derived.Test.YtehodgcfejkomaaDisk
import Derived.StillTailTactics
import Derived.Deep.LoopGhost
import Derived.Deep.RegionHeld3
import Derived.Maps.Views
import Derived.Outline
namespace Go.Proofs.Ytehodgcfejkomaa.Disk
set_option linter.unusedVariables false
set_option linter.unusedSimpArgs false
open Go.RowKit Go.Proofs.Ytehodgcfejkomaa.Q Go.Proofs.YtehodgcfejkomaaW.PrintWords Go.Proofs.YtehodgcfejkomaaW.PrintMore
/-- What is no disk's block is as it was. -/
def Keeps (w w' : World) : Prop := w.heap.size ≤ w'.heap.size ∧ ∀ (k : Nat) (c : Array Value) (T : Nat) (f : Nat × Nat), w.heap[k]? = some (Obj.cells c T f) → T ≠ 65 → T ≠ 69 → w'.heap[k]? = w.heap[k]?
theorem Keeps.refl (w : World) : Keeps w w := ⟨Nat.le_refl _, fun _ _ _ _ _ _ _ => rfl⟩
theorem Keeps.trans {w w' w'' : World} (h : Keeps w w') (h' : Keeps w' w'') : Keeps w w'' :=
  ⟨Nat.le_trans h.1 h'.1, fun k c T f hk h1 h2 => by
    have e := h.2 k c T f hk h1 h2
    rw [← e]
    exact h'.2 k c T f (e.trans hk) h1 h2⟩
theorem heap_lt {w : World} {k : Nat} {o : Obj} (h : w.heap[k]? = some o) : k < w.heap.size := (Array.getElem?_eq_some_iff.1 h).1
theorem Keeps.below {w w' : World} (h : Below w.heap.size w w') : Keeps w w' := ⟨h.size, fun (k : Nat) (c : Array Value) (T : Nat) (f : Nat × Nat) hk _ _ => h.block k (heap_lt hk)⟩
theorem Keeps.cells {w w' : World} (h : Keeps w w') {k : Nat} {c : Array Value} {T : Nat} {f : Nat × Nat} (hk : w.heap[k]? = some (Obj.cells c T f)) (h1 : T ≠ 65) (h2 : T ≠ 69) : w'.heap[k]? = some (Obj.cells c T f) := (h.2 k c T f hk h1 h2).trans hk
theorem Keeps.set {w : World} {g : Nat} {c : Array Value} {f : Nat × Nat} (hg : w.heap[g]? = some (Obj.cells c 65 f)) (j : Nat) (u : Value) : Keeps w (w.setCell ⟨g, j, none⟩ u) := by
  refine ⟨by simp, fun k c' T f' hk h1 _ => Below.heap_setCell _ _ _ _ ?_⟩
  rintro rfl
  rw [hg] at hk
  injection hk with hk
  injection hk with _ hk
  exact h1 hk.symm
theorem Keeps.map {w w' : World} {b : Nat} {es : Array MapEntry} {cl : Nat} (hb : w.heap[b]? = some (Obj.map es cl)) (hg : w.grownBy w' (some b)) : Keeps w w' := by
  refine ⟨hg.size, fun k c' T f' hk h1 _ => hg.block k (heap_lt hk) ?_⟩
  intro e
  injection e with e
  subst e
  rw [hb] at hk
  cases hk
def upd (f : Int → Option ByteArray) (x : Int) (s : ByteArray) : Int → Option ByteArray := fun y => if y = x then some s else f y
def lastTo (kept : Nat → Bool) (f : Int → Option ByteArray) (l : List S75) : Nat → Int → Option ByteArray
  | 0 => f
  | i + 1 => if kept i then upd (lastTo kept f l i) (rd_T75 l (i : Int)).f0 (rd_T75 l (i : Int)).f1 else lastTo kept f l i
def lastD (D : Dk) (kept : Nat → Bool) : Dk := { D with lasts := lastTo kept D.lasts D.wait D.wait.length, stores := D.stores + D.wait.length, wait := [] }
/-- The writes of the first i that are kept have been laid down. -/
def lastI (D : Dk) (kept : Nat → Bool) (i : Nat) : Dk := { D with lasts := lastTo kept D.lasts D.wait i, stores := D.stores + i }
theorem keyed : Go.Maps.Keyed Try.prog 3 := Go.Maps.int_keyed Try.underlying3
theorem rd_mem (l : List S75) (i : Nat) (h : i < l.length) : rd_T75 l (i : Int) ∈ l := by
  unfold rd_T75
  rw [List.getD_eq_getElem?_getD, Int.toNat_natCast, List.getElem?_eq_getElem h]
  exact List.getElem_mem h
theorem LastsAre.put {M : DataW Unit} {f : Int → Option ByteArray} (h : LastsAre M f) (hM : Go.Maps.IsMap M) (x : Int) (hx : (Lit.int .i64 x).wf = true) (s : ByteArray) :
    LastsAre (M.put (.int .i64 x) (.lit (.string s.data.toList))) (upd f x s) := by
  intro y hy
  unfold upd
  have hk : WideAt.IsKeyLit (Lit.int .i64 x) := trivial
  by_cases e : y = x
  · subst e
    rw [if_pos rfl]
    refine ⟨Go.Maps.has_put_same hM hk _, fun s' hs zd => ?_⟩
    injection hs with hs
    subst hs
    exact Go.Maps.atKey_put_same hM hk _ _
  · rw [if_neg e]
    have hne : Lit.int .i64 y ≠ Lit.int .i64 x := by intro h; injection h with _ h; exact e h
    obtain ⟨h1, h2⟩ := h y hy
    refine ⟨(Go.Maps.has_put_other hne _).trans h1, fun s' hs zd => ?_⟩
    rw [Go.Maps.atKey_put_other hne]
    exact h2 s' hs zd
section
variable {w0 W W' : World} {g b : Nat} {v : Value} {D : Dk}
theorem DiskAt.nevb (h : DiskAt w0 W g b v D) (k : Nat) (hk : v.ownBlock = some k) : k ≠ b := by
  rintro rfl
  obtain ⟨M, ho, _⟩ := h.lasts
  obtain ⟨es, cl, hb, _⟩ := ho
  obtain ⟨c1, h1⟩ := own_typed (Kd.R_own h.wait).choose_spec k hk
  rw [h1] at hb
  injection hb with hb
  cases hb
theorem DiskAt.setWait (h : DiskAt w0 W g b v D) (v' : Value) (xs : List S75) (hw : Kd.R k75 69 W w0.heap.size (fun _ => True) v' xs) (hv : ∀ k, v'.ownBlock = some k → k ≠ g) :
    DiskAt w0 (W.setCell ⟨g, 2, none⟩ v') g b v' { D with wait := xs } := by
  refine ⟨blk_set h.blk 2 v', h.ge, h.geb, ?_, wait_move hw (fun k hk => Below.heap_setCell _ _ _ _ (hv k hk)), Below.setCell h.below h.ge v'⟩
  obtain ⟨M, ho, hm⟩ := h.lasts
  exact ⟨M, ho.setCell h.neb v', hm⟩
theorem lastI_keep {kept : Nat → Bool} {i : Nat} (h : DiskAt w0 W g b v (lastI D kept i)) (e : lastTo kept D.lasts D.wait (i + 1) = lastTo kept D.lasts D.wait i) : DiskAt w0 W g b v (lastI D kept (i + 1)) := by
  refine ⟨h.blk, h.ge, h.geb, ?_, h.wait, h.below⟩
  obtain ⟨M, ho, hm⟩ := h.lasts
  exact ⟨M, ho.mono (by unfold lastI; show D.stores + i ≤ D.stores + (i + 1); omega), by show LastsAre M (lastTo kept D.lasts D.wait (i + 1)); rw [e]; exact hm⟩
theorem lastI_put {kept : Nat → Bool} {i : Nat} {X : S75} {M : DataW Unit} (h : DiskAt w0 W g b v (lastI D kept i)) (hM : W.ownsMap Try.prog 3 (plainElem Try.prog 9) b (lastI D kept i).stores M) (hl : LastsAre M (lastI D kept i).lasts) (hx : (Lit.int .i64 X.f0).wf = true)
    (ho : W'.ownsMap Try.prog 3 (plainElem Try.prog 9) b ((lastI D kept i).stores + 1) (M.put (.int .i64 X.f0) (.lit (.string X.f1.data.toList)))) (hg : W.drew.grownBy W' (some b))
    (e : lastTo kept D.lasts D.wait (i + 1) = upd (lastTo kept D.lasts D.wait i) X.f0 X.f1) : DiskAt w0 W' g b v (lastI D kept (i + 1)) ∧ Keeps W W' := by
  have hd := h.step (below_drew1 (Below.refl W.heap.size W))
  have hg' := hg
  refine ⟨⟨(hg.block g hd.lt (fun e => hd.neb (by injection e with e; exact e.symm))).trans hd.blk, h.ge, h.geb, ⟨_, ho, ?_⟩, wait_move hd.wait (fun k hk => hg.block k (hd.vlt k hk) (fun e => hd.nevb k hk (by injection e))), hd.below.grown hg hd.below.size (fun k hk => by injection hk with hk; rw [← hk]; exact h.geb)⟩, ?_⟩
  · show LastsAre _ (lastTo kept D.lasts D.wait (i + 1))
    rw [e]
    exact hl.put hM.isMap _ hx _
  · obtain ⟨es, cl, hb, _⟩ := hM
    exact (Keeps.below (below_drew1 (Below.refl W.heap.size W))).trans (Keeps.map (es := es) (cl := cl) hb hg)
theorem lastI_end {kept : Nat → Bool} {i : Nat} (e : i = D.wait.length) (h : DiskAt w0 W g b v { lastI D kept i with wait := [] }) : DiskAt w0 W g b v (lastD D kept) := by
  subst e
  exact h
end
set_option maxHeartbeats 4000000 in
theorem last_calls29 {w0 w : World} {g b : Nat} {v : Value} {D : Dk} (kept : Nat → Bool) (h : DiskAt w0 w g b v D) (hs : D.stores + D.wait.length < 1000000)
    (hz : ∀ x ∈ D.wait, x.f1.size ≤ maxLen ∧ (Lit.int .i64 x.f0).wf = true)
    (hk : ∀ (i : Nat) (w' : World), i < D.wait.length → Keeps w w' → Calls Try.prog 29 #[.int .i64 i] w' fun e w'' => e = .returned (.bool (kept i)) ∧ w'' = w') :
    Calls Try.prog 28 #[.pointer (some ⟨g, 0, none⟩), .func (.func 29) #[] #[]] w fun e w' => e = .returned (.tuple #[]) ∧ DiskAt w0 w' g b (.slice none 0 0) (lastD D kept) ∧ Keeps w w' := by
  have hu65 := Try.underlying65
  have hu69 := Try.underlying69
  obtain ⟨A, c, rfl⟩ := Kd.R_slice h.wait
  have h2 := h.c2
  have hl : D.wait.length < 1000000 := by omega
  have H := Aside0.mk h
  have HZ := Aside0.mk hz
  have HK := Aside0.mk hk
  have HS := Aside0.mk hs
  clear h hz hk hs
  go_enter Try.func28, Try.ntmps28
  go_wp2_with fail
  go_loopg [11] D.wait.length (fun kq v11 wr => ∃ i : Nat, v11 = .int .i64 i ∧ Aside0 (i + kq = D.wait.length ∧ DiskAt w0 wr g b (.slice A D.wait.length c) (lastI D kept i) ∧ Keeps w wr))
  case atStart => exact ⟨0, rfl, ⟨Nat.zero_add _, H.out, Keeps.refl _⟩⟩
  case round =>
    obtain ⟨i, rfl, HA⟩ := hrel
    by_cases c2 : i < D.wait.length
    · have c2b : decide ((i : Int) < (D.wait.length : Int)) = true := decide_eq_true (by omega)
      obtain ⟨hkk, hd, hkp⟩ := HA.out
      obtain ⟨ad, e1, hx0, hx1⟩ := at_T75 (Kd.R_reads' hd.wait).2.2 (i : Int) (by omega) (by show (i : Int) < (D.wait.length : Int); omega)
      cases e1
      have y0 : wr.cell? (ad.add (i * 2)) = some (.int .i64 (rd_T75 D.wait (i : Int)).f0) := hx0
      have y1 : wr.cell? ⟨(ad.add (i * 2)).block, (ad.add (i * 2)).off + 1, none⟩ = some (.string (rd_T75 D.wait (i : Int)).f1) := hx1
      have p104 := eq_true (show 0 ≤ (i : Int) by omega)
      have q104 := eq_true (show i < D.wait.length by omega)
      have hib : i < 1000000 := by omega
      have HX := Aside0.mk (HZ.out _ (rd_mem D.wait i c2))
      have HI := Aside0.mk c2
      have HQ := Aside0.mk (show lastTo kept D.lasts D.wait (i + 1) = if kept i then upd (lastTo kept D.lasts D.wait i) (rd_T75 D.wait (i : Int)).f0 (rd_T75 D.wait (i : Int)).f1 else lastTo kept D.lasts D.wait i from rfl)
      clear hkk hd hkp c2 hx0 hx1
      generalize hX : rd_T75 D.wait (i : Int) = X at *
      clear hX
      cases hkb : kept i with
      | false =>
        have HQ0 := Aside0.mk (HQ.out.trans (by rw [hkb]))
        have HKB := Aside0.mk hkb
        clear HQ hkb
        go_wp2_with (go_at_call 29; refine (HK.out i _ HI.out (HA.out.2.2.trans (Keeps.below (below_alloc (Below.refl _ _) _)))).mono ?_; rw [HKB.out]; rintro e w2 ⟨rfl, rfl⟩)
        go_roundg (gk - 1)
        case measure => have := HA.out.1; have := HI.out; omega
        case rel => exact ⟨i + 1, by go_num, ⟨by have := HA.out.1; have := HI.out; omega, lastI_keep (HA.out.2.1.step (below_alloc (Below.refl _ _) _)) HQ0.out, HA.out.2.2.trans (Keeps.below (below_alloc (Below.refl _ _) _))⟩⟩
      | true =>
        have HQ1 := Aside0.mk (HQ.out.trans (by rw [hkb]))
        have HKB := Aside0.mk hkb
        clear HQ hkb
        have HW := Aside0.mk (HA.out.2.1.step (below_alloc (Below.refl _ _) (.cells #[.int .i64 X.f0, .string X.f1] 69)))
        have HB := Aside0.mk (blk_new wr (.cells #[.int .i64 X.f0, .string X.f1] 69))
        have HN := Aside0.mk (HA.out.2.2.trans (Keeps.below (below_alloc (Below.refl _ _) (.cells #[.int .i64 X.f0, .string X.f1] 69))))
        go_wp2_with (go_at_call 29; refine (HK.out i _ HI.out (HA.out.2.2.trans (Keeps.below (below_alloc (Below.refl _ _) _)))).mono ?_; rw [HKB.out]; rintro e w2 ⟨rfl, rfl⟩)
        generalize hW1 : wr.alloc (.cells #[.int .i64 X.f0, .string X.f1] 69) = W1 at *
        clear hW1
        have z0 : W1.cell? ⟨wr.heap.size, 0, none⟩ = some (.int .i64 X.f0) := blk_cell HB.out 0
        have z1 : W1.cell? ⟨wr.heap.size, 1, none⟩ = some (.string X.f1) := blk_cell HB.out 1
        have z2 := HW.out.c1
        go_still_tail 8, (by kernel_rfl)
        change wpList _ _ _ _ _ W1.drew
        obtain ⟨M, hM, hMl⟩ := HW.out.lasts
        go_wp2_with (at_mapUpdate; refine wpList_mapUpdate_own _ rfl _ _ _ 62 rfl 3 9 keyed Try.underlying62 (plainElem Try.prog 9) b (lastI D kept i).stores M rfl hM.drew (by unfold maxLen lastI; have := HS.out; have := HI.out; show D.stores + i < _; omega) _ _ (.int .i64 X.f0) rfl rfl (Go.Maps.keyOf_int_mk Try.underlying3 HX.out.2) (.lit (.string X.f1.data.toList)) [] (plainElem_string Try.underlying9 HX.out.1) ?_; intro w3 hown3 hgrow3)
        have HD := Aside0.mk (⟨hown3, hgrow3⟩ : _ ∧ _)
        clear z0 z1 z2
        go_roundg (gk - 1)
        case measure => have := HA.out.1; have := HI.out; omega
        case rel => exact ⟨i + 1, by go_num, ⟨by have := HA.out.1; have := HI.out; omega, (lastI_put HW.out hM hMl HX.out.2 HD.out.1 HD.out.2 HQ1.out).1, HN.out.trans (lastI_put HW.out hM hMl HX.out.2 HD.out.1 HD.out.2 HQ1.out).2⟩⟩
    · have c2b : decide ((i : Int) < (D.wait.length : Int)) = false := decide_eq_false (by omega)
      have c2n : decide (i < D.wait.length) = false := decide_eq_false c2
      have HE := Aside0.mk (show i = D.wait.length by have := HA.out.1; omega)
      have f2 := HA.out.2.1.free 2
      have z2 := HA.out.2.1.c2
      clear c2
      go_wp2_with fail
      (try simp only [Exit.inBlock, Exit.then])
      refine bodyPost_end (results_none rfl _ _ _) rfl ?_
      exact ⟨rfl, lastI_end HE.out (HA.out.2.1.setWait (.slice none 0 0) [] (Kd.R_nil _ _ _ _ _) (fun k hk => by simp [Value.ownBlock] at hk)), HA.out.2.2.trans (Keeps.set HA.out.2.1.blk _ _)⟩
set_option maxHeartbeats 4000000 in
theorem last_calls30 {w0 w : World} {g b : Nat} {v : Value} {D : Dk} (p : Addr) (kept : Nat → Bool) (h : DiskAt w0 w g b v D) (hs : D.stores + D.wait.length < 1000000)
    (hz : ∀ x ∈ D.wait, x.f1.size ≤ maxLen ∧ (Lit.int .i64 x.f0).wf = true)
    (hk : ∀ (i : Nat) (w' : World), i < D.wait.length → Keeps w w' → Calls Try.prog 30 #[.int .i64 i, .pointer (some p)] w' fun e w'' => e = .returned (.bool (kept i)) ∧ w'' = w') :
    Calls Try.prog 28 #[.pointer (some ⟨g, 0, none⟩), .func (.func 30) #[] #[.pointer (some p)]] w fun e w' => e = .returned (.tuple #[]) ∧ DiskAt w0 w' g b (.slice none 0 0) (lastD D kept) ∧ Keeps w w' := by
  have hu65 := Try.underlying65
  have hu69 := Try.underlying69
  obtain ⟨A, c, rfl⟩ := Kd.R_slice h.wait
  have h2 := h.c2
  have hl : D.wait.length < 1000000 := by omega
  have H := Aside0.mk h
  have HZ := Aside0.mk hz
  have HK := Aside0.mk hk
  have HS := Aside0.mk hs
  clear h hz hk hs
  go_enter Try.func28, Try.ntmps28
  go_wp2_with fail
  go_loopg [11] D.wait.length (fun kq v11 wr => ∃ i : Nat, v11 = .int .i64 i ∧ Aside0 (i + kq = D.wait.length ∧ DiskAt w0 wr g b (.slice A D.wait.length c) (lastI D kept i) ∧ Keeps w wr))
  case atStart => exact ⟨0, rfl, ⟨Nat.zero_add _, H.out, Keeps.refl _⟩⟩
  case round =>
    obtain ⟨i, rfl, HA⟩ := hrel
    by_cases c2 : i < D.wait.length
    · have c2b : decide ((i : Int) < (D.wait.length : Int)) = true := decide_eq_true (by omega)
      obtain ⟨hkk, hd, hkp⟩ := HA.out
      obtain ⟨ad, e1, hx0, hx1⟩ := at_T75 (Kd.R_reads' hd.wait).2.2 (i : Int) (by omega) (by show (i : Int) < (D.wait.length : Int); omega)
      cases e1
      have y0 : wr.cell? (ad.add (i * 2)) = some (.int .i64 (rd_T75 D.wait (i : Int)).f0) := hx0
      have y1 : wr.cell? ⟨(ad.add (i * 2)).block, (ad.add (i * 2)).off + 1, none⟩ = some (.string (rd_T75 D.wait (i : Int)).f1) := hx1
      have p104 := eq_true (show 0 ≤ (i : Int) by omega)
      have q104 := eq_true (show i < D.wait.length by omega)
      have hib : i < 1000000 := by omega
      have HX := Aside0.mk (HZ.out _ (rd_mem D.wait i c2))
      have HI := Aside0.mk c2
      have HQ := Aside0.mk (show lastTo kept D.lasts D.wait (i + 1) = if kept i then upd (lastTo kept D.lasts D.wait i) (rd_T75 D.wait (i : Int)).f0 (rd_T75 D.wait (i : Int)).f1 else lastTo kept D.lasts D.wait i from rfl)
      clear hkk hd hkp c2 hx0 hx1
      generalize hX : rd_T75 D.wait (i : Int) = X at *
      clear hX
      cases hkb : kept i with
      | false =>
        have HQ0 := Aside0.mk (HQ.out.trans (by rw [hkb]))
        have HKB := Aside0.mk hkb
        clear HQ hkb
        go_wp2_with (go_at_call 30; refine (HK.out i _ HI.out (HA.out.2.2.trans (Keeps.below (below_alloc (Below.refl _ _) _)))).mono ?_; rw [HKB.out]; rintro e w2 ⟨rfl, rfl⟩)
        go_roundg (gk - 1)
        case measure => have := HA.out.1; have := HI.out; omega
        case rel => exact ⟨i + 1, by go_num, ⟨by have := HA.out.1; have := HI.out; omega, lastI_keep (HA.out.2.1.step (below_alloc (Below.refl _ _) _)) HQ0.out, HA.out.2.2.trans (Keeps.below (below_alloc (Below.refl _ _) _))⟩⟩
      | true =>
        have HQ1 := Aside0.mk (HQ.out.trans (by rw [hkb]))
        have HKB := Aside0.mk hkb
        clear HQ hkb
        have HW := Aside0.mk (HA.out.2.1.step (below_alloc (Below.refl _ _) (.cells #[.int .i64 X.f0, .string X.f1] 69)))
        have HB := Aside0.mk (blk_new wr (.cells #[.int .i64 X.f0, .string X.f1] 69))
        have HN := Aside0.mk (HA.out.2.2.trans (Keeps.below (below_alloc (Below.refl _ _) (.cells #[.int .i64 X.f0, .string X.f1] 69))))
        go_wp2_with (go_at_call 30; refine (HK.out i _ HI.out (HA.out.2.2.trans (Keeps.below (below_alloc (Below.refl _ _) _)))).mono ?_; rw [HKB.out]; rintro e w2 ⟨rfl, rfl⟩)
        generalize hW1 : wr.alloc (.cells #[.int .i64 X.f0, .string X.f1] 69) = W1 at *
        clear hW1
        have z0 : W1.cell? ⟨wr.heap.size, 0, none⟩ = some (.int .i64 X.f0) := blk_cell HB.out 0
        have z1 : W1.cell? ⟨wr.heap.size, 1, none⟩ = some (.string X.f1) := blk_cell HB.out 1
        have z2 := HW.out.c1
        go_still_tail 8, (by kernel_rfl)
        change wpList _ _ _ _ _ W1.drew
        obtain ⟨M, hM, hMl⟩ := HW.out.lasts
        go_wp2_with (at_mapUpdate; refine wpList_mapUpdate_own _ rfl _ _ _ 62 rfl 3 9 keyed Try.underlying62 (plainElem Try.prog 9) b (lastI D kept i).stores M rfl hM.drew (by unfold maxLen lastI; have := HS.out; have := HI.out; show D.stores + i < _; omega) _ _ (.int .i64 X.f0) rfl rfl (Go.Maps.keyOf_int_mk Try.underlying3 HX.out.2) (.lit (.string X.f1.data.toList)) [] (plainElem_string Try.underlying9 HX.out.1) ?_; intro w3 hown3 hgrow3)
        have HD := Aside0.mk (⟨hown3, hgrow3⟩ : _ ∧ _)
        clear z0 z1 z2
        go_roundg (gk - 1)
        case measure => have := HA.out.1; have := HI.out; omega
        case rel => exact ⟨i + 1, by go_num, ⟨by have := HA.out.1; have := HI.out; omega, (lastI_put HW.out hM hMl HX.out.2 HD.out.1 HD.out.2 HQ1.out).1, HN.out.trans (lastI_put HW.out hM hMl HX.out.2 HD.out.1 HD.out.2 HQ1.out).2⟩⟩
    · have c2b : decide ((i : Int) < (D.wait.length : Int)) = false := decide_eq_false (by omega)
      have c2n : decide (i < D.wait.length) = false := decide_eq_false c2
      have HE := Aside0.mk (show i = D.wait.length by have := HA.out.1; omega)
      have f2 := HA.out.2.1.free 2
      have z2 := HA.out.2.1.c2
      clear c2
      go_wp2_with fail
      (try simp only [Exit.inBlock, Exit.then])
      refine bodyPost_end (results_none rfl _ _ _) rfl ?_
      exact ⟨rfl, lastI_end HE.out (HA.out.2.1.setWait (.slice none 0 0) [] (Kd.R_nil _ _ _ _ _) (fun k hk => by simp [Value.ownBlock] at hk)), HA.out.2.2.trans (Keeps.set HA.out.2.1.blk _ _)⟩
end Go.Proofs.Ytehodgcfejkomaa.Disk
