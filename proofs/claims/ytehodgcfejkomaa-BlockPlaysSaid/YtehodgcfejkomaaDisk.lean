/- A disk of sectors: what its blocks hold, and what its plain methods answer. No condition. -/
import Derived.Test.YtehodgcfejkomaaQx3
import Derived.Maps.Own
import Derived.Maps.OwnOps
import Derived.Maps.OwnSet
import Derived.Maps.StringElems
namespace Go.Proofs.Ytehodgcfejkomaa.Disk
set_option linter.unusedVariables false
set_option linter.unusedSimpArgs false
open Go.RowKit Go.Proofs.Ytehodgcfejkomaa.Q Go.Proofs.YtehodgcfejkomaaW.PrintWords Go.Proofs.YtehodgcfejkomaaW.PrintMore
/-- A disk as numbers and rows: what lasts by its sector, how often that was stored, what waits, the cut, the count. -/
structure Dk where
  size : Int
  lasts : Int → Option ByteArray
  stores : Nat
  wait : List S75
  at_ : Int
  keep : Int
  count : Int
  down : Bool
def cellsD (D : Dk) (b : Nat) (v : Value) : Array Value := #[.int .i64 D.size, .map (some b), v, .int .i64 D.at_, .int .u64 D.keep, .int .i64 D.count, .bool D.down]
/-- The map reads as this. -/
def LastsAre (M : DataW Unit) (f : Int → Option ByteArray) : Prop :=
  ∀ x : Int, (Lit.int .i64 x).wf = true → Maps.has M (.int .i64 x) = (f x).isSome ∧ ∀ s, f x = some s → ∀ zd, M.atKey (.int .i64 x) zd = .lit (.string s.data.toList)
structure DiskAt (w0 W : World) (g b : Nat) (v : Value) (D : Dk) : Prop where
  blk : W.heap[g]? = some (.cells (cellsD D b v) 65 (0, 0))
  ge : w0.heap.size ≤ g
  geb : w0.heap.size ≤ b
  lasts : ∃ M : DataW Unit, W.ownsMap Try.prog 3 (plainElem Try.prog 9) b D.stores M ∧ LastsAre M D.lasts
  wait : Kd.R k75 69 W w0.heap.size (fun _ => True) v D.wait
  below : Below w0.heap.size w0 W
section
variable {w0 W W' : World} {g b : Nat} {v : Value} {D : Dk}
theorem DiskAt.c0 (h : DiskAt w0 W g b v D) : W.cell? ⟨g, 0, none⟩ = some (.int .i64 D.size) := (blk_cell h.blk 0).trans rfl
theorem DiskAt.c1 (h : DiskAt w0 W g b v D) : W.cell? ⟨g, 1, none⟩ = some (.map (some b)) := (blk_cell h.blk 1).trans rfl
theorem DiskAt.c2 (h : DiskAt w0 W g b v D) : W.cell? ⟨g, 2, none⟩ = some v := (blk_cell h.blk 2).trans rfl
theorem DiskAt.c3 (h : DiskAt w0 W g b v D) : W.cell? ⟨g, 3, none⟩ = some (.int .i64 D.at_) := (blk_cell h.blk 3).trans rfl
theorem DiskAt.c4 (h : DiskAt w0 W g b v D) : W.cell? ⟨g, 4, none⟩ = some (.int .u64 D.keep) := (blk_cell h.blk 4).trans rfl
theorem DiskAt.c5 (h : DiskAt w0 W g b v D) : W.cell? ⟨g, 5, none⟩ = some (.int .i64 D.count) := (blk_cell h.blk 5).trans rfl
theorem DiskAt.c6 (h : DiskAt w0 W g b v D) : W.cell? ⟨g, 6, none⟩ = some (.bool D.down) := (blk_cell h.blk 6).trans rfl
theorem DiskAt.free (h : DiskAt w0 W g b v D) (j : Nat) : W.frozen? ⟨g, j, none⟩ = false := blk_frozen h.blk j
end
theorem wait_any {W : World} {base : Nat} {ok ok' : Nat → Prop} {v : Value} {xs : List S75} (h : Kd.R k75 69 W base ok v xs) (hk : ∀ k, v.ownBlock = some k → ok' k) : Kd.R k75 69 W base ok' v xs := by
  obtain ⟨h0, inner, ho, hr⟩ := h
  refine ⟨hk, inner, ho, hr.imp_ (fun x cs hm => ?_)⟩
  rw [k75_openM hm]
  exact k75_mkM _ _ _ x
theorem wait_move {W W' : World} {base : Nat} {v : Value} {xs : List S75} (h : Kd.R k75 69 W base (fun _ => True) v xs) (hm : ∀ k, v.ownBlock = some k → W'.heap[k]? = W.heap[k]?) : Kd.R k75 69 W' base (fun _ => True) v xs :=
  wait_any (Kd.R_move (wait_any (ok' := fun k => v.ownBlock = some k) h (fun k hk => hk)) hm) (fun _ _ => trivial)
section
variable {w0 W W' : World} {g b : Nat} {v : Value} {D : Dk}
theorem DiskAt.neb (h : DiskAt w0 W g b v D) : b ≠ g := by
  rintro rfl
  obtain ⟨M, ho, _⟩ := h.lasts
  obtain ⟨es, cl, hb, _⟩ := ho
  rw [h.blk] at hb
  injection hb with hb
  cases hb
theorem DiskAt.nev (h : DiskAt w0 W g b v D) (k : Nat) (hk : v.ownBlock = some k) : k ≠ g := by
  rintro rfl
  exact Kd.R_ne h.wait h.blk (by decide) hk.symm
theorem DiskAt.set_ (h : DiskAt w0 W g b v D) (j : Nat) (u : Value) (D' : Dk) (hc : (cellsD D b v).setIfInBounds j u = cellsD D' b v) (h1 : D'.lasts = D.lasts) (h2 : D'.stores = D.stores) (h3 : D'.wait = D.wait) :
    DiskAt w0 (W.setCell ⟨g, j, none⟩ u) g b v D' := by
  refine ⟨by rw [← hc]; exact blk_set h.blk j u, h.ge, h.geb, ?_, ?_, Below.setCell h.below h.ge u⟩
  · obtain ⟨M, ho, hm⟩ := h.lasts
    exact ⟨M, by rw [h2]; exact ho.setCell h.neb u, by rw [h1]; exact hm⟩
  · rw [h3]
    exact wait_move h.wait (fun k hk => Below.heap_setCell _ _ _ _ (h.nev k hk))
end
section
variable {w0 W W' : World} {g b : Nat} {v : Value} {D : Dk}
theorem DiskAt.lt (h : DiskAt w0 W g b v D) : g < W.heap.size := blk_lt h.blk
theorem DiskAt.vlt (h : DiskAt w0 W g b v D) (k : Nat) (hk : v.ownBlock = some k) : k < W.heap.size := own_lt (Kd.R_own h.wait).choose_spec k hk
theorem DiskAt.step (h : DiskAt w0 W g b v D) (hb : Below W.heap.size W W') : DiskAt w0 W' g b v D := by
  refine ⟨blk_below h.blk hb, h.ge, h.geb, ?_, wait_move h.wait (fun k hk => hb.block k (h.vlt k hk)), below_step h.below hb⟩
  obtain ⟨M, ho, hm⟩ := h.lasts
  exact ⟨M, ho.kept (grown_of_below hb none) (by simp), hm⟩
end
def askedF (D : Dk) (at_ : Int) : Int := if D.down then 7 else if at_ < 0 ∨ D.size ≤ at_ then 1 else 0
theorem asked_calls {w0 w : World} {g b : Nat} {v : Value} {D : Dk} (h : DiskAt w0 w g b v D) (at_ : Int) :
    Calls Try.prog 26 #[.pointer (some ⟨g, 0, none⟩), .int .i64 at_] w fun e w' => e = .returned (.int .i64 (askedF D at_)) ∧ w' = w := by
  have hu65 := Try.underlying65
  have h0 := h.c0
  have h6 := h.c6
  unfold askedF
  cases hd : D.down with
  | true =>
    rw [hd] at h6
    clear h hd
    go_enter Try.func26, Try.ntmps26
    go_wp2
    go_ret
    exact ⟨rfl, rfl⟩
  | false =>
    rw [hd] at h6
    by_cases h1 : at_ < 0 ∨ D.size ≤ at_
    · rw [if_pos h1]
      clear h hd
      go_enter Try.func26, Try.ntmps26
      go_wp2
      all_goals go_ret
      all_goals first | exact ⟨rfl, rfl⟩ | (exfalso; omega)
    · rw [if_neg h1]
      clear h hd
      go_enter Try.func26, Try.ntmps26
      go_wp2
      all_goals go_ret
      all_goals first | exact ⟨rfl, rfl⟩ | (exfalso; omega)
theorem size_calls {w0 w : World} {g b : Nat} {v : Value} {D : Dk} (h : DiskAt w0 w g b v D) :
    Calls Try.prog 25 #[.pointer (some ⟨g, 0, none⟩)] w fun e w' => e = .returned (.int .i64 D.size) ∧ w' = w := by
  have hu65 := Try.underlying65
  have h0 := h.c0
  clear h
  go_enter Try.func25, Try.ntmps25
  go_wp2
  go_ret
  exact ⟨rfl, rfl⟩
theorem down_calls {w0 w : World} {g b : Nat} {v : Value} {D : Dk} (h : DiskAt w0 w g b v D) :
    Calls Try.prog 24 #[.pointer (some ⟨g, 0, none⟩)] w fun e w' => e = .returned (.bool D.down) ∧ w' = w := by
  have hu65 := Try.underlying65
  have h6 := h.c6
  clear h
  go_enter Try.func24, Try.ntmps24
  go_wp2
  go_ret
  exact ⟨rfl, rfl⟩
theorem waiting_calls {w0 w : World} {g b : Nat} {v : Value} {D : Dk} (h : DiskAt w0 w g b v D) :
    Calls Try.prog 13 #[.pointer (some ⟨g, 0, none⟩)] w fun e w' => e = .returned (.int .i64 (D.wait.length : Int)) ∧ w' = w := by
  have hu65 := Try.underlying65
  obtain ⟨A, c, rfl⟩ := Kd.R_slice h.wait
  have h2 := h.c2
  clear h
  go_enter Try.func13, Try.ntmps13
  go_wp2
  go_ret
  exact ⟨rfl, rfl⟩
theorem start_calls {w0 w : World} {g b : Nat} {v : Value} {D : Dk} (h : DiskAt w0 w g b v D) :
    Calls Try.prog 16 #[.pointer (some ⟨g, 0, none⟩)] w fun e w' => e = .returned (.tuple #[]) ∧ DiskAt w0 w' g b v { D with down := false } ∧ KeepBut w w' g none := by
  have hu65 := Try.underlying65
  have h6 := h.c6
  have f6 := h.free 6
  have H := Aside0.mk h
  clear h
  go_enter Try.func16, Try.ntmps16
  go_wp2
  (try simp only [Exit.inBlock, Exit.then])
  refine bodyPost_end (results_none rfl _ _ _) rfl ?_
  exact ⟨rfl, H.out.set_ 6 _ _ rfl rfl rfl rfl, (KeepBut.refl _ _ _).set_ _ _⟩
theorem arm_calls {w0 w : World} {g b : Nat} {v : Value} {D : Dk} (h : DiskAt w0 w g b v D) (ca ck : Int) :
    Calls Try.prog 21 #[.pointer (some ⟨g, 0, none⟩), .agg #[.int .i64 ca, .int .u64 ck]] w fun e w' => e = .returned (.tuple #[]) ∧ DiskAt w0 w' g b v { D with at_ := if ca < 1 then 0 else ca, keep := if ca < 1 then 0 else ck, count := 0 } ∧ KeepBut w w' g none := by
  have hu65 := Try.underlying65
  have hu31 := Try.underlying31
  have h3 := h.c3
  have h4 := h.c4
  have h5 := h.c5
  have f3 := h.free 3
  have f4 := h.free 4
  have f5 := h.free 5
  have hl : g < w.heap.size := blk_lt h.blk
  have H := Aside0.mk h
  clear h
  by_cases hc : ca < 1
  · have d1 : decide (ca < 1) = true := decide_eq_true hc
    rw [if_pos hc, if_pos hc]
    go_enter Try.func21, Try.ntmps21
    go_wp2_with fail
    (try simp only [Exit.inBlock, Exit.then])
    refine bodyPost_end (results_none rfl _ _ _) rfl ?_
    exact ⟨rfl, (((((H.out.set_ 3 (.int .i64 ca) { D with at_ := ca } rfl rfl rfl rfl).set_ 4 (.int .u64 ck) { D with at_ := ca, keep := ck } rfl rfl rfl rfl).set_ 5 (.int .i64 0) { D with at_ := ca, keep := ck, count := 0 } rfl rfl rfl rfl).set_ 3 (.int .i64 0) { D with at_ := 0, keep := ck, count := 0 } rfl rfl rfl rfl).set_ 4 (.int .u64 0) { D with at_ := 0, keep := 0, count := 0 } rfl rfl rfl rfl).step (below_alloc (Below.refl _ _) _),
      ((((((KeepBut.refl _ _ _).set_ _ _).set_ _ _).set_ _ _).set_ _ _).set_ _ _).trans (KeepBut.of_below (below_alloc (Below.refl _ _) _) g _) (.inl rfl)⟩
  · have d1 : decide (ca < 1) = false := decide_eq_false hc
    rw [if_neg hc, if_neg hc]
    go_enter Try.func21, Try.ntmps21
    go_wp2_with fail
    (try simp only [Exit.inBlock, Exit.then])
    refine bodyPost_end (results_none rfl _ _ _) rfl ?_
    exact ⟨rfl, (((H.out.set_ 3 (.int .i64 ca) { D with at_ := ca } rfl rfl rfl rfl).set_ 4 (.int .u64 ck) { D with at_ := ca, keep := ck } rfl rfl rfl rfl).set_ 5 (.int .i64 0) { D with at_ := ca, keep := ck, count := 0 } rfl rfl rfl rfl).step (below_alloc (Below.refl _ _) _),
      ((((KeepBut.refl _ _ _).set_ _ _).set_ _ _).set_ _ _).trans (KeepBut.of_below (below_alloc (Below.refl _ _) _) g _) (.inl rfl)⟩
end Go.Proofs.Ytehodgcfejkomaa.Disk
