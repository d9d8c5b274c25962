/- A disk of sectors: a new one; and that the answers which the document fixes are given. No condition. -/
import Derived.Test.YtehodgcfejkomaaWrite
namespace Go.Proofs.Ytehodgcfejkomaa.Disk
set_option linter.unusedVariables false
set_option linter.unusedSimpArgs false
open Go.RowKit Go.Proofs.Ytehodgcfejkomaa.Q Go.Proofs.YtehodgcfejkomaaW.PrintWords Go.Proofs.YtehodgcfejkomaaW.PrintMore
def newD (n : Int) : Dk := { size := n, lasts := fun _ => none, stores := 0, wait := [], at_ := 0, keep := 0, count := 0, down := false }
theorem new_ok {n : Int} (h1 : 1 ≤ n) (h2 : n ≤ 8192) : Ok (newD n) := ⟨h1, h2, fun x hx => absurd hx (by simp [newD]), fun x s hs => by simp [newD] at hs, Int.le_refl 0, by show (0 : Int) < _; omega⟩
theorem new_bad (n : Int) (h : n < 1 ∨ 8192 < n) (w : World) : Calls Try.prog 10 #[.int .i64 n] w fun e w' => e = .returned (.tuple #[.pointer none, .int .i64 1]) ∧ w' = w := by
  by_cases h1 : n < 1
  · have d1 : decide (n < 1) = true := decide_eq_true h1
    clear h h1
    go_enter Try.func10, Try.ntmps10
    go_wp2
    go_ret2
    exact ⟨rfl, rfl⟩
  · have d1 : decide (n < 1) = false := decide_eq_false h1
    have d2 : decide (8192 < n) = true := decide_eq_true (h.resolve_left h1)
    clear h h1
    go_enter Try.func10, Try.ntmps10
    go_wp2
    go_ret2
    exact ⟨rfl, rfl⟩
theorem new_calls {w0 w : World} (hb : Below w0.heap.size w0 w) (n : Int) (h1 : 1 ≤ n) (h2 : n ≤ 8192) :
    Calls Try.prog 10 #[.int .i64 n] w fun e w' => e = .returned (.tuple #[.pointer (some ⟨w.heap.size + 1, 0, none⟩), .int .i64 0]) ∧ DiskAt w0 w' (w.heap.size + 1) w.heap.size (.slice none 0 0) (newD n) ∧ Below w.heap.size w w' := by
  have d1 : decide (n < 1) = false := decide_eq_false (by omega)
  have d2 : decide (8192 < n) = false := decide_eq_false (by omega)
  have hmm := @run_makeMap Try.prog
  have hu65 := Try.underlying65
  have hu62 := Try.underlying62
  have HB := Aside0.mk hb
  clear hb h1 h2
  go_enter Try.func10, Try.ntmps10
  go_wp2
  go_ret2
  have h1 : Below w.heap.size w (w.alloc (.map #[] 0)) := below_alloc (Below.refl _ _) _
  refine ⟨rfl, ⟨?_, ?_, HB.out.size, ⟨.map [], ?_, ?_⟩, Kd.R_nil _ _ _ _ _, ?_⟩, below_alloc h1 _⟩
  · rw [show w.heap.size + 1 = (w.alloc (.map #[] 0)).heap.size by simp]
    exact blk_new _ _
  · have := HB.out.size; omega
  · exact (World.ownsMap_made w Try.prog 3 (plainElem Try.prog 9)).alloc _
  · intro x hx
    exact ⟨rfl, fun s hs => by simp [newD] at hs⟩
  · exact below_step HB.out (below_alloc h1 _)
/-- A disk whose numbers are far from any bound: n is one. -/
structure Fit (D : Dk) (n : Nat) : Prop where
  ok : Ok D
  room : D.stores + D.wait.length ≤ n
  c0 : 0 ≤ D.count
  c1 : D.count ≤ n
theorem lastTo_size {kept : Nat → Bool} {f : Int → Option ByteArray} {l : List S75} (hf : ∀ x s, f x = some s → s.size = 32) (hl : ∀ x ∈ l, x.f1.size = 32) : ∀ i, i ≤ l.length → ∀ x s, lastTo kept f l i x = some s → s.size = 32
  | 0, _, x, s, h => hf x s h
  | i + 1, hi, x, s, h => by
    have ih := lastTo_size (kept := kept) hf hl i (by omega)
    simp only [lastTo] at h
    cases hk : kept i with
    | false => rw [hk] at h; exact ih x s h
    | true =>
      rw [hk] at h
      simp only [if_true, upd] at h
      by_cases e : x = (rd_T75 l (i : Int)).f0
      · rw [if_pos e] at h
        injection h with h
        rw [← h]
        exact hl _ (rd_mem l i (by omega))
      · rw [if_neg e] at h
        exact ih x s h
section
variable {D : Dk} {n : Nat}
theorem Fit.mono (h : Fit D n) {m : Nat} (hm : n ≤ m) : Fit D m := ⟨h.ok, Nat.le_trans h.room hm, h.c0, by have := h.c1; omega⟩
theorem Fit.last (h : Fit D n) (kept : Nat → Bool) : Fit (lastD D kept) n :=
  ⟨⟨h.ok.size0, h.ok.size1, fun x hx => absurd hx (by simp [lastD]), lastTo_size h.ok.lasts (fun x hx => (h.ok.wait x hx).1) _ (Nat.le_refl _), h.ok.keep0, h.ok.keep1⟩, by show D.stores + D.wait.length + 0 ≤ n; exact h.room, h.c0, h.c1⟩
theorem Fit.crash (h : Fit D n) (keep : Int) : Fit (crashD D keep) n := by
  unfold crashD
  split
  · exact h
  · have h' := h.last (keptB keep)
    exact ⟨⟨h'.ok.size0, h'.ok.size1, h'.ok.wait, h'.ok.lasts, Int.le_refl 0, by show (0 : Int) < _; omega⟩, h'.room, h'.c0, h'.c1⟩
theorem Fit.count (h : Fit D n) : Fit (countD D) (n + 1) := ⟨h.ok.count, by have := h.room; show D.stores + D.wait.length ≤ n + 1; omega, by have := h.c0; show 0 ≤ D.count + 1; omega, by have := h.c1; show D.count + 1 ≤ ((n + 1 : Nat) : Int); omega⟩
theorem Fit.fails (h : Fit D n) : Fit (failsD D) (n + 1) := by
  unfold failsD
  split
  · exact h.count.crash _
  · exact h.count
theorem Fit.start (h : Fit D n) : Fit { D with down := false } n := ⟨⟨h.ok.size0, h.ok.size1, h.ok.wait, h.ok.lasts, h.ok.keep0, h.ok.keep1⟩, h.room, h.c0, h.c1⟩
theorem Fit.flush (h : Fit D n) : Fit (flushD D) (n + 1) := by
  unfold flushD
  split
  · exact h.mono (Nat.le_succ n)
  · split
    · exact h.fails
    · exact h.count.last _
theorem Fit.write (h : Fit D n) (at_ : Int) (s : ByteArray) : Fit (writeD D at_ s) (n + 2) := by
  unfold writeD
  split
  · exact h.mono (by omega)
  · split
    · exact h.mono (by omega)
    · split
      · exact h.mono (by omega)
      · rename_i h1 h2
        have hp : Fit (putD D at_ s) (n + 1) := ⟨putD_ok h.ok (by omega) (by omega) (by omega), by show D.stores + (D.wait ++ [_]).length ≤ n + 1; have := h.room; simp only [List.length_append, List.length_singleton]; omega, h.c0, by have := h.c1; show D.count ≤ ((n + 1 : Nat) : Int); omega⟩
        exact hp.fails
end
theorem newD_fit {n : Int} (h1 : 1 ≤ n) (h2 : n ≤ 8192) : Fit (newD n) 0 := ⟨new_ok h1 h2, Nat.le_refl _, Int.le_refl _, Int.le_refl _⟩
section
variable {w0 w : World} {g b : Nat} {D : Dk} {n : Nat}
theorem Keeps.of_but {w w' : World} {g : Nat} {c : Array Value} {f : Nat × Nat} (hg : w.heap[g]? = some (Obj.cells c 65 f)) (hk : KeepBut w w' g none) : Keeps w w' := by
  refine ⟨hk.1, fun k c' T f' h h1 _ => hk.2 k (heap_lt h) ?_ (by simp)⟩
  rintro rfl
  rw [hg] at h
  injection h with h
  injection h with _ h
  exact h1 h.symm
def armD (D : Dk) (ca ck : Int) : Dk := { D with at_ := if ca < 1 then 0 else ca, keep := if ca < 1 then 0 else ck, count := 0 }
/-- A disk, wherever its writes wait. -/
def Disk (w0 w : World) (g b : Nat) (D : Dk) : Prop := ∃ v, DiskAt w0 w g b v D
theorem Disk.below (h : Disk w0 w g b D) : Below w0.heap.size w0 w := h.choose_spec.below
theorem Disk.step {w' : World} (h : Disk w0 w g b D) (hb : Below w.heap.size w w') : Disk w0 w' g b D := let ⟨v, h⟩ := h; ⟨v, h.step hb⟩
theorem Write (h : Disk w0 w g b D) (f : Fit D n) (hn : n < 800000) (at_ : Int) (s : ByteArray) :
    Calls Try.prog 11 #[.pointer (some ⟨g, 0, none⟩), .int .i64 at_, .string s] w fun e w' => e = .returned (.int .i64 (writeF D at_ s)) ∧ Disk w0 w' g b (writeD D at_ s) ∧ Keeps w w' := by
  obtain ⟨v, h⟩ := h
  exact write_calls h f.ok (by have := f.room; omega) f.c0 (by have := f.c1; omega) at_ s
theorem Flush (h : Disk w0 w g b D) (f : Fit D n) (hn : n < 800000) :
    Calls Try.prog 12 #[.pointer (some ⟨g, 0, none⟩)] w fun e w' => e = .returned (.int .i64 (flushF D)) ∧ Disk w0 w' g b (flushD D) ∧ Keeps w w' := by
  obtain ⟨v, h⟩ := h
  exact flush_calls h f.ok (by have := f.room; omega) f.c0 (by have := f.c1; omega)
theorem Crash (h : Disk w0 w g b D) (f : Fit D n) (hn : n < 800000) (keep : Int) (h0 : 0 ≤ keep) (h1 : keep < 18446744073709551616) :
    Calls Try.prog 15 #[.pointer (some ⟨g, 0, none⟩), .int .u64 keep] w fun e w' => e = .returned (.tuple #[]) ∧ Disk w0 w' g b (crashD D keep) ∧ Keeps w w' := by
  obtain ⟨v, h⟩ := h
  exact crash_calls keep h f.ok (by have := f.room; omega) h0 h1
theorem Read (h : Disk w0 w g b D) (f : Fit D n) (hn : n < 800000) (at_ : Int) (hw : (Lit.int .i64 at_).wf = true) :
    Calls Try.prog 14 #[.pointer (some ⟨g, 0, none⟩), .int .i64 at_] w fun e w' => e = .returned (.tuple #[.string (readS D at_), .int .i64 (readF D at_)]) ∧ w' = w := by
  obtain ⟨v, h⟩ := h
  exact read_calls h f.ok (by have := f.room; omega) at_ hw
theorem Start (h : Disk w0 w g b D) :
    Calls Try.prog 16 #[.pointer (some ⟨g, 0, none⟩)] w fun e w' => e = .returned (.tuple #[]) ∧ Disk w0 w' g b { D with down := false } ∧ Keeps w w' := by
  obtain ⟨v, h⟩ := h
  exact (start_calls h).mono fun e w' ⟨h1, h2, h3⟩ => ⟨h1, ⟨v, h2⟩, Keeps.of_but h.blk h3⟩
theorem Arm (h : Disk w0 w g b D) (ca ck : Int) :
    Calls Try.prog 21 #[.pointer (some ⟨g, 0, none⟩), .agg #[.int .i64 ca, .int .u64 ck]] w fun e w' => e = .returned (.tuple #[]) ∧ Disk w0 w' g b (armD D ca ck) ∧ Keeps w w' := by
  obtain ⟨v, h⟩ := h
  exact (arm_calls h ca ck).mono fun e w' ⟨h1, h2, h3⟩ => ⟨h1, ⟨v, h2⟩, Keeps.of_but h.blk h3⟩
theorem Waiting (h : Disk w0 w g b D) : Calls Try.prog 13 #[.pointer (some ⟨g, 0, none⟩)] w fun e w' => e = .returned (.int .i64 (D.wait.length : Int)) ∧ w' = w := waiting_calls h.choose_spec
theorem Down (h : Disk w0 w g b D) : Calls Try.prog 24 #[.pointer (some ⟨g, 0, none⟩)] w fun e w' => e = .returned (.bool D.down) ∧ w' = w := down_calls h.choose_spec
theorem Size (h : Disk w0 w g b D) : Calls Try.prog 25 #[.pointer (some ⟨g, 0, none⟩)] w fun e w' => e = .returned (.int .i64 D.size) ∧ w' = w := size_calls h.choose_spec
theorem New (hb : Below w0.heap.size w0 w) (n : Int) (h1 : 1 ≤ n) (h2 : n ≤ 8192) :
    Calls Try.prog 10 #[.int .i64 n] w fun e w' => e = .returned (.tuple #[.pointer (some ⟨w.heap.size + 1, 0, none⟩), .int .i64 0]) ∧ Disk w0 w' (w.heap.size + 1) w.heap.size (newD n) ∧ Below w.heap.size w w' :=
  (new_calls hb n h1 h2).mono fun e w' ⟨e1, e2, e3⟩ => ⟨e1, ⟨_, e2⟩, e3⟩
end
def A0 : Dk := newD 2
def A1 : Dk := writeD A0 0 ⟨#[97]⟩
def A2 : Dk := writeD A1 1 ⟨#[98]⟩
def A3 : Dk := crashD A2 2
def A4 : Dk := { A3 with down := false }
def A5 : Dk := flushD A4
theorem a0_ok : Ok A0 := new_ok (by decide) (by decide)
theorem f0 : writeF A0 0 ⟨#[97]⟩ = 0 := by kernel_rfl
theorem f1 : writeF A1 1 ⟨#[98]⟩ = 0 := by kernel_rfl
theorem f3 : writeF A3 0 ⟨#[120]⟩ = 7 ∧ writeD A3 0 ⟨#[120]⟩ = A3 := ⟨by kernel_rfl, rfl⟩
theorem f4 : flushF A4 = 0 := by kernel_rfl
theorem f5 : writeF A5 2 ⟨#[]⟩ = 1 := by kernel_rfl
theorem s0 : readS A4 0 = ⟨#[0, 0, 0, 0, 0, 0, 0, 0, 0, 0, 0, 0, 0, 0, 0, 0, 0, 0, 0, 0, 0, 0, 0, 0, 0, 0, 0, 0, 0, 0, 0, 0]⟩ ∧ readF A4 0 = 0 := ⟨by kernel_rfl, by kernel_rfl⟩
theorem s1 : readS A4 1 = ⟨#[98, 0, 0, 0, 0, 0, 0, 0, 0, 0, 0, 0, 0, 0, 0, 0, 0, 0, 0, 0, 0, 0, 0, 0, 0, 0, 0, 0, 0, 0, 0, 0]⟩ ∧ readF A4 1 = 0 := ⟨by kernel_rfl, by kernel_rfl⟩
theorem n2 : (A2.wait.length : Int) = 2 := by kernel_rfl
theorem d5 : A5.size = 2 ∧ A5.down = false := ⟨by kernel_rfl, by kernel_rfl⟩
theorem x0 : A0 = newD 2 := rfl
theorem g0 : Fit A0 0 := newD_fit (by decide) (by decide)
theorem g1 : Fit A1 2 := g0.write _ _
theorem g2 : Fit A2 4 := g1.write _ _
theorem g3 : Fit A3 4 := g2.crash _
theorem g4 : Fit A4 4 := g3.start
theorem g5 : Fit A5 5 := g4.flush
theorem byte98 : (fillB ⟨#[98]⟩).data.toList = 98 :: List.replicate 31 0 := by kernel_rfl
set_option maxRecDepth 100000 in
set_option maxHeartbeats 4000000 in
theorem awake (w : World) : Calls Try.prog 8 #[] w fun e w' => e = .returned (.bool true) ∧ Below w.heap.size w w' := by
  have h0 : (0 : Int) ≤ 2 := by decide
  go_enter Try.func8, Try.ntmps8
  go_wp2_with fail
  refine (New (Below.refl w.heap.size w) 2 (by decide) (by decide)).mono ?_
  rintro e w1 ⟨rfl, hd1, _⟩
  have H1 := Aside0.mk hd1
  clear hd1
  go_wp2_with fail
  refine (new_bad 0 (.inl (by decide)) _).mono ?_
  rintro e w2 ⟨rfl, rfl⟩
  go_wp2_with fail
  refine (Write (D := A0) H1.out g0 (by decide) 0 ⟨#[97]⟩).mono ?_
  rw [f0]
  rintro e w3 ⟨rfl, hd, _⟩
  have H2 := Aside0.mk hd
  clear hd
  go_wp2_with fail
  refine (Write (D := A1) H2.out g1 (by decide) 1 ⟨#[98]⟩).mono ?_
  rw [f1]
  rintro e w4 ⟨rfl, hd, _⟩
  have H3 := Aside0.mk hd
  clear hd
  go_wp2_with fail
  refine (Waiting (D := A2) H3.out).mono ?_
  rw [n2]
  rintro e w5 ⟨rfl, rfl⟩
  go_wp2_with fail
  refine (Crash (D := A2) H3.out g2 (by decide) 2 (by decide) (by decide)).mono ?_
  rintro e w6 ⟨rfl, hd, _⟩
  have H4 := Aside0.mk hd
  clear hd
  go_wp2_with fail
  refine (Write (D := A3) H4.out g3 (by decide) 0 ⟨#[120]⟩).mono ?_
  rw [f3.1, f3.2]
  rintro e w7 ⟨rfl, hd, _⟩
  have H5 := Aside0.mk hd
  clear hd
  go_wp2_with fail
  refine (Start (D := A3) H5.out).mono ?_
  rintro e w8 ⟨rfl, hd, _⟩
  have H6 := Aside0.mk hd
  clear hd
  go_wp2_with fail
  refine (Read (D := A4) H6.out g4 (by decide) 0 (by decide)).mono ?_
  rw [s0.1, s0.2]
  rintro e w9 ⟨rfl, rfl⟩
  go_wp2_with fail
  refine (Read (D := A4) H6.out g4 (by decide) 1 (by decide)).mono ?_
  rw [s1.1, s1.2]
  rintro e w10 ⟨rfl, rfl⟩
  go_wp2_with fail
  refine (Flush (D := A4) H6.out g4 (by decide)).mono ?_
  rw [f4]
  rintro e w11 ⟨rfl, hd, _⟩
  have H7 := Aside0.mk hd
  clear hd
  go_wp2_with fail
  refine (Size (D := A5) H7.out).mono ?_
  rw [d5.1]
  rintro e w12 ⟨rfl, rfl⟩
  go_wp2_with fail
  refine (Down (D := A5) H7.out).mono ?_
  rw [d5.2]
  rintro e w13 ⟨rfl, rfl⟩
  go_wp2_with fail
  refine (Write (D := A5) H7.out g5 (by decide) 2 ⟨#[]⟩).mono ?_
  rw [f5]
  rintro e w14 ⟨rfl, hd, _⟩
  have H8 := Aside0.mk hd
  clear hd
  go_wp2_with fail
  go_ret
  exact ⟨rfl, H8.out.below⟩
end Go.Proofs.Ytehodgcfejkomaa.Disk
