/- Six rows of texts in an array, beside a disk; and, plainly, what may be read behind a failure. No condition. -/
import Derived.Test.YtehodgcfejkomaaSeen
namespace Go.Proofs.Ytehodgcfejkomaa.Disk
set_option linter.unusedVariables false
set_option linter.unusedSimpArgs false
open Go.RowKit Go.Proofs.Ytehodgcfejkomaa.Q Go.Proofs.YtehodgcfejkomaaW.PrintWords Go.Proofs.YtehodgcfejkomaaW.PrintMore
def arrV (V : Nat → Value) : Array Value := #[V 0, V 1, V 2, V 3, V 4, V 5]
theorem arrV_get (V : Nat → Value) (j : Nat) (h : j < 6) : (arrV V)[j]? = some (V j) := by
  match j, h with
  | 0, _ => rfl
  | 1, _ => rfl
  | 2, _ => rfl
  | 3, _ => rfl
  | 4, _ => rfl
  | 5, _ => rfl
theorem arrV_set (V : Nat → Value) (j : Nat) (h : j < 6) (u : Value) : (arrV V).setIfInBounds j u = arrV (fun t => if t = j then u else V t) := by
  match j, h with
  | 0, _ => rfl
  | 1, _ => rfl
  | 2, _ => rfl
  | 3, _ => rfl
  | 4, _ => rfl
  | 5, _ => rfl
abbrev Texts (w0 w : World) (v : Value) (xs : List ByteArray) : Prop := Kd.R Kd.string 9 w w0.heap.size (fun _ => True) v xs
theorem texts_any {W : World} {base : Nat} {ok ok' : Nat → Prop} {v : Value} {xs : List ByteArray} (h : Kd.R Kd.string 9 W base ok v xs) (hk : ∀ k, v.ownBlock = some k → ok' k) : Kd.R Kd.string 9 W base ok' v xs := by
  obtain ⟨h0, inner, ho, hr⟩ := h
  exact ⟨hk, inner, ho, hr⟩
theorem texts_move {w0 w w' : World} {v : Value} {xs : List ByteArray} (h : Texts w0 w v xs) (hm : ∀ k, v.ownBlock = some k → w'.heap[k]? = w.heap[k]?) : Texts w0 w' v xs :=
  texts_any (Kd.R_move (texts_any (ok' := fun k => v.ownBlock = some k) h (fun k hk => hk)) hm) (fun _ _ => trivial)
theorem texts_typed {w0 w : World} {v : Value} {xs : List ByteArray} (h : Texts w0 w v xs) (k : Nat) (hk : v.ownBlock = some k) : (∃ c, w.heap[k]? = some (.cells c 9 (0, 0))) ∧ w0.heap.size ≤ k ∧ k < w.heap.size :=
  ⟨own_typed (Kd.R_own h).choose_spec k hk, Kd.R_base h k hk, own_lt (Kd.R_own h).choose_spec k hk⟩
structure May (w0 w : World) (q : Nat) (V : Nat → Value) (L : Nat → List ByteArray) : Prop where
  blk : w.heap[q]? = some (.cells (arrV V) 38 (0, 0))
  ge : w0.heap.size ≤ q
  rows : ∀ j, j < 6 → Texts w0 w (V j) (L j)
  apart : ∀ i j, i < 6 → j < 6 → i ≠ j → ∀ k, (V i).ownBlock = some k → (V j).ownBlock ≠ some k
section
variable {w0 w w' : World} {q : Nat} {V : Nat → Value} {L : Nat → List ByteArray}
theorem May.cell (h : May w0 w q V L) (j : Nat) (hj : j < 6) : w.cell? ⟨q, j, none⟩ = some (V j) := (blk_cell h.blk j).trans (arrV_get V j hj)
theorem May.keeps (h : May w0 w q V L) (hk : Keeps w w') : May w0 w' q V L :=
  ⟨hk.cells h.blk (by decide) (by decide), h.ge, fun j hj => texts_move (h.rows j hj) (fun k e => by
    obtain ⟨⟨c, hc⟩, _⟩ := texts_typed (h.rows j hj) k e
    exact hk.2 k c 9 (0, 0) hc (by decide) (by decide)), h.apart⟩
theorem May.step (h : May w0 w q V L) (hb : Below w.heap.size w w') : May w0 w' q V L := h.keeps (Keeps.below hb)
theorem May.neq (h : May w0 w q V L) (j : Nat) (hj : j < 6) (k : Nat) (hk : (V j).ownBlock = some k) : k ≠ q := by
  rintro rfl
  obtain ⟨⟨c, hc⟩, _⟩ := texts_typed (h.rows j hj) k hk
  rw [h.blk] at hc
  injection hc with hc
  injection hc with _ hc
  exact absurd hc (by decide)
/-- One of the rows has grown, and is stored. -/
theorem May.grown (h : May w0 w q V L) (j : Nat) (hj : j < 6) {v : Value} {s : ByteArray} (ho : Texts w0 w' v (L j ++ [s])) (hg : w.grownBy w' (V j).ownBlock) (hat : v.ownBlock = (V j).ownBlock ∨ ∃ k, v.ownBlock = some k ∧ w.heap.size ≤ k) :
    May w0 (w'.setCell ⟨q, j, none⟩ v) q (fun t => if t = j then v else V t) (fun t => if t = j then L j ++ [s] else L t) := by
  have hq : w'.heap[q]? = some (.cells (arrV V) 38 (0, 0)) := (hg.block q (heap_lt h.blk) (fun e => h.neq j hj q e.symm rfl)).trans h.blk
  have hvq : ∀ k, v.ownBlock = some k → k ≠ q := by
    intro k hk
    rcases hat with hat | ⟨b, hb, hlt⟩
    · exact h.neq j hj k (hat ▸ hk)
    · have := heap_lt h.blk
      rw [hk] at hb
      injection hb with hb
      omega
  refine ⟨?_, h.ge, fun t ht => ?_, fun a b ha hb hab k hk => ?_⟩
  · rw [← arrV_set V j hj v]
    exact blk_set hq j v
  · by_cases e : t = j
    · subst e
      show Texts w0 _ (if t = t then v else V t) (if t = t then L t ++ [s] else L t)
      rw [if_pos rfl, if_pos rfl]
      exact texts_move ho (fun k hk => Below.heap_setCell _ _ _ _ (hvq k hk))
    · show Texts w0 _ (if t = j then v else V t) (if t = j then L j ++ [s] else L t)
      rw [if_neg e, if_neg e]
      refine texts_move (h.rows t ht) (fun k hk => (Below.heap_setCell _ _ _ _ (h.neq t ht k hk)).trans (hg.block k (texts_typed (h.rows t ht) k hk).2.2 ?_))
      intro e2
      exact h.apart t j ht hj e k hk e2.symm
  · have hn : ∀ t, t < 6 → t ≠ j → ∀ k, (V t).ownBlock = some k → v.ownBlock ≠ some k := by
      intro t ht htj k hk he
      rcases hat with hat | ⟨b, hb, hlt⟩
      · exact h.apart t j ht hj htj k hk (hat ▸ he)
      · have := (texts_typed (h.rows t ht) k hk).2.2
        rw [he] at hb
        injection hb with hb
        omega
    by_cases ea : a = j
    · have hbj : b ≠ j := fun e => hab (ea.trans e.symm)
      simp only [if_pos ea] at hk
      simp only [if_neg hbj]
      exact fun e => hn b hb hbj k e hk
    · simp only [if_neg ea] at hk
      by_cases eb : b = j
      · simp only [if_pos eb]
        exact hn a ha ea k hk
      · simp only [if_neg eb]
        exact h.apart a b ha hb hab k hk
theorem Disk.grown {g b : Nat} {D : Dk} (h : Disk w0 w g b D) {row : Option Nat} (hg : w.grownBy w' row) (hr : ∀ k, row = some k → (∃ c, w.heap[k]? = some (.cells c 9 (0, 0))) ∧ w0.heap.size ≤ k) : Disk w0 w' g b D := by
  obtain ⟨v, h⟩ := h
  have n1 : some g ≠ row := by
    intro e
    obtain ⟨⟨c, hc⟩, _⟩ := hr g e.symm
    rw [h.blk] at hc
    injection hc with hc
    injection hc with _ hc
    exact absurd hc (by decide)
  refine ⟨v, (hg.block g h.lt n1).trans h.blk, h.ge, h.geb, ?_, wait_move h.wait (fun k hk => hg.block k (h.vlt k hk) ?_), h.below.grown hg h.below.size (fun k hk => (hr k hk).2)⟩
  · obtain ⟨M, hM, hl⟩ := h.lasts
    refine ⟨M, hM.kept hg ?_, hl⟩
    intro e
    obtain ⟨⟨c, hc⟩, _⟩ := hr b e.symm
    obtain ⟨es, cl, hb, _⟩ := hM
    rw [hb] at hc
    cases hc
  · intro e
    obtain ⟨⟨c, hc⟩, _⟩ := hr k e.symm
    obtain ⟨c1, h3⟩ := own_typed (Kd.R_own h.wait).choose_spec k hk
    rw [hc] at h3
    injection h3 with h3
    injection h3 with _ h3
    exact absurd h3 (by decide)
end
/-! ### plainly -/
/-- What may be read: what waits, and what lasts, is told. -/
structure Told (D : Dk) (L : Nat → List ByteArray) (B : Nat → ByteArray) (n : Nat) : Prop where
  wait : ∀ p ∈ D.wait, ∃ j : Nat, j < 6 ∧ p.f0 = j ∧ p.f1 ∈ L j
  lasts : ∀ j : Nat, j < 6 → (D.lasts j).getD empty32 = B j
  head : ∀ j, j < 6 → ∃ r, L j = B j :: r
  len : ∀ j, j < 6 → (L j).length ≤ n + 1
theorem Told.write {D : Dk} {L : Nat → List ByteArray} {B : Nat → ByteArray} {n : Nat} (h : Told D L B n) (x : Nat) (hx : x < 6) (s : ByteArray) : Told (countD (putD D x s)) (fun t => if t = x then L x ++ [fillB s] else L t) B (n + 1) := by
  refine ⟨fun p hp => ?_, h.lasts, fun j hj => ?_, fun j hj => ?_⟩
  · rcases List.mem_append.1 hp with hp | hp
    · obtain ⟨j, hj, e, hm⟩ := h.wait p hp
      refine ⟨j, hj, e, ?_⟩
      show p.f1 ∈ (if j = x then L x ++ [fillB s] else L j)
      by_cases q : j = x
      · subst q
        rw [if_pos rfl]
        exact List.mem_append_left _ hm
      · rw [if_neg q]; exact hm
    · obtain rfl := List.mem_singleton.1 hp
      refine ⟨x, hx, rfl, ?_⟩
      show fillB s ∈ (if x = x then L x ++ [fillB s] else L x)
      rw [if_pos rfl]
      exact List.mem_append_right _ (List.mem_singleton.2 rfl)
  · obtain ⟨r, hr⟩ := h.head j hj
    by_cases q : j = x
    · subst q
      exact ⟨r ++ [fillB s], by simp only [if_pos]; rw [hr]; rfl⟩
    · exact ⟨r, by simp only [if_neg q]; exact hr⟩
  · have := h.len j hj
    by_cases q : j = x
    · subst q
      simp only [if_pos, List.length_append, List.length_singleton]
      omega
    · simp only [if_neg q]
      omega
theorem Told.more {D : Dk} {L : Nat → List ByteArray} {B : Nat → ByteArray} {n : Nat} (h : Told D L B n) : Told D L B (n + 1) := ⟨h.wait, h.lasts, h.head, fun j hj => by have := h.len j hj; omega⟩
theorem lastTo_cases (kept : Nat → Bool) (f : Int → Option ByteArray) (l : List S75) (x : Int) : ∀ n, n ≤ l.length → lastTo kept f l n x = f x ∨ ∃ p ∈ l, p.f0 = x ∧ lastTo kept f l n x = some p.f1
  | 0, _ => .inl rfl
  | n + 1, h => by
    simp only [lastTo]
    split
    · unfold upd
      by_cases e : x = (rd_T75 l (n : Int)).f0
      · rw [if_pos e]
        exact .inr ⟨_, rd_mem l n (by omega), e.symm, rfl⟩
      · rw [if_neg e]
        exact lastTo_cases kept f l x n (by omega)
    · exact lastTo_cases kept f l x n (by omega)
theorem lastTo_none (f : Int → Option ByteArray) (l : List S75) (kept : Nat → Bool) (hk : ∀ i, kept i = false) : ∀ n, lastTo kept f l n = f
  | 0 => rfl
  | n + 1 => by
    simp only [lastTo]
    rw [hk n, if_neg (by decide)]
    exact lastTo_none f l kept hk n
theorem keptB_zero (i : Nat) : keptB 0 i = false := by
  unfold keptB
  simp
/-- Behind a failure each sector is as it may be. -/
theorem Told.crash {D : Dk} {L : Nat → List ByteArray} {B : Nat → ByteArray} {n : Nat} {z : Int} (h : Told D L B n) (hv : Live D z) (keep : Int) (j : Nat) (hj : j < 6) :
    seenD { crashD D keep with down := false } j ∈ L j ∧ (keep = 0 → seenD { crashD D keep with down := false } j = B j) := by
  obtain ⟨c, _, ho⟩ := hv
  have e : seenD { crashD D keep with down := false } j = (lastTo (keptB keep) D.lasts D.wait D.wait.length j).getD empty32 := by
    unfold seenD crashD
    rw [ho.down, if_neg (by decide)]
    rfl
  rw [e]
  obtain ⟨r, hr⟩ := h.head j hj
  refine ⟨?_, fun h0 => ?_⟩
  · rcases lastTo_cases (keptB keep) D.lasts D.wait (j : Int) _ (Nat.le_refl _) with h1 | ⟨p, hp, h2, h1⟩
    · rw [h1, h.lasts j hj, hr]
      exact List.mem_cons_self
    · rw [h1]
      obtain ⟨t, ht, e2, hm⟩ := h.wait p hp
      have : t = j := by omega
      subst this
      exact hm
  · subst h0
    rw [lastTo_none _ _ _ keptB_zero]
    exact h.lasts j hj
def anyTo (l : List ByteArray) (s : ByteArray) (k : Nat) : Bool := (l.take k).any (fun y => y.toList == s.toList)
theorem anyTo_succ (l : List ByteArray) (s : ByteArray) (k : Nat) (h : k < l.length) : anyTo l s (k + 1) = (anyTo l s k || ((rdOf ByteArray.empty l (k : Int)).toList == s.toList)) := by
  unfold anyTo
  rw [List.take_succ_eq_append_getElem h, List.any_append]
  simp [rdOf, List.getD, h]
theorem anyTo_all {l : List ByteArray} {s : ByteArray} (h : s ∈ l) : anyTo l s l.length = true := by
  unfold anyTo
  rw [List.take_of_length_le (Nat.le_refl _)]
  exact List.any_eq_true.2 ⟨s, h, beq_self_eq_true _⟩
end Go.Proofs.Ytehodgcfejkomaa.Disk
