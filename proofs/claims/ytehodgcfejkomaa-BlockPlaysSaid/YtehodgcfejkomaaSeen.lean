/- A disk of sectors, plainly: what is read of it behind a write, a flush, a failure; acts that are few. No condition. -/
import Derived.Test.YtehodgcfejkomaaCounts
namespace Go.Proofs.Ytehodgcfejkomaa.Disk
set_option linter.unusedVariables false
set_option linter.unusedSimpArgs false
open Go.RowKit Go.Proofs.Ytehodgcfejkomaa.Q Go.Proofs.YtehodgcfejkomaaW.PrintWords Go.Proofs.YtehodgcfejkomaaW.PrintMore
/-- It is on, and no cut waits. -/
def Live (D : Dk) (z : Int) : Prop := ∃ cnt : Int, 0 ≤ cnt ∧ On D 0 0 cnt z
section
variable {D : Dk} {z : Int}
theorem Live.new (z : Int) : Live (newD z) z := ⟨0, Int.le_refl 0, rfl, rfl, rfl, rfl, rfl⟩
theorem Live.fails (h : Live D z) : failsD D = countD D ∧ Live (countD D) z := by
  obtain ⟨c, h0, ho⟩ := h
  have e : failsD D = countD D := by unfold failsD; rw [if_neg (by rw [ho.at_, ho.count]; omega)]
  exact ⟨e, c + 1, by omega, e ▸ ho.fails_miss (by omega)⟩
theorem Live.flush (h : Live D z) : flushF D = 0 ∧ flushD D = lastD (countD D) (fun _ => true) ∧ Live (flushD D) z := by
  obtain ⟨c, h0, ho⟩ := h
  have hm := ho.flush_miss (by omega)
  refine ⟨hm.1, ?_, c + 1, by omega, hm.2⟩
  unfold flushD
  rw [ho.down, if_neg (by decide), if_neg (by rw [ho.at_, ho.count]; omega)]
theorem Live.write_in (h : Live D z) {x : Int} (h0 : 0 ≤ x) (h1 : x < z) {s : ByteArray} (hs : s.size ≤ 32) : writeF D x s = 0 ∧ writeD D x s = countD (putD D x s) ∧ Live (writeD D x s) z := by
  obtain ⟨c, hc, ho⟩ := h
  have hm := ho.write_miss (by omega) h0 h1 hs
  refine ⟨hm.1, ?_, c + 1, by omega, hm.2⟩
  unfold writeD failsD
  rw [ho.down, if_neg (by decide), if_neg (by rw [ho.size]; omega), if_neg (by omega), if_neg (by show ¬ D.at_ = D.count + 1; rw [ho.at_, ho.count]; omega)]
/-- A write that is not taken. -/
theorem Live.write_out (h : Live D z) {x : Int} {s : ByteArray} (ho : x < 0 ∨ z ≤ x ∨ 32 < s.size) : (writeF D x s = 1 ∨ writeF D x s = 3) ∧ writeD D x s = D := by
  obtain ⟨c, hc, hon⟩ := h
  unfold writeF writeD
  rw [hon.down, hon.size]
  by_cases h1 : x < 0 ∨ z ≤ x
  · simp [h1]
  · have h2 : 32 < s.size := by omega
    simp [h1, h2]
theorem Live.write (h : Live D z) (x : Int) (s : ByteArray) : Live (writeD D x s) z := by
  by_cases ho : x < 0 ∨ z ≤ x ∨ 32 < s.size
  · rw [(h.write_out ho).2]; exact h
  · exact (h.write_in (by omega) (by omega) (by omega)).2.2
theorem Live.reads (h : Live D z) (x : Int) (h0 : 0 ≤ x) (h1 : x < z) : readF D x = 0 ∧ readS D x = seenD D x := by
  obtain ⟨c, hc, ho⟩ := h
  unfold readF readS
  rw [ho.down, if_neg (by decide), if_neg (by rw [ho.size]; omega), if_neg (by decide), if_neg (by rw [ho.size]; omega)]
  exact ⟨rfl, rfl⟩
end
theorem seenW_take (l r : List S75) (x : Int) : ∀ n, n ≤ l.length → seenW (l ++ r) x n = seenW l x n
  | 0, _ => rfl
  | n + 1, h => by
    have e : rd_T75 (l ++ r) (n : Int) = rd_T75 l (n : Int) := by
      unfold rd_T75
      rw [List.getD_eq_getElem?_getD, List.getD_eq_getElem?_getD, Int.toNat_natCast, List.getElem?_append_left (by omega)]
    simp only [seenW]
    rw [e, seenW_take l r x n (by omega)]
/-- A write is seen at its sector alone. -/
theorem seen_put (D : Dk) (x y : Int) (s : ByteArray) : seenD (countD (putD D x s)) y = if y = x then fillB s else seenD D y := by
  unfold seenD
  show (((seenW (D.wait ++ [(⟨x, fillB s⟩ : S75)]) y (D.wait ++ [(⟨x, fillB s⟩ : S75)]).length).or (D.lasts y)).getD empty32) = _
  rw [List.length_append, List.length_singleton]
  simp only [seenW]
  have e : rd_T75 (D.wait ++ [(⟨x, fillB s⟩ : S75)]) (D.wait.length : Int) = ⟨x, fillB s⟩ := by
    unfold rd_T75
    rw [List.getD_eq_getElem?_getD, Int.toNat_natCast, List.getElem?_append_right (Nat.le_refl _), Nat.sub_self]
    rfl
  rw [e, seenW_take _ _ _ _ (Nat.le_refl _)]
  by_cases h : y = x
  · rw [if_pos h.symm, if_pos h]; rfl
  · rw [if_neg (fun e => h e.symm), if_neg h]
theorem lastTo_all (f : Int → Option ByteArray) (l : List S75) (x : Int) : ∀ n, lastTo (fun _ => true) f l n x = (seenW l x n).or (f x)
  | 0 => rfl
  | n + 1 => by
    simp only [lastTo, seenW, if_true]
    unfold upd
    by_cases h : x = (rd_T75 l (n : Int)).f0
    · rw [if_pos h, if_pos h.symm]; rfl
    · rw [if_neg h, if_neg (fun e => h e.symm)]
      exact lastTo_all f l x n
/-- A flush changes nothing that is seen. -/
theorem seen_last (D : Dk) (x : Int) : seenD (lastD (countD D) (fun _ => true)) x = seenD D x := by
  unfold seenD
  show ((Option.or none (lastTo (fun _ => true) D.lasts D.wait D.wait.length x)).getD empty32) = _
  rw [lastTo_all]
  rfl
theorem seenW_size {l : List S75} (hl : ∀ x ∈ l, x.f1.size = 32) (x : Int) : ∀ n, n ≤ l.length → ∀ s, seenW l x n = some s → s.size = 32
  | 0, _, s, h => by simp [seenW] at h
  | n + 1, hn, s, h => by
    simp only [seenW] at h
    by_cases e : (rd_T75 l (n : Int)).f0 = x
    · rw [if_pos e] at h
      injection h with h
      rw [← h]
      exact hl _ (rd_mem l n (by omega))
    · rw [if_neg e] at h
      exact seenW_size hl x n (by omega) s h
theorem seen_size {D : Dk} (h : Ok D) (x : Int) : (seenD D x).size = 32 := by
  unfold seenD
  cases h1 : seenW D.wait x D.wait.length with
  | some s => exact seenW_size (fun x hx => (h.wait x hx).1) x _ (Nat.le_refl _) s h1
  | none =>
    cases h2 : D.lasts x with
    | some s => exact h.lasts x s h2
    | none => rfl
theorem fill_head (s : ByteArray) : (fillB s).extract 0 s.size = s := by
  apply ByteArray.ext
  rw [← Array.toList_inj, ByteArray.data_extract, Array.toList_extract, List.extract_eq_take_drop, List.drop_zero, Nat.sub_zero]
  show (fillL s).toArray.toList.take s.size = _
  unfold fillL
  rw [List.take_append_of_le_length (by rw [← Lib.size_eq]; exact Nat.le_refl _), List.take_of_length_le (by rw [← Lib.size_eq]; exact Nat.le_refl _)]
/-! ### acts that are few -/
theorem few_from (l : List S33) (hl : l.length ≤ 9223372036854775807) : ∀ d i, i + d = l.length → ∃ k r, snapferrylaw03_Few.l0 k l (i : Int) = some r ∧ (r = true → i ≤ 200 → l.length ≤ 200)
  | 0, i, h => ⟨1, true, by simp only [snapferrylaw03_Few.l0]; rw [if_neg (by omega)], fun _ _ => by omega⟩
  | d + 1, i, h => by
    by_cases h1 : (i : Int) ≥ 200
    · exact ⟨1, false, by simp only [snapferrylaw03_Few.l0]; rw [if_pos (by omega), if_pos h1], fun h => absurd h (by decide)⟩
    · by_cases h2 : (((rd_T33 l (i : Int)).f2).size : Int) > 300
      · exact ⟨1, false, by simp only [snapferrylaw03_Few.l0]; rw [if_pos (by omega), if_neg h1, if_pos (by omega), if_pos h2], fun h => absurd h (by decide)⟩
      · obtain ⟨k, r, hk, hr⟩ := few_from l hl d (i + 1) (by omega)
        refine ⟨k + 1, r, ?_, fun h _ => hr h (by omega)⟩
        simp only [snapferrylaw03_Few.l0]
        rw [if_pos (by omega), if_neg h1, if_pos (by omega), if_neg h2, show wrap64 ((i : Int) + 1) = ((i + 1 : Nat) : Int) by unfold wrap64; omega]
        exact hk
theorem few_or (l : List S33) (hl : l.length ≤ 9223372036854775807) : (∃ k, snapferrylaw03_Few.f k l = some true ∧ l.length ≤ 200) ∨ ∃ k, snapferrylaw03_Few.f k l = some false := by
  obtain ⟨k, r, hk, hr⟩ := few_from l hl l.length 0 (Nat.zero_add _)
  cases r with
  | true => exact .inl ⟨k, hk, hr rfl (by omega)⟩
  | false => exact .inr ⟨k, hk⟩
/-! ### another block of the call's own -/
theorem Disk.set_other {w0 w : World} {g b q : Nat} {D : Dk} {c : Array Value} {T : Nat} {f : Nat × Nat} (h : Disk w0 w g b D) (hq : w.heap[q]? = some (Obj.cells c T f)) (h1 : T ≠ 65) (h2 : T ≠ 69) (hge : w0.heap.size ≤ q) (j : Nat) (u : Value) :
    Disk w0 (w.setCell ⟨q, j, none⟩ u) g b D := by
  obtain ⟨v, h⟩ := h
  have hqg : g ≠ q := by
    rintro rfl
    rw [h.blk] at hq
    injection hq with hq
    injection hq with _ hq
    exact h1 hq.symm
  refine ⟨v, (Below.heap_setCell _ _ _ _ hqg).trans h.blk, h.ge, h.geb, ?_, wait_move h.wait (fun k hk => Below.heap_setCell _ _ _ _ ?_), Below.setCell h.below hge u⟩
  · obtain ⟨M, hM, hl⟩ := h.lasts
    refine ⟨M, hM.setCell (a := ⟨q, j, none⟩) ?_ u, hl⟩
    show b ≠ q
    rintro rfl
    obtain ⟨es, cl, hb, _⟩ := hM
    rw [hq] at hb
    cases hb
  · show k ≠ q
    rintro rfl
    obtain ⟨c1, h3⟩ := own_typed (Kd.R_own h.wait).choose_spec k hk
    rw [hq] at h3
    injection h3 with h3
    injection h3 with _ h3
    exact h2 h3
end Go.Proofs.Ytehodgcfejkomaa.Disk
