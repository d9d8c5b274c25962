/- A disk of sectors beside the document's: whatever is done to both, both answer alike. Plain laws. No condition. -/
import Derived.Test.YtehodgcfejkomaaSeen
import Derived.Test.YtehodgcfejkomaaQx4
import Derived.Laws.Bits64
namespace Go.Proofs.Ytehodgcfejkomaa.Disk
set_option linter.unusedVariables false
set_option linter.unusedSimpArgs false
open Go.RowKit Go.Proofs.Ytehodgcfejkomaa.Q Go.Proofs.YtehodgcfejkomaaW.PrintWords Go.Proofs.YtehodgcfejkomaaW.PrintLast Go.Proofs.YtehodgcfejkomaaW.PrintMore
theorem fill_zero : fillB ⟨#[]⟩ = empty32 := by kernel_rfl
theorem fill_snoc (s : ByteArray) (h : s.size < 32) : fillB (s ++ (⟨#[0]⟩ : ByteArray)) = fillB s := by
  unfold fillB fillL
  rw [ByteArray.size_append, show (⟨#[0]⟩ : ByteArray).size = 1 from rfl, ByteArray.data_append, Array.toList_append, show (⟨#[0]⟩ : ByteArray).data.toList = [0] from rfl, List.append_assoc,
    show 32 - s.size = (32 - (s.size + 1)) + 1 by omega, List.replicate_succ]
  rfl
theorem fill_full (s : ByteArray) (h : s.size = 32) : fillB s = s := by
  apply ByteArray.ext
  rw [← Array.toList_inj]
  show (fillL s).toArray.toList = _
  unfold fillL
  rw [h]
  simp
theorem fill_from : ∀ d k (s : ByteArray), s.size + d = 32 → d < k → snapferryref03_fill.l0 k s = some (fillB s)
  | d, 0, s, _, hk => absurd hk (by omega)
  | 0, k + 1, s, hs, hk => by
    simp only [snapferryref03_fill.l0]
    rw [if_neg (by omega), fill_full s (by omega)]
  | d + 1, k + 1, s, hs, hk => by
    simp only [snapferryref03_fill.l0]
    rw [if_pos (by omega), if_pos (by omega), fill_from d k _ (by rw [ByteArray.size_append]; show s.size + 1 + d = 32; omega) (by omega), fill_snoc s (by omega)]
theorem fill_some (s : ByteArray) (h : s.size ≤ 32) (k : Nat) (hk : 33 ≤ k) : snapferryref03_fill.f k s = some (fillB s) := fill_from (32 - s.size) k s (by omega) (by omega)
/-- What lasts, as a row. -/
structure RowAs (ls : List ByteArray) (f : Int → Option ByteArray) (n : Nat) : Prop where
  len : ls.length = n
  at_ : ∀ x : Nat, x < n → rdOf ByteArray.empty ls (x : Int) = (f x).getD empty32
theorem new_from (n : Nat) (hn : n ≤ 8192) : ∀ d k i, i + d = n → d + 40 ≤ k → snapferryref03_New.l0 k (n : Int) (i : Int) (List.replicate i empty32) 0 0 0 false = some (List.replicate n empty32, [], 0, 0, 0, false)
  | _, 0, _, _, hk => absurd hk (by omega)
  | 0, k + 1, i, hi, hk => by
    simp only [snapferryref03_New.l0]
    rw [if_neg (by omega), show i = n by omega]
  | d + 1, k + 1, i, hi, hk => by
    simp only [snapferryref03_New.l0]
    rw [if_pos (by omega), fill_some _ (Nat.zero_le _) k (by omega)]
    simp only [Option.bind_some]
    rw [fill_zero, if_pos (by rw [List.length_replicate]; omega), show wrap64 ((i : Int) + 1) = ((i + 1 : Nat) : Int) by unfold wrap64; omega, ← List.replicate_succ']
    exact new_from n hn d k (i + 1) (by omega) (by omega)
theorem new_some (n : Nat) (hn : n ≤ 8192) (k : Nat) (hk : 10000 ≤ k) : snapferryref03_New.f k (n : Int) = some (List.replicate n empty32, [], 0, 0, 0, false) := new_from n hn n k 0 (by omega) (by omega)
theorem new_row (n : Nat) : RowAs (List.replicate n empty32) (fun _ => none) n := ⟨List.length_replicate, fun x hx => by unfold rdOf; rw [List.getD_eq_getElem?_getD, Int.toNat_natCast, List.getElem?_replicate, if_pos hx]; rfl⟩
/-- The writes of a row, laid down in a row. -/
def setTo (kept : Nat → Bool) (ls : List ByteArray) (ws : List S75) : Nat → List ByteArray
  | 0 => ls
  | i + 1 => if kept i then (setTo kept ls ws i).set ((rd_T75 ws (i : Int)).f0).toNat (rd_T75 ws (i : Int)).f1 else setTo kept ls ws i
theorem setTo_len (kept : Nat → Bool) (ls : List ByteArray) (ws : List S75) : ∀ i, (setTo kept ls ws i).length = ls.length
  | 0 => rfl
  | i + 1 => by
    simp only [setTo]
    split
    · rw [List.length_set]; exact setTo_len kept ls ws i
    · exact setTo_len kept ls ws i
theorem setTo_row {kept : Nat → Bool} {ls : List ByteArray} {ws : List S75} {f : Int → Option ByteArray} {n : Nat} (h : RowAs ls f n) (hw : ∀ x ∈ ws, 0 ≤ x.f0 ∧ x.f0 < n) : ∀ i, i ≤ ws.length → RowAs (setTo kept ls ws i) (lastTo kept f ws i) n
  | 0, _ => h
  | i + 1, hi => by
    have ih := setTo_row (kept := kept) h hw i (by omega)
    refine ⟨by rw [setTo_len]; exact h.len, fun x hx => ?_⟩
    simp only [setTo, lastTo]
    cases hk : kept i with
    | false => rw [if_neg (by decide), if_neg (by decide)]; exact ih.at_ x hx
    | true =>
      rw [if_pos rfl, if_pos rfl]
      obtain ⟨w0, w1⟩ := hw _ (rd_mem ws i (by omega))
      generalize rd_T75 ws (i : Int) = p at *
      unfold upd rdOf
      rw [List.getD_eq_getElem?_getD, Int.toNat_natCast, List.getElem?_set]
      have hlen := ih.len
      by_cases e : p.f0.toNat = x
      · rw [if_pos e, if_pos (by omega), if_pos (by omega)]
        rfl
      · rw [if_neg e, if_neg (by omega)]
        have := ih.at_ x hx
        unfold rdOf at this
        rw [List.getD_eq_getElem?_getD, Int.toNat_natCast] at this
        exact this
theorem setTo_succ (kept : Nat → Bool) (ls : List ByteArray) (ws : List S75) (i : Nat) : setTo kept ls ws (i + 1) = if kept i then (setTo kept ls ws i).set ((rd_T75 ws (i : Int)).f0).toNat (rd_T75 ws (i : Int)).f1 else setTo kept ls ws i := rfl
theorem keptB_late (keep : Int) (i : Nat) (h : 64 ≤ i) : keptB keep i = false := by
  unfold keptB
  rw [decide_eq_false (by omega)]
  rfl
theorem setTo_late (keep : Int) (ls : List ByteArray) (ws : List S75) (m : Nat) (hm : 64 ≤ m) : ∀ d, setTo (keptB keep) ls ws (m + d) = setTo (keptB keep) ls ws m
  | 0 => rfl
  | d + 1 => by
    rw [← Nat.add_assoc, setTo_succ, keptB_late keep (m + d) (by omega), if_neg (by decide)]
    exact setTo_late keep ls ws m hm d
theorem shr_nat (keep : Int) (i : Nat) (h : i < 64) : shr .u64 keep (i : Int) = keep / 2 ^ i := by
  unfold shr
  rw [Int.toNat_natCast, Nat.min_eq_left (show i ≤ IntKind.u64.bits by show i ≤ 64; omega)]
theorem wrap_nat (i : Nat) (h : i < 64) : IntKind.u64.wrap (i : Int) = (i : Int) := by rw [IntKind.wrap_u64]; omega
theorem bit_tmod (keep : Int) (h0 : 0 ≤ keep) (i : Nat) (h : i < 64) : ((shr .u64 keep (IntKind.u64.wrap (i : Int))).tmod 2 = 1) ↔ keptB keep i = true := by
  have hp : (0 : Int) < 2 ^ i := Int.pow_pos (by decide)
  have e0 : 0 ≤ keep / 2 ^ i := Int.ediv_nonneg h0 (Int.le_of_lt hp)
  rw [wrap_nat i h, shr_nat keep i h, Int.tmod_eq_emod_of_nonneg e0]
  unfold keptB
  rw [decide_eq_true h, Bool.true_and]
  exact decide_eq_true_iff.symm
section
variable {ls : List ByteArray} {ws : List S75} {n : Nat}
theorem fail_from (keep : Int) (h0 : 0 ≤ keep) (hl : ls.length = n) (hw : ∀ x ∈ ws, 0 ≤ x.f0 ∧ x.f0 < n) (hz : ws.length ≤ 1000) (a kk c : Int) (o : Bool) (ls0 : List ByteArray) : ∀ d k i, i + d = ws.length → i ≤ 64 → 2 * d + 2 ≤ k →
    snapferryref03_fail.l0 k keep (setTo (keptB keep) ls ws i) (i : Int) ls0 ws a kk c o = some (setTo (keptB keep) ls ws ws.length, [], 0, 0, c, true)
  | 0, k, i, hi, h64, hk => by
    obtain ⟨k, rfl⟩ : ∃ m, k = m + 2 := ⟨k - 2, by omega⟩
    simp only [snapferryref03_fail.l0, snapferryref03_fail.j1]
    rw [if_neg (by omega), if_neg (by decide), show i = ws.length by omega]
  | d + 1, k, i, hi, h64, hk => by
    obtain ⟨k, rfl⟩ : ∃ m, k = m + 2 := ⟨k - 2, by omega⟩
    simp only [snapferryref03_fail.l0, snapferryref03_fail.j1]
    rw [if_pos (by omega)]
    by_cases h : i < 64
    · have e : IntKind.u64.wrap (i : Int) = (i : Int) := by rw [IntKind.wrap_u64]; omega
      obtain ⟨w0, w1⟩ := hw _ (rd_mem ws i (by omega))
      have ih := fail_from keep h0 hl hw hz a kk c o ls0 d k (i + 1) (by omega) (by omega) (by omega)
      rw [if_pos (by rw [decide_eq_true_iff]; omega), if_pos (by rw [e]; omega), show wrap64 ((i : Int) + 1) = ((i + 1 : Nat) : Int) by unfold wrap64; omega]
      by_cases hb : keptB keep i = true
      · rw [if_pos ((bit_tmod keep h0 i h).2 hb), if_pos (by omega), if_pos (by omega), if_pos w0, if_pos (by rw [setTo_len, hl]; exact w1)]
        simp only [setTo] at ih
        rw [if_pos hb] at ih
        exact ih
      · rw [if_neg (fun e => hb ((bit_tmod keep h0 i h).1 e))]
        simp only [setTo] at ih
        rw [if_neg hb] at ih
        exact ih
    · have hi64 : i = 64 := by omega
      rw [if_neg (by rw [decide_eq_true_iff]; omega), show ws.length = i + (d + 1) by omega, setTo_late keep ls ws i (by omega)]
theorem fail_some (keep : Int) (h0 : 0 ≤ keep) (hl : ls.length = n) (hn : n ≤ 8192) (hw : ∀ x ∈ ws, 0 ≤ x.f0 ∧ x.f0 < n) (hz : ws.length ≤ 1000) (a kk c : Int) (o : Bool) (k : Nat) (hk : 10000 ≤ k) :
    snapferryref03_fail.f k ls ws a kk c o keep = some (setTo (keptB keep) ls ws ws.length, [], 0, 0, c, true) := by
  unfold snapferryref03_fail.f
  simp only [Option.bind_some]
  rw [if_pos (by show 0 + ls.length < _; omega)]
  exact fail_from keep h0 hl hw hz a kk c o ls ws.length k 0 (by omega) (by omega) (by omega)
theorem flush_from (hl : ls.length = n) (hw : ∀ x ∈ ws, 0 ≤ x.f0 ∧ x.f0 < n) (hz : ws.length ≤ 1000) (a kk c : Int) (o : Bool) (ls0 : List ByteArray) : ∀ d k i, i + d = ws.length → d < k →
    snapferryref03_Flush.l0 k (setTo (fun _ => true) ls ws i) (i : Int) ls0 ws a kk c o = some (setTo (fun _ => true) ls ws ws.length, [], a, kk, c, o, 0)
  | _, 0, _, _, hk => absurd hk (by omega)
  | 0, k + 1, i, hi, hk => by
    simp only [snapferryref03_Flush.l0]
    rw [if_neg (by omega), show i = ws.length by omega]
  | d + 1, k + 1, i, hi, hk => by
    obtain ⟨w0, w1⟩ := hw _ (rd_mem ws i (by omega))
    have ih := flush_from hl hw hz a kk c o ls0 d k (i + 1) (by omega) (by omega)
    simp only [snapferryref03_Flush.l0]
    rw [if_pos (by omega), if_pos (by omega), if_pos w0, if_pos (by rw [setTo_len, hl]; exact w1), show wrap64 ((i : Int) + 1) = ((i + 1 : Nat) : Int) by unfold wrap64; omega]
    simp only [setTo, if_true] at ih
    exact ih
theorem read_from (x : Int) (base : ByteArray) (hz : ws.length ≤ 1000) (a kk c : Int) (o : Bool) (ls0 : List ByteArray) : ∀ d k i, i + d = ws.length → d < k →
    snapferryref03_Read.l0 k x ((seenW ws x i).getD base) (i : Int) ls0 ws a kk c o = some ((seenW ws x ws.length).getD base, 0)
  | _, 0, _, _, hk => absurd hk (by omega)
  | 0, k + 1, i, hi, hk => by
    simp only [snapferryref03_Read.l0]
    rw [if_neg (by omega), show i = ws.length by omega]
  | d + 1, k + 1, i, hi, hk => by
    have ih := read_from x base hz a kk c o ls0 d k (i + 1) (by omega) (by omega)
    simp only [snapferryref03_Read.l0]
    rw [if_pos (by omega), if_pos (by omega), show wrap64 ((i : Int) + 1) = ((i + 1 : Nat) : Int) by unfold wrap64; omega]
    simp only [seenW] at ih
    by_cases e : (rd_T75 ws (i : Int)).f0 = x
    · rw [if_pos e] at ih ⊢
      exact ih
    · rw [if_neg e] at ih ⊢
      exact ih
end
/-- The document's disk is this one: its rows beside D. -/
structure Sim (D : Dk) (ls : List ByteArray) (z : Nat) : Prop where
  size : D.size = z
  z1 : z ≤ 8192
  row : RowAs ls D.lasts z
  at0 : 0 ≤ D.at_
  ok : Ok D
  short : D.wait.length ≤ 1000
  c0 : 0 ≤ D.count
  c1 : D.count ≤ 100000
section
variable {D : Dk} {ls : List ByteArray} {z : Nat}
theorem Sim.waits (h : Sim D ls z) : ∀ x ∈ D.wait, 0 ≤ x.f0 ∧ x.f0 < (z : Int) := fun x hx => by
  obtain ⟨_, h1, h2⟩ := h.ok.wait x hx
  rw [h.size] at h2
  exact ⟨h1, h2⟩
theorem Sim.last (h : Sim D ls z) (kept : Nat → Bool) : RowAs (setTo kept ls D.wait D.wait.length) (lastTo kept D.lasts D.wait D.wait.length) z := setTo_row h.row h.waits _ (Nat.le_refl _)
/-- The power fails. -/
theorem Sim.fail (h : Sim D ls z) (hd : D.down = false) (keep : Int) (h0 : 0 ≤ keep) (k : Nat) (hk : 10000 ≤ k) :
    ∃ ls', snapferryref03_fail.f k ls D.wait D.at_ D.keep D.count D.down keep = some (ls', (crashD D keep).wait, (crashD D keep).at_, (crashD D keep).keep, (crashD D keep).count, (crashD D keep).down) ∧ RowAs ls' (crashD D keep).lasts z := by
  refine ⟨setTo (keptB keep) ls D.wait D.wait.length, ?_, ?_⟩
  · rw [fail_some keep h0 h.row.len h.z1 h.waits h.short D.at_ D.keep D.count D.down k hk]
    unfold crashD
    rw [hd, if_neg (by decide)]
    rfl
  · unfold crashD
    rw [hd, if_neg (by decide)]
    exact h.last _
theorem Sim.count (h : Sim D ls z) (hc : D.count + 1 ≤ 100000) : Sim (countD D) ls z := ⟨h.size, h.z1, h.row, h.at0, h.ok.count, h.short, by have := h.c0; show 0 ≤ D.count + 1; omega, hc⟩
/-- An effect. -/
theorem Sim.counted (h : Sim D ls z) (hd : D.down = false) (hc : D.count + 1 ≤ 100000) (k : Nat) (hk : 10000 ≤ k) :
    ∃ ls', snapferryref03_counted.f k ls D.wait D.at_ D.keep D.count D.down = some (ls', (failsD D).wait, (failsD D).at_, (failsD D).keep, (failsD D).count, (failsD D).down, decide (D.at_ = D.count + 1)) ∧ RowAs ls' (failsD D).lasts z := by
  have hw : wrap64 (D.count + 1) = D.count + 1 := by have := h.c0; unfold wrap64; omega
  have h0 := h.c0
  have hf := (h.count hc).fail hd D.keep h.ok.keep0 k hk
  unfold snapferryref03_counted.f failsD
  rw [hw]
  by_cases ha : D.at_ = D.count + 1
  · obtain ⟨ls', h1, h2⟩ := hf
    rw [if_pos (by omega), if_pos ha, if_pos ha, decide_eq_true ha]
    refine ⟨ls', ?_, h2⟩
    have h1' : snapferryref03_fail.f k ls D.wait D.at_ D.keep (D.count + 1) D.down D.keep = _ := h1
    rw [h1']
    rfl
  · rw [if_neg ha, if_neg ha, decide_eq_false ha]
    refine ⟨ls, ?_, h.row⟩
    split <;> rfl
end
structure Sm (D : Dk) (ls : List ByteArray) (z n : Nat) : Prop where
  size : D.size = z
  z1 : z ≤ 8192
  row : RowAs ls D.lasts z
  at0 : 0 ≤ D.at_
  fit : Fit D n
theorem Sm.sim {D : Dk} {ls : List ByteArray} {z n : Nat} (h : Sm D ls z n) (hn : n ≤ 1000) : Sim D ls z :=
  ⟨h.size, h.z1, h.row, h.at0, h.fit.ok, by have := h.fit.room; omega, h.fit.c0, by have := h.fit.c1; omega⟩
theorem crash_size (D : Dk) (keep : Int) : (crashD D keep).size = D.size := by unfold crashD; split <;> rfl
theorem crash_at (D : Dk) (keep : Int) (h : 0 ≤ D.at_) : 0 ≤ (crashD D keep).at_ := by
  unfold crashD
  split
  · exact h
  · exact Int.le_refl 0
theorem fails_size (D : Dk) : (failsD D).size = D.size := by
  unfold failsD
  split
  · exact crash_size _ _
  · rfl
theorem fails_at (D : Dk) (h : 0 ≤ D.at_) : 0 ≤ (failsD D).at_ := by
  unfold failsD
  split
  · exact crash_at _ _ h
  · exact h
theorem crash_down {D : Dk} {keep : Int} (h : D.down = false) : (crashD D keep).down = true := by
  unfold crashD
  rw [h, if_neg (by decide)]
section
variable {D : Dk} {ls : List ByteArray} {z n : Nat}
theorem Sm.start (h : Sm D ls z n) : Sm { D with down := false } ls z n := ⟨h.size, h.z1, h.row, h.at0, h.fit.start⟩
theorem Sm.mono (h : Sm D ls z n) {m : Nat} (hm : n ≤ m) : Sm D ls z m := ⟨h.size, h.z1, h.row, h.at0, h.fit.mono hm⟩
theorem Sm.arm (h : Sm D ls z n) (ca ck : Int) (h0 : 0 ≤ ck) (h1 : ck < 18446744073709551616) : Sm (armD D ca ck) ls z n :=
  ⟨h.size, h.z1, h.row, by show 0 ≤ (if ca < 1 then 0 else ca); split <;> omega, arm_fit h.fit ca ck h0 h1⟩
theorem Sm.crash (h : Sm D ls z n) (hn : n ≤ 1000) (keep : Int) (h0 : 0 ≤ keep) (k : Nat) (hk : 10000 ≤ k) :
    ∃ ls', snapferryref03_Crash.f k ls D.wait D.at_ D.keep D.count D.down keep = some (ls', (crashD D keep).wait, (crashD D keep).at_, (crashD D keep).keep, (crashD D keep).count, (crashD D keep).down) ∧ Sm (crashD D keep) ls' z n := by
  unfold snapferryref03_Crash.f
  cases hd : D.down with
  | true =>
    have e : crashD D keep = D := by unfold crashD; rw [hd]; rfl
    rw [if_pos rfl, e, hd]
    exact ⟨ls, rfl, h⟩
  | false =>
    obtain ⟨ls', h1, h2⟩ := (h.sim hn).fail hd keep h0 k hk
    rw [hd] at h1
    rw [if_neg (by decide), h1]
    exact ⟨ls', rfl, ⟨(crash_size D keep).trans h.size, h.z1, h2, crash_at D keep h.at0, h.fit.crash keep⟩⟩
theorem Sm.flush (h : Sm D ls z n) (hn : n ≤ 999) (k : Nat) (hk : 10000 ≤ k) :
    ∃ ls', snapferryref03_Flush.f k ls D.wait D.at_ D.keep D.count D.down = some (ls', (flushD D).wait, (flushD D).at_, (flushD D).keep, (flushD D).count, (flushD D).down, flushF D) ∧ Sm (flushD D) ls' z (n + 1) := by
  have hs := h.sim (by omega)
  have hfit := h.fit.flush
  unfold snapferryref03_Flush.f
  cases hd : D.down with
  | true =>
    have e : flushD D = D := by unfold flushD; rw [hd]; rfl
    have e2 : flushF D = 7 := by unfold flushF; rw [hd]; rfl
    rw [if_pos rfl, e, e2, hd]
    exact ⟨ls, rfl, h.mono (by omega)⟩
  | false =>
    obtain ⟨ls', h1, h2⟩ := hs.counted hd (by have := h.fit.c1; omega) k hk
    rw [hd] at h1
    rw [if_neg (by decide), h1]
    simp only [Option.bind_some]
    by_cases ha : D.at_ = D.count + 1
    · have e : flushD D = failsD D := by unfold flushD; rw [hd, if_neg (by decide), if_pos ha]
      have e2 : flushF D = 7 := by unfold flushF; rw [hd, if_neg (by decide), if_pos ha]
      rw [if_pos (decide_eq_true ha), e, e2]
      rw [e] at hfit
      exact ⟨ls', rfl, ⟨(fails_size D).trans h.size, h.z1, h2, fails_at D h.at0, hfit⟩⟩
    · have e0 : failsD D = countD D := by unfold failsD; rw [if_neg ha]
      have e : flushD D = lastD (countD D) (fun _ => true) := by unfold flushD; rw [hd, if_neg (by decide), if_neg ha]
      have e2 : flushF D = 0 := by unfold flushF; rw [hd, if_neg (by decide), if_neg ha]
      have hc : Sim (countD D) ls' z := ⟨h.size, h.z1, by rw [e0] at h2; exact h2, h.at0, h.fit.ok.count, hs.short, by have := h.fit.c0; show 0 ≤ D.count + 1; omega, by have := h.fit.c1; show D.count + 1 ≤ 100000; omega⟩
      rw [if_neg (by rw [decide_eq_false ha]; decide), e0, if_pos (by show 0 + ls'.length < _; rw [h2.len]; have := h.z1; omega), e, e2]
      rw [e] at hfit
      refine ⟨setTo (fun _ => true) ls' D.wait D.wait.length, ?_, ⟨h.size, h.z1, hc.last _, h.at0, hfit⟩⟩
      exact flush_from h2.len hs.waits hs.short D.at_ D.keep (D.count + 1) D.down ls' D.wait.length k 0 (by omega) (by have := hs.short; omega)
theorem Sm.put (h : Sm D ls z n) (hn : n ≤ 990) (x : Int) (s : ByteArray) (k : Nat) (hk : 10001 ≤ k) :
    ∃ ls', snapferryref03_Put.f k ls D.wait D.at_ D.keep D.count D.down x s = some (ls', (writeD D x s).wait, (writeD D x s).at_, (writeD D x s).keep, (writeD D x s).count, (writeD D x s).down, writeF D x s) ∧ Sm (writeD D x s) ls' z (n + 2) := by
  obtain ⟨k, rfl⟩ : ∃ m, k = m + 1 := ⟨k - 1, by omega⟩
  have hs := h.sim (by omega)
  have hfit := h.fit.write x s
  unfold snapferryref03_Put.f
  by_cases hd : D.down = true
  · have e : writeD D x s = D := by unfold writeD; rw [if_pos hd]
    have e2 : writeF D x s = 7 := by unfold writeF; rw [if_pos hd]
    rw [if_pos hd, e, e2]
    exact ⟨ls, rfl, h.mono (by omega)⟩
  · rw [if_neg hd]
    have hd' : D.down = false := by simpa using hd
    by_cases hr : x < 0 ∨ D.size ≤ x
    · have e : writeD D x s = D := by unfold writeD; rw [if_neg hd, if_pos hr]
      have e2 : writeF D x s = 1 := by unfold writeF; rw [if_neg hd, if_pos hr]
      rw [e, e2]
      refine ⟨ls, ?_, h.mono (by omega)⟩
      simp only [snapferryref03_Put.j0]
      by_cases h0 : x < 0
      · rw [if_pos h0]; exact if_pos trivial
      · rw [if_neg h0, if_pos (by rw [decide_eq_true_iff, h.row.len]; have := h.size; omega)]
    · have hx : ¬ x < 0 := fun e => hr (.inl e)
      have hx2 : ¬ (decide (x ≥ (ls.length : Int)) = true) := by rw [decide_eq_true_iff, h.row.len]; have := h.size; omega
      rw [if_neg hx]
      simp only [snapferryref03_Put.j0]
      rw [if_neg hx2]
      by_cases hz : 32 < s.size
      · have e : writeD D x s = D := by unfold writeD; rw [if_neg hd, if_neg hr, if_pos hz]
        have e2 : writeF D x s = 3 := by unfold writeF; rw [if_neg hd, if_neg hr, if_pos hz]
        rw [if_pos (by omega), e, e2]
        exact ⟨ls, rfl, h.mono (by omega)⟩
      · have hp : Sim (putD D x s) ls z := ⟨h.size, h.z1, h.row, h.at0, putD_ok h.fit.ok (by omega) (by omega) (by omega), by
            show (D.wait ++ [_]).length ≤ 1000
            rw [List.length_append, List.length_singleton]
            have := h.fit.room
            omega, h.fit.c0, by have := h.fit.c1; show D.count ≤ 100000; omega⟩
        have e : writeD D x s = failsD (putD D x s) := by unfold writeD; rw [if_neg hd, if_neg hr, if_neg hz]
        have e2 : writeF D x s = if D.at_ = D.count + 1 then 7 else 0 := by unfold writeF; rw [if_neg hd, if_neg hr, if_neg hz]
        obtain ⟨ls', h1, h2⟩ := hp.counted hd' (by have := h.fit.c1; show D.count + 1 ≤ 100000; omega) k (by omega)
        have h1' : snapferryref03_counted.f k ls (D.wait ++ [(⟨x, fillB s⟩ : S75)]) D.at_ D.keep D.count D.down = _ := h1
        have hl := hs.short
        rw [if_neg (by omega)]
        simp only [Option.bind_some, List.nil_append, List.length_nil]
        rw [if_pos (by omega), fill_some s (by omega) k (by omega)]
        simp only [Option.bind_some]
        rw [if_pos (by omega), h1']
        simp only [Option.bind_some]
        rw [e] at hfit
        have hS : Sm (failsD (putD D x s)) ls' z (n + 2) := ⟨(fails_size _).trans h.size, h.z1, h2, fails_at _ h.at0, hfit⟩
        rw [e, e2]
        by_cases ha : D.at_ = D.count + 1
        · rw [if_pos (show decide ((putD D x s).at_ = (putD D x s).count + 1) = true from decide_eq_true ha), if_pos ha]
          exact ⟨ls', rfl, hS⟩
        · rw [if_neg (show ¬ decide ((putD D x s).at_ = (putD D x s).count + 1) = true by rw [decide_eq_true_iff]; exact ha), if_neg ha]
          exact ⟨ls', rfl, hS⟩
theorem Sm.read (h : Sm D ls z n) (hn : n ≤ 1000) (x : Int) (k : Nat) (hk : 10001 ≤ k) : snapferryref03_Read.f k ls D.wait D.at_ D.keep D.count D.down x = some (readS D x, readF D x) := by
  obtain ⟨k, rfl⟩ : ∃ m, k = m + 1 := ⟨k - 1, by omega⟩
  have hs := h.sim hn
  unfold snapferryref03_Read.f readS readF
  by_cases hd : D.down = true
  · rw [if_pos hd, if_pos hd, if_pos hd]
  · rw [if_neg hd, if_neg hd, if_neg hd]
    simp only [snapferryref03_Read.j0]
    by_cases hr : x < 0 ∨ D.size ≤ x
    · rw [if_pos hr, if_pos hr]
      by_cases h0 : x < 0
      · rw [if_pos h0]; exact if_pos trivial
      · rw [if_neg h0, if_pos (by rw [decide_eq_true_iff, h.row.len]; have := h.size; omega)]
    · have hz := h.size
      obtain ⟨j, rfl⟩ : ∃ j : Nat, x = (j : Int) := ⟨x.toNat, by omega⟩
      rw [if_neg hr, if_neg hr, if_neg (by omega), if_neg (by rw [decide_eq_true_iff, h.row.len]; omega), if_pos (by omega), if_pos (by rw [h.row.len]; omega)]
      have hr := read_from (ws := D.wait) (j : Int) (rdOf ByteArray.empty ls (j : Int)) hs.short D.at_ D.keep D.count D.down ls D.wait.length k 0 (by omega) (by have := hs.short; omega)
      have e : seenD D (j : Int) = (seenW D.wait (j : Int) D.wait.length).getD (rdOf ByteArray.empty ls (j : Int)) := by
        unfold seenD
        rw [h.row.at_ j (by omega)]
        cases seenW D.wait (j : Int) D.wait.length <;> rfl
      rw [e]
      exact hr
theorem Sm.new (z : Nat) (h1 : 1 ≤ z) (h2 : z ≤ 8192) : Sm (newD z) (List.replicate z empty32) z 0 := ⟨rfl, h2, new_row z, Int.le_refl 0, newD_fit (by omega) (by omega)⟩
end
end Go.Proofs.Ytehodgcfejkomaa.Disk
