/- A disk of sectors: a sector is written, and read. No condition. -/
import Derived.Test.YtehodgcfejkomaaCrash
import Derived.Lib.BufferWrite
import Derived.Laws.BytesArg
import Derived.Deep.DeepMust
namespace Go.Proofs.Ytehodgcfejkomaa.Disk
set_option linter.unusedVariables false
set_option linter.unusedSimpArgs false
open Go.RowKit Go.Proofs.Ytehodgcfejkomaa.Q Go.Proofs.YtehodgcfejkomaaW.PrintWords Go.Proofs.YtehodgcfejkomaaW.PrintLast Go.Proofs.YtehodgcfejkomaaW.PrintMore
def fillL (s : ByteArray) : List UInt8 := s.data.toList ++ List.replicate (32 - s.size) 0
def fillB (s : ByteArray) : ByteArray := ⟨(fillL s).toArray⟩
def putD (D : Dk) (at_ : Int) (s : ByteArray) : Dk := { D with wait := D.wait ++ [⟨at_, fillB s⟩] }
def writeF (D : Dk) (at_ : Int) (s : ByteArray) : Int := if D.down then 7 else if at_ < 0 ∨ D.size ≤ at_ then 1 else if 32 < s.size then 3 else if D.at_ = D.count + 1 then 7 else 0
def writeD (D : Dk) (at_ : Int) (s : ByteArray) : Dk := if D.down then D else if at_ < 0 ∨ D.size ≤ at_ then D else if 32 < s.size then D else failsD (putD D at_ s)
theorem fillL_length {s : ByteArray} (h : s.size ≤ 32) : (fillL s).length = 32 := by
  unfold fillL
  rw [List.length_append, List.length_replicate, ← Lib.size_eq]
  omega
theorem fillB_size {s : ByteArray} (h : s.size ≤ 32) : (fillB s).size = 32 := by
  show (fillL s).toArray.size = 32
  rw [List.size_toArray, fillL_length h]
def zs32 : Array Value := Array.replicate 32 (.int .u8 0)
def cells32 (s : ByteArray) : Array Value := ((fillL s).map fun b => Value.int .u8 (b.toNat : Int)).toArray
theorem make32 (w : World) : (Instr.makeSlice 67 (Value.int IntKind.i64 32) (Value.int IntKind.i64 32)).run Try.prog w = .ok (.slice (some ⟨w.heap.size, 0, none⟩) 32 32) (w.alloc (.cells zs32 5)) := by kernel_rfl
theorem cells_fill {s : ByteArray} (h : s.size ≤ 32) : (Lib.byteCells s.data.toList ++ zs32.toList.drop s.size).toArray = cells32 s := by
  unfold cells32 fillL zs32 Lib.byteCells
  rw [List.map_append, List.map_replicate, Array.toList_replicate, List.drop_replicate]
  rfl
section
variable {P : Program} {ops : Array Oper} {rest : List Oper} {o : Oper} {a : Act} {Q : Exit → Act → World → Prop}
theorem wpList_copy_text (w : World) (hg : o.guard = none) (x y : Operand) (dT sT elem : TypeId) (hop : o.op = Op.call { callee := Callee.builtin Builtin.copy, args := #[x, y], argTypes := #[dT, sT] })
    (hu : P.underlying dT = some (.slice elem)) (hs : (P.info? elem).map (·.size) = some 1) (g dLen dCap : Nat) (s : ByteArray) (cur : Array Value) (t : TypeId) (hx : a.eval x = .slice (some ⟨g, 0, none⟩) dLen dCap) (hy : a.eval y = .string s)
    (hb : w.heap[g]? = some (.cells cur t (0, 0))) (hle : s.size ≤ dLen) (hfit : s.size ≤ cur.size)
    (h : ∀ w', w'.heap[g]? = some (.cells (Lib.byteCells s.data.toList ++ cur.toList.drop s.size).toArray t (0, 0)) → w.grownBy w' (some g) → wpList P ops Q rest (a.put o.dst (goInt s.size)) w') :
    wpList P ops Q (o :: rest) a w := by
  refine wpList_plain hg fun K' hK' => ?_
  have hrun := Lib.run_copy_row_string (P := P) w dT sT o.type elem g 0 dLen dCap s cur t hu hs hb hle (by omega)
  unfold Oper.wp
  simp [execOp, hop, resolve, invoke, builtin, hx, hy, hrun, Result.andThen]
  refine hK' _ _ (h _ ?_ ?_)
  · rw [setRow_heap _ _ _ _ _ _ hb]
  · refine ⟨rfl, rfl, rfl, by simp, fun k hk hne => ?_⟩
    unfold World.setRow
    rw [Array.getElem?_modify, if_neg (fun e => hne (by rw [e]))]
end
theorem info69 : (Try.prog.info? 69).map (fun i => (i.zero, i.size, i.bytes)) = some (some (.agg #[(.int .i64 0), (.string ⟨#[]⟩)]), 2, 24) := by kernel_rfl
theorem conv32 {W : World} {h : Nat} {s : ByteArray} (hz : s.size ≤ 32) (hb : W.heap[h]? = some (.cells (cells32 s) 5 (0, 0))) : (convert 67 9 (.slice (some ⟨h, 0, none⟩) 32 32)).run Try.prog W = .ok (.string (fillB s)) W := by
  have hl := fillL_length hz
  have h2 := run_convert_bytes_arg (P := Try.prog) W 67 5 Try.underlying67 Try.underlying5 h 0 32 32 ((fillL s).map fun b => (b.toNat : Int)) (by rw [List.length_map, hl]) (fun i hi => by
    rw [Nat.zero_add, blk_cell hb]
    have hi' : i < (fillL s).length := by omega
    simp [cells32, List.getD, hi']) 9 Try.underlying9
  rw [h2]
  congr 2
  unfold strOfNums fillB
  simp [Function.comp_def]
theorem hd_block {w0 W W' : World} {g b : Nat} {v : Value} {D : Dk} (h : DiskAt w0 W g b v D) (hg : W.drew.grownBy W' v.ownBlock) : W'.heap[g]? = some (.cells (cellsD D b v) 65 (0, 0)) :=
  (hg.block g (heap_lt (blk_drew h.blk)) (fun e => h.nev g e.symm rfl)).trans (blk_drew h.blk)
theorem DiskAt.appended {w0 W w9 : World} {g b : Nat} {v v9 : Value} {D : Dk} {x : S75} (h : DiskAt w0 W g b v D) (ho : Kd.R k75 69 w9 w0.heap.size (fun _ => True) v9 (D.wait ++ [x])) (hb : Below w0.heap.size w0 w9) (hg : W.drew.grownBy w9 v.ownBlock)
    (hat : v9.ownBlock = v.ownBlock ∨ ∃ k, v9.ownBlock = some k ∧ W.heap.size ≤ k) : DiskAt w0 (w9.setCell ⟨g, 2, none⟩ v9) g b v9 { D with wait := D.wait ++ [x] } ∧ Keeps W (w9.setCell ⟨g, 2, none⟩ v9) := by
  have hG := hd_block h hg
  refine ⟨⟨blk_set hG 2 v9, h.ge, h.geb, ?_, wait_move ho (fun k hk => Below.heap_setCell _ _ _ _ ?_), Below.setCell hb h.ge v9⟩, ?_⟩
  · obtain ⟨M, hM, hl⟩ := h.lasts
    exact ⟨M, (hM.drew.kept hg (fun e => h.nevb b e.symm rfl)).setCell h.neb v9, hl⟩
  · rcases hat with hat | ⟨q, hq, hlt⟩
    · exact h.nev k (hat ▸ hk)
    · have := h.lt
      rw [hk] at hq
      injection hq with hq
      show k ≠ g
      omega
  · refine ⟨by simpa using hg.size, fun k c T f hk h1 h2 => ?_⟩
    have hkg : k ≠ g := by
      rintro rfl
      rw [h.blk] at hk
      injection hk with hk
      injection hk with _ hk
      exact h1 hk.symm
    refine (Below.heap_setCell _ _ _ _ hkg).trans (hg.block k (heap_lt hk) ?_)
    intro e
    obtain ⟨c1, h3⟩ := own_typed (Kd.R_own h.wait).choose_spec k e.symm
    rw [hk] at h3
    injection h3 with h3
    injection h3 with _ h3
    exact h2 h3
theorem putD_ok {D : Dk} (h : Ok D) {at_ : Int} {s : ByteArray} (hs : s.size ≤ 32) (h0 : 0 ≤ at_) (h1 : at_ < D.size) : Ok (putD D at_ s) :=
  ⟨h.size0, h.size1, fun x hx => by
    rcases List.mem_append.1 hx with hx | hx
    · exact h.wait x hx
    · obtain rfl := List.mem_singleton.1 hx
      exact ⟨fillB_size hs, h0, h1⟩, h.lasts, h.keep0, h.keep1⟩
set_option maxHeartbeats 4000000 in
theorem write_calls {w0 w : World} {g b : Nat} {v : Value} {D : Dk} (h : DiskAt w0 w g b v D) (ok : Ok D) (hs : D.stores + D.wait.length < 900000) (h0 : 0 ≤ D.count) (h1 : D.count < 1000000) (at_ : Int) (s : ByteArray) :
    Calls Try.prog 11 #[.pointer (some ⟨g, 0, none⟩), .int .i64 at_, .string s] w fun e w' => e = .returned (.int .i64 (writeF D at_ s)) ∧ Turned w0 w g b (writeD D at_ s) w' := by
  have hu65 := Try.underlying65
  have hu69 := Try.underlying69
  have HB := Aside0.mk (⟨hs, ok, h0, h1⟩ : _ ∧ _ ∧ _ ∧ _)
  have H := Aside0.mk h
  clear ok hs h0 h1 h
  by_cases ha : D.down = true ∨ at_ < 0 ∨ D.size ≤ at_
  · obtain ⟨er, her, hea⟩ : ∃ er : Int, askedF D at_ = er ∧ er ≠ 0 := ⟨_, rfl, by
      unfold askedF
      by_cases h1 : D.down = true
      · rw [if_pos h1]; decide
      · rw [if_neg h1, if_pos (ha.resolve_left h1)]; decide⟩
    have HE := Aside0.mk her
    have HF := Aside0.mk (show writeF D at_ s = er ∧ writeD D at_ s = D by
      rw [← her]
      unfold writeF writeD askedF
      by_cases h1 : D.down = true
      · rw [if_pos h1, if_pos h1, if_pos h1]; exact ⟨rfl, rfl⟩
      · rw [if_neg h1, if_neg h1, if_neg h1, if_pos (ha.resolve_left h1), if_pos (ha.resolve_left h1), if_pos (ha.resolve_left h1)]; exact ⟨rfl, rfl⟩)
    have d1 : (er != 0) = true := by rw [bne_iff_ne]; exact hea
    clear ha her hea
    go_enter Try.func11, Try.ntmps11
    go_wp2_with fail
    refine (asked_calls H.out at_).mono ?_
    rw [HE.out]
    rintro e w1 ⟨rfl, rfl⟩
    go_wp2_with fail
    go_ret
    exact ⟨by rw [HF.out.1]; rfl, by rw [HF.out.2]; exact ⟨⟨v, H.out⟩, Keeps.refl _⟩⟩
  · by_cases hz : 32 < s.size
    · have d1 : decide (32 < s.size) = true := decide_eq_true hz
      have d2 : decide ((32 : Int) < (s.size : Int)) = true := decide_eq_true (by omega)
      have HE := Aside0.mk (show askedF D at_ = 0 by unfold askedF; rw [if_neg (fun e => ha (.inl e)), if_neg (fun e => ha (.inr e))])
      have HF := Aside0.mk (show writeF D at_ s = 3 ∧ writeD D at_ s = D by
        unfold writeF writeD
        rw [if_neg (fun e => ha (.inl e)), if_neg (fun e => ha (.inr e)), if_pos hz, if_neg (fun e => ha (.inl e)), if_neg (fun e => ha (.inr e)), if_pos hz]
        exact ⟨rfl, rfl⟩)
      clear ha hz
      go_enter Try.func11, Try.ntmps11
      go_wp2_with fail
      refine (asked_calls H.out at_).mono ?_
      rw [HE.out]
      rintro e w1 ⟨rfl, rfl⟩
      go_wp2_with fail
      go_ret
      exact ⟨by rw [HF.out.1]; rfl, by rw [HF.out.2]; exact ⟨⟨v, H.out⟩, Keeps.refl _⟩⟩
    · have hzs : s.size ≤ 32 := by omega
      obtain ⟨A, c, rfl⟩ := Kd.R_slice H.out.wait
      have d1 : decide (32 < s.size) = false := decide_eq_false hz
      have d2 : decide ((32 : Int) < (s.size : Int)) = false := decide_eq_false (by omega)
      have HE := Aside0.mk (show askedF D at_ = 0 by unfold askedF; rw [if_neg (fun e => ha (.inl e)), if_neg (fun e => ha (.inr e))])
      have HE2 := Aside0.mk (show writeF D at_ s = (if D.at_ = D.count + 1 then 7 else 0) ∧ writeD D at_ s = failsD (putD D at_ s) by
        unfold writeF writeD
        rw [if_neg (fun e => ha (.inl e)), if_neg (fun e => ha (.inr e)), if_neg hz, if_neg (fun e => ha (.inl e)), if_neg (fun e => ha (.inr e)), if_neg hz]
        exact ⟨rfl, rfl⟩)
      have HR := Aside0.mk (show 0 ≤ at_ ∧ at_ < D.size by
        have : ¬ (at_ < 0 ∨ D.size ≤ at_) := fun e => ha (.inr e)
        omega)
      clear ha hz
      go_enter Try.func11, Try.ntmps11
      go_wp2_with fail
      refine (asked_calls H.out at_).mono ?_
      rw [HE.out]
      rintro e w1 ⟨rfl, rfl⟩
      have hmk := make32 w1
      have info5 : (Try.prog.info? 5).map (·.size) = some 1 := by kernel_rfl
      go_upto_region 8 with ((with_reducible refine gate_builtin (b := .copy) (xs := #[.tmp 21, .tmp 22]) rfl ?_); go_must (refine wpList_copy_text _ rfl (.tmp 21) (.tmp 22) 67 9 5 rfl Try.underlying67 info5 w1.heap.size 32 32 s zs32 5 rfl rfl (blk_new w1 (.cells zs32 5)) hzs (by show s.size ≤ 32; exact hzs) ?_); intro W1 hb1 hg1; have HB1 := Aside0.mk hb1; have HG1 := Aside0.mk hg1; clear hb1 hg1 hmk info5)
      have HW := Aside0.mk (show Below w1.heap.size w1 W1 from (below_alloc (Below.refl _ _) (.cells zs32 5)).grown HG1.out (by simp) (fun k hk => by injection hk with hk; omega))
      have HD := Aside0.mk (H.out.step HW.out)
      have hc2 := HD.out.c2
      have HC := Aside0.mk (show W1.heap[w1.heap.size]? = some (.cells (cells32 s) 5 (0, 0)) by rw [HB1.out, cells_fill hzs])
      have HL := Aside0.mk (show (D.wait.length + 1) * 24 ≤ 140737488355328 by have := HB.out.1; omega)
      try go_wp2_with fail
      --REGION
      refine start_ (n := 14) (S := fun w' => w'.cell? ⟨g, 2, none⟩ = some (.slice A D.wait.length c) ∧ (convert 67 9 (.slice (some ⟨w1.heap.size, 0, none⟩) 32 32)).run Try.prog w' = .ok (.string (fillB s)) w') (ds := [13]) #[false, false, false, false, false, false, false, false, false, false, false, false, false, false] (by kernel_rfl) rfl rfl ⟨hc2, conv32 hzs (blk_drew HC.out)⟩ (fun hHeld => ?_)
      refine pure_ (i := 0) (N := some 24) (v := ?_) (a' := ?_) #[true, false, false, false, false, false, false, false, false, false, false, false, false, false] rfl rfl (by kernel_rfl) (fun _ _ _ h => h) (Or.inl ⟨by rfl, ?_⟩) ?_ ?_
      rotate_left
      · intro w'
        go_simp
        with_reducible rfl
      rotate_left
      · simp only [Act.put, List.setIfInBounds_toArray, List.set_cons_zero, List.set_cons_succ, i64_w, i32_w]
        rfl
      refine pure_ (i := 1) (N := some 25) (v := ?_) (a' := ?_) #[true, true, false, false, false, false, false, false, false, false, false, false, false, false] rfl rfl (by kernel_rfl) (fun _ _ _ h => h) (Or.inl ⟨by rfl, ?_⟩) ?_ ?_
      rotate_left
      · intro w'
        go_simp
        with_reducible rfl
      rotate_left
      · simp only [Act.put, List.setIfInBounds_toArray, List.set_cons_zero, List.set_cons_succ, i64_w, i32_w]
        rfl
      refine pure_ (i := 2) (N := some 26) (v := ?_) (a' := ?_) #[true, true, true, false, false, false, false, false, false, false, false, false, false, false] rfl rfl (by kernel_rfl) (fun _ _ _ h => h) (Or.inl ⟨by rfl, ?_⟩) ?_ ?_
      rotate_left
      · intro w'
        go_simp
        with_reducible rfl
      rotate_left
      · simp only [Act.put, List.setIfInBounds_toArray, List.set_cons_zero, List.set_cons_succ, i64_w, i32_w]
        rfl
      refine pure_ (i := 3) (N := some 27) (v := ?_) (a' := ?_) #[true, true, true, true, false, false, false, false, false, false, false, false, false, false] rfl rfl (by kernel_rfl) (fun _ _ _ h => h) (Or.inl ⟨by rfl, ?_⟩) ?_ ?_
      rotate_left
      · intro w'
        go_simp
        with_reducible rfl
      rotate_left
      · simp only [Act.put, List.setIfInBounds_toArray, List.set_cons_zero, List.set_cons_succ, i64_w, i32_w]
        rfl
      refine take_ (i := 4) (N := some 28) (v := ?_) (a' := ?_) #[true, true, true, true, true, false, false, false, false, false, false, false, false, false] rfl rfl (by kernel_rfl) (fun _ _ _ h => h) (Or.inl ⟨by rfl, ?_⟩) hHeld ?_ ?_
      rotate_left
      · rintro w' ⟨s0, s1⟩
        go_simp
        with_reducible rfl
      rotate_left
      · simp only [Act.put, List.setIfInBounds_toArray, List.set_cons_zero, List.set_cons_succ, i64_w, i32_w]
        rfl
      refine pure_ (i := 5) (N := some 29) (v := ?_) (a' := ?_) #[true, true, true, true, true, true, false, false, false, false, false, false, false, false] rfl rfl (by kernel_rfl) (fun _ _ _ h => h) (Or.inl ⟨by rfl, ?_⟩) ?_ ?_
      rotate_left
      · intro w'
        go_simp
        with_reducible rfl
      rotate_left
      · simp only [Act.put, List.setIfInBounds_toArray, List.set_cons_zero, List.set_cons_succ, i64_w, i32_w]
        rfl
      refine pure_ (i := 6) (N := some 30) (v := ?_) (a' := ?_) #[true, true, true, true, true, true, true, false, false, false, false, false, false, false] rfl rfl (by kernel_rfl) (fun _ _ _ h => h) (Or.inl ⟨by rfl, ?_⟩) ?_ ?_
      rotate_left
      · intro w'
        go_simp
        with_reducible rfl
      rotate_left
      · simp only [Act.put, List.setIfInBounds_toArray, List.set_cons_zero, List.set_cons_succ, i64_w, i32_w]
        rfl
      refine take_ (i := 7) (N := some 31) (v := ?_) (a' := ?_) #[true, true, true, true, true, true, true, true, false, false, false, false, false, false] rfl rfl (by kernel_rfl) (fun _ _ _ h => h) (Or.inl ⟨by rfl, ?_⟩) hHeld ?_ ?_
      rotate_left
      · rintro w' ⟨s0, s1⟩
        go_simp
        with_reducible rfl
      rotate_left
      · simp only [Act.put, List.setIfInBounds_toArray, List.set_cons_zero, List.set_cons_succ, i64_w, i32_w]
        rfl
      refine pure_ (i := 8) (N := some 32) (v := ?_) (a' := ?_) #[true, true, true, true, true, true, true, true, true, false, false, false, false, false] rfl rfl (by kernel_rfl) (fun _ _ _ h => h) (Or.inl ⟨by rfl, ?_⟩) ?_ ?_
      rotate_left
      · intro w'
        go_simp
        with_reducible rfl
      rotate_left
      · simp only [Act.put, List.setIfInBounds_toArray, List.set_cons_zero, List.set_cons_succ, i64_w, i32_w]
        rfl
      refine one_ (i := 9) (N := some 33) #[true, true, true, true, true, true, true, true, true, true, false, false, false, false] rfl rfl (by kernel_rfl) (by decide) (fun K hK => ?_)
      refine value_ (w1 := ?_) (v := ?_) (by rfl) rfl ?_ ?_
      rotate_left 2
      · go_simp
        constructor
        · rfl
        · rfl
      refine hK.out _ _ ⟨(blk_cell (blk_alloc (blk_drew HD.out.blk) _) 2).trans rfl, conv32 hzs (blk_alloc (blk_drew HC.out) _)⟩ (fun hHeld => ?_)
      clear hK K
      refine norm_ (a' := ?_) ?_ ?_
      rotate_left
      · show Act.put _ (some 33) _ = _
        simp only [Act.put, List.setIfInBounds_toArray, List.set_cons_zero, List.set_cons_succ, i64_w, i32_w]
        rfl
      refine one_ (i := 10) (N := some 34) #[true, true, true, true, true, true, true, true, true, true, true, false, false, false] rfl rfl (by kernel_rfl) (by decide) (fun K hK => ?_)
      refine Kd.R_append_step k75 (w0 := w0) w0.heap.size (by rfl) (.tmp 28) (.tmp 33) 63 69 (.agg #[.int .i64 0, .string ⟨#[]⟩]) 24 rfl Try.underlying63 info69 rfl (by decide) (by omega) (.slice A D.wait.length c) D.wait (⟨at_, fillB s⟩ : S75) [.int .i64 at_, .string (fillB s)] (fun _ => True) (fun _ => False) rfl rfl (k75_mkM _ _ _ (⟨at_, fillB s⟩ : S75)) (fun _ hk => hk.elim) (fun _ _ => trivial) (Kd.R_drew HD.out.wait) (Below.drew HD.out.below) HD.out.below.size HL.out ?_
      intro v9 w9 ho9 hb9 hg9 hat9
      have HB9 := Aside0.mk (hd_block HD.out hg9)
      have hx9 := (hg9.block w1.heap.size (heap_lt (blk_drew HC.out)) (fun e => absurd (H.out.vlt _ e.symm) (Nat.lt_irrefl _))).trans (blk_drew HC.out)
      obtain ⟨A9, c9, rfl⟩ := Kd.R_slice ho9
      have HX9 := Aside0.mk (⟨ho9, hb9, hg9, hat9⟩ : _ ∧ _ ∧ _ ∧ _)
      clear ho9 hb9 hg9 hat9
      refine hK.out _ _ ⟨(blk_cell HB9.out 2).trans rfl, conv32 hzs hx9⟩ (fun hHeld => ?_)
      clear hK K
      refine norm_ (a' := ?_) ?_ ?_
      rotate_left
      · show Act.put _ (some 34) _ = _
        simp only [Act.put, List.setIfInBounds_toArray, List.set_cons_zero, List.set_cons_succ, i64_w, i32_w]
        rfl
      refine pure_ (i := 11) (N := some 35) (v := ?_) (a' := ?_) #[true, true, true, true, true, true, true, true, true, true, true, true, false, false] rfl rfl (by kernel_rfl) (fun _ _ _ h => h) (Or.inl ⟨by rfl, ?_⟩) ?_ ?_
      rotate_left
      · intro w'
        go_simp
        with_reducible rfl
      rotate_left
      · simp only [Act.put, List.setIfInBounds_toArray, List.set_cons_zero, List.set_cons_succ, i64_w, i32_w]
        rfl
      refine pure_ (i := 12) (N := some 36) (v := ?_) (a' := ?_) #[true, true, true, true, true, true, true, true, true, true, true, true, true, false] rfl rfl (by kernel_rfl) (fun _ _ _ h => h) (Or.inl ⟨by rfl, ?_⟩) ?_ ?_
      rotate_left
      · intro w'
        go_simp
        with_reducible rfl
      rotate_left
      · simp only [Act.put, List.setIfInBounds_toArray, List.set_cons_zero, List.set_cons_succ, i64_w, i32_w]
        rfl
      refine last_ (i := 13) (N := none) #[true, true, true, true, true, true, true, true, true, true, true, true, true, true] rfl rfl (by kernel_rfl) (by decide) (fun K hK => ?_)
      have hs9 : w9.cell? ⟨g, 2, none⟩ = some (.slice A D.wait.length c) := (blk_cell HB9.out 2).trans rfl
      have hf9 : w9.frozen? ⟨g, 2, none⟩ = false := blk_frozen HB9.out 2
      refine skip_ (w1 := ?_) (by rfl) rfl ?_ ?_
      rotate_left
      · go_simp
        rfl
      refine hK.out _ _ ?_
      clear hK K
      refine done_ (by kernel_rfl) ?_
      --END
      have eL : (D.wait ++ [(⟨at_, fillB s⟩ : S75)]).length = D.wait.length + 1 := by simp
      rw [eL] at HX9
      have HP := Aside0.mk (HD.out.appended HX9.out.1 HX9.out.2.1 HX9.out.2.2.1 HX9.out.2.2.2)
      generalize w9.setCell ⟨g, 2, none⟩ (.slice A9 (D.wait.length + 1) c9) = w10 at *
      clear hx9 HX9 HB9 hc2
      have HQ := Aside0.mk (putD_ok HB.out.2.1 hzs HR.out.1 HR.out.2)
      by_cases c : D.at_ = D.count + 1
      · have HC := Aside0.mk (show decide ((putD D at_ s).at_ = (putD D at_ s).count + 1) = true from decide_eq_true c)
        have HF := Aside0.mk (show writeF D at_ s = 7 ∧ writeD D at_ s = failsD (putD D at_ s) from ⟨by rw [HE2.out.1, if_pos c], HE2.out.2⟩)
        clear c
        go_wp2_with fail
        refine (fails_calls (D := putD D at_ s) HP.out.1 HQ.out (by show D.stores + (D.wait ++ _).length < _; rw [eL]; have := HB.out.1; omega) HB.out.2.2.1 HB.out.2.2.2).mono ?_
        rw [HC.out]
        rintro e w11 ⟨rfl, ht⟩
        have HT := Aside0.mk ht
        clear ht
        go_wp2_with fail
        go_ret
        exact ⟨by rw [HF.out.1]; rfl, by rw [HF.out.2]; exact ⟨HT.out.1, ((Keeps.below HW.out).trans HP.out.2).trans HT.out.2⟩⟩
      · have HC := Aside0.mk (show decide ((putD D at_ s).at_ = (putD D at_ s).count + 1) = false from decide_eq_false c)
        have HF := Aside0.mk (show writeF D at_ s = 0 ∧ writeD D at_ s = failsD (putD D at_ s) from ⟨by rw [HE2.out.1, if_neg c], HE2.out.2⟩)
        clear c
        go_wp2_with fail
        refine (fails_calls (D := putD D at_ s) HP.out.1 HQ.out (by show D.stores + (D.wait ++ _).length < _; rw [eL]; have := HB.out.1; omega) HB.out.2.2.1 HB.out.2.2.2).mono ?_
        rw [HC.out]
        rintro e w11 ⟨rfl, ht⟩
        have HT := Aside0.mk ht
        clear ht
        go_wp2_with fail
        go_ret
        exact ⟨by rw [HF.out.1]; rfl, by rw [HF.out.2]; exact ⟨HT.out.1, ((Keeps.below HW.out).trans HP.out.2).trans HT.out.2⟩⟩
section
variable {ops : Array Oper} {rest : List Oper} {o : Oper} {a : Act} {Q : Exit → Act → World → Prop}
theorem zero9 (w : World) : (zeroValue 9).run Try.prog w = .ok (.string ⟨#[]⟩) w := by kernel_rfl
theorem wpList_lookup_disk {w0 : World} {g b : Nat} {v : Value} {D : Dk} (w : World) (hg : o.guard = none) (m x : Operand) (hop : o.op = Op.lookup 62 m x true)
    (h : DiskAt w0 w g b v D) (at_ : Int) (hw : (Lit.int .i64 at_).wf = true) (hm : a.eval m = .map (some b)) (hx : a.eval x = .int .i64 at_)
    (hK : wpList Try.prog ops Q rest (a.put o.dst (.tuple #[.string ((D.lasts at_).getD ⟨#[]⟩), .bool (D.lasts at_).isSome])) w) : wpList Try.prog ops Q (o :: rest) a w := by
  obtain ⟨M, hM, hl⟩ := h.lasts
  refine wpList_lookup_own_ok w hg m x 62 hop 3 9 keyed Try.underlying62 (plainElem Try.prog 9) (zero9 w) (.lit (.string [])) [] (plainElem_string Try.underlying9 (s := ⟨#[]⟩) (Nat.zero_le _)) b D.stores M hm hM _ (.int .i64 at_) hx (Go.Maps.keyOf_int_mk Try.underlying3 hw) ?_
  intro v' ps hv
  obtain ⟨s, rfl, hz⟩ := plainElem_string_inv Try.underlying9 hv
  obtain ⟨h1, h2⟩ := hl at_ hw
  have e : ∀ u : ByteArray, (DataW.lit (Lit.string u.data.toList) : DataW Unit) = .lit (.string s.data.toList) → s = u := fun u hu => by
    injection hu with hu
    injection hu with hu
    exact ByteArray.ext (Array.toList_inj.1 hu.symm)
  have hz1 : M.atKey (.int .i64 at_) (.lit (.string [])) = .lit (.string s.data.toList) := congrArg Prod.fst hz.1
  cases hf : D.lasts at_ with
  | none =>
    rw [hf] at h1 hK
    have h3 : s = ⟨#[]⟩ := e ⟨#[]⟩ ((Go.Maps.atKey_of_not_has h1 _).symm.trans hz1)
    rw [h1, h3]
    exact hK
  | some u =>
    rw [hf] at h1 hK
    have h3 : s = u := e u ((h2 u hf _).symm.trans hz1)
    rw [h1, h3]
    exact hK
end
/-- What is read of a sector. -/
def seenW (l : List S75) (at_ : Int) : Nat → Option ByteArray
  | 0 => none
  | i + 1 => if (rd_T75 l (i : Int)).f0 = at_ then some (rd_T75 l (i : Int)).f1 else seenW l at_ i
def empty32 : ByteArray := ⟨#[0, 0, 0, 0, 0, 0, 0, 0, 0, 0, 0, 0, 0, 0, 0, 0, 0, 0, 0, 0, 0, 0, 0, 0, 0, 0, 0, 0, 0, 0, 0, 0]⟩
def seenD (D : Dk) (at_ : Int) : ByteArray := ((seenW D.wait at_ D.wait.length).or (D.lasts at_)).getD empty32
def readF (D : Dk) (at_ : Int) : Int := if D.down then 7 else if at_ < 0 ∨ D.size ≤ at_ then 1 else 0
def readS (D : Dk) (at_ : Int) : ByteArray := if D.down then ⟨#[]⟩ else if at_ < 0 ∨ D.size ≤ at_ then ⟨#[]⟩ else seenD D at_
set_option maxHeartbeats 4000000 in
theorem read_calls {w0 w : World} {g b : Nat} {v : Value} {D : Dk} (h : DiskAt w0 w g b v D) (ok : Ok D) (hs : D.wait.length < 1000000) (at_ : Int) (hw : (Lit.int .i64 at_).wf = true) :
    Calls Try.prog 14 #[.pointer (some ⟨g, 0, none⟩), .int .i64 at_] w fun e w' => e = .returned (.tuple #[.string (readS D at_), .int .i64 (readF D at_)]) ∧ w' = w := by
  have hu65 := Try.underlying65
  have hu69 := Try.underlying69
  have HB := Aside0.mk (⟨hs, ok, hw⟩ : _ ∧ _ ∧ _)
  obtain ⟨A, c, rfl⟩ := Kd.R_slice h.wait
  have H := Aside0.mk h
  clear ok hs hw
  by_cases ha : D.down = true ∨ at_ < 0 ∨ D.size ≤ at_
  · obtain ⟨er, her, hea⟩ : ∃ er : Int, askedF D at_ = er ∧ er ≠ 0 := ⟨_, rfl, by
      unfold askedF
      by_cases h1 : D.down = true
      · rw [if_pos h1]; decide
      · rw [if_neg h1, if_pos (ha.resolve_left h1)]; decide⟩
    have HE := Aside0.mk her
    have HF := Aside0.mk (show readF D at_ = er ∧ readS D at_ = ⟨#[]⟩ by
      rw [← her]
      unfold readF readS askedF
      by_cases h1 : D.down = true
      · simp [h1]
      · simp [h1, ha.resolve_left h1])
    have d1 : (er != 0) = true := by rw [bne_iff_ne]; exact hea
    clear ha her hea h
    go_enter Try.func14, Try.ntmps14
    go_wp2_with fail
    refine (asked_calls H.out at_).mono ?_
    rw [HE.out]
    rintro e w1 ⟨rfl, rfl⟩
    go_wp2_with fail
    go_ret2
    exact ⟨by rw [HF.out.1, HF.out.2]; rfl, rfl⟩
  · have HE := Aside0.mk (show askedF D at_ = 0 by unfold askedF; rw [if_neg (fun e => ha (.inl e)), if_neg (fun e => ha (.inr e))])
    have HF := Aside0.mk (show readF D at_ = 0 ∧ readS D at_ = seenD D at_ by
      unfold readF readS
      rw [if_neg (fun e => ha (.inl e)), if_neg (fun e => ha (.inr e)), if_neg (fun e => ha (.inl e)), if_neg (fun e => ha (.inr e))]
      exact ⟨rfl, rfl⟩)
    have hc1 := h.c1
    have hc2 := h.c2
    have hlb : D.wait.length < 1000000 := HB.out.1
    clear ha h
    go_enter Try.func14, Try.ntmps14
    go_wp2_with fail
    refine (asked_calls H.out at_).mono ?_
    rw [HE.out]
    rintro e w1 ⟨rfl, rfl⟩
    go_wp2_with fail
    go_loopg [7] D.wait.length (fun kq v7 wr => ∃ x : Int, v7 = .int .i64 x ∧ Aside0 (x + 1 = (kq : Int) ∧ kq ≤ D.wait.length ∧ seenW D.wait at_ D.wait.length = seenW D.wait at_ kq ∧ wr = w1))
    case atStart => exact ⟨_, rfl, ⟨by omega, Nat.le_refl _, rfl, rfl⟩⟩
    case round =>
      obtain ⟨x, rfl, HA⟩ := hrel
      obtain ⟨hx, hk, hs, rfl⟩ := HA.out
      rcases gk with _ | j
      · obtain rfl : x = -1 := by omega
        have HS := Aside0.mk (show seenW D.wait at_ D.wait.length = none from hs)
        clear hx hk hs
        cases hl : D.lasts at_ with
        | none =>
          have HR := Aside0.mk (show seenD D at_ = empty32 by unfold seenD; rw [HS.out, hl]; rfl)
          have HL := Aside0.mk hl
          clear hl
          go_wp2_with (at_lookup; refine wpList_lookup_disk _ rfl _ _ rfl H.out at_ HB.out.2.2 rfl rfl ?_; rw [HL.out])
          go_ret2
          exact ⟨by rw [HF.out.1, HF.out.2, HR.out]; rfl, rfl⟩
        | some s =>
          have HR := Aside0.mk (show seenD D at_ = s by unfold seenD; rw [HS.out, hl]; rfl)
          have HL := Aside0.mk hl
          clear hl
          go_wp2_with (at_lookup; refine wpList_lookup_disk _ rfl _ _ rfl H.out at_ HB.out.2.2 rfl rfl ?_; rw [HL.out])
          go_ret2
          exact ⟨by rw [HF.out.1, HF.out.2, HR.out]; rfl, rfl⟩
      · obtain rfl : x = (j : Int) := by omega
        obtain ⟨ad, e1, hx0, hx1⟩ := at_T75 (Kd.R_reads' H.out.wait).2.2 (j : Int) (by omega) (by omega)
        cases e1
        have y0 : wr.cell? (ad.add (j * 2)) = some (.int .i64 (rd_T75 D.wait (j : Int)).f0) := hx0
        have y1 : wr.cell? ⟨(ad.add (j * 2)).block, (ad.add (j * 2)).off + 1, none⟩ = some (.string (rd_T75 D.wait (j : Int)).f1) := hx1
        have p104 := eq_true (show 0 ≤ (j : Int) by omega)
        have q104 := eq_true (show j < D.wait.length by omega)
        have hjb : j < 1000000 := by omega
        have HQ := Aside0.mk (show seenW D.wait at_ (j + 1) = if (rd_T75 D.wait (j : Int)).f0 = at_ then some (rd_T75 D.wait (j : Int)).f1 else seenW D.wait at_ j from rfl)
        have HS := Aside0.mk hs
        clear hx hk hs hx0 hx1
        generalize rd_T75 D.wait (j : Int) = X at *
        by_cases c3 : X.f0 = at_
        · have d3 : (X.f0 == at_) = true := beq_iff_eq.2 c3
          have HR := Aside0.mk (show seenD D at_ = X.f1 by unfold seenD; rw [HS.out, HQ.out, if_pos c3]; rfl)
          clear c3
          go_wp2_with fail
          go_ret2
          exact ⟨by rw [HF.out.1, HF.out.2, HR.out]; rfl, rfl⟩
        · have d3 : (X.f0 == at_) = false := beq_eq_false_iff_ne.2 c3
          have HR := Aside0.mk (show seenW D.wait at_ D.wait.length = seenW D.wait at_ j by rw [HS.out, HQ.out, if_neg c3])
          clear c3
          go_wp2_with fail
          go_roundg j
          case measure => omega
          case rel => exact ⟨_, rfl, ⟨by omega, by have := of_eq_true q104; omega, HR.out, rfl⟩⟩
end Go.Proofs.Ytehodgcfejkomaa.Disk
