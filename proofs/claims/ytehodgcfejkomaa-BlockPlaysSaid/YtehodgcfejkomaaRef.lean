/- The document's disk in memory, beside this one. No condition. -/
import Derived.Test.YtehodgcfejkomaaSim
import Derived.Test.YtehodgcfejkomaaRArm
namespace Go.Proofs.Ytehodgcfejkomaa.Disk
set_option linter.unusedVariables false
set_option linter.unusedSimpArgs false
open Go.RowKit Go.Proofs.Ytehodgcfejkomaa.Q Go.Proofs.YtehodgcfejkomaaW.PrintWords Go.Proofs.YtehodgcfejkomaaW.PrintLast Go.Proofs.YtehodgcfejkomaaW.PrintMore
def cellsM (u v : Value) (D : Dk) : Array Value := #[u, v, .int .i64 D.at_, .int .u64 D.keep, .int .i64 D.count, .bool D.down]
/-- The document's disk: its block, its two rows. -/
structure Rf (w0 w : World) (m : Nat) (u v : Value) (D : Dk) (ls : List ByteArray) : Prop where
  blk : w.heap[m]? = some (.cells (cellsM u v D) 49 (0, 0))
  ge : w0.heap.size ≤ m
  ls : Kd.R Kd.string 9 w w0.heap.size (fun _ => True) u ls
  ws : Kd.R k75 75 w w0.heap.size (fun _ => True) v D.wait
/-- A block of this type. -/
def Pt (w : World) (T k : Nat) : Prop := ∃ c, w.heap[k]? = some (.cells c T (0, 0))
theorem lines_any {W : World} {base : Nat} {ok ok' : Nat → Prop} {v : Value} {xs : List ByteArray} (h : Kd.R Kd.string 9 W base ok v xs) (hk : ∀ k, v.ownBlock = some k → ok' k) : Kd.R Kd.string 9 W base ok' v xs := by
  obtain ⟨h0, inner, ho, hr⟩ := h
  exact ⟨hk, inner, ho, hr⟩
theorem acts_any {W : World} {base : Nat} {ok ok' : Nat → Prop} {v : Value} {xs : List S75} (h : Kd.R k75 75 W base ok v xs) (hk : ∀ k, v.ownBlock = some k → ok' k) : Kd.R k75 75 W base ok' v xs := by
  obtain ⟨h0, inner, ho, hr⟩ := h
  refine ⟨hk, inner, ho, hr.imp_ (fun x cs hm => ?_)⟩
  rw [k75_openM hm]
  exact k75_mkM _ _ _ x
theorem lines_move {W W' : World} {base : Nat} {v : Value} {xs : List ByteArray} (h : Kd.R Kd.string 9 W base (fun _ => True) v xs) (hm : ∀ k, v.ownBlock = some k → W'.heap[k]? = W.heap[k]?) : Kd.R Kd.string 9 W' base (fun _ => True) v xs :=
  lines_any (Kd.R_move (lines_any (ok' := fun k => v.ownBlock = some k) h (fun k hk => hk)) hm) (fun _ _ => trivial)
theorem acts_move {W W' : World} {base : Nat} {v : Value} {xs : List S75} (h : Kd.R k75 75 W base (fun _ => True) v xs) (hm : ∀ k, v.ownBlock = some k → W'.heap[k]? = W.heap[k]?) : Kd.R k75 75 W' base (fun _ => True) v xs :=
  acts_any (Kd.R_move (acts_any (ok' := fun k => v.ownBlock = some k) h (fun k hk => hk)) hm) (fun _ _ => trivial)
theorem typed_ne {w : World} {k k' : Nat} {c c' : Array Value} {T T' : Nat} {f f' : Nat × Nat} (h : w.heap[k]? = some (Obj.cells c T f)) (h' : w.heap[k']? = some (Obj.cells c' T' f')) (hn : T ≠ T') : k ≠ k' := by
  rintro rfl
  rw [h] at h'
  injection h' with h'
  injection h' with _ h'
  exact hn h'
section
variable {w0 w w' : World} {m : Nat} {u v : Value} {D : Dk} {ls : List ByteArray}
theorem Rf.uTyped (h : Rf w0 w m u v D ls) (k : Nat) (hk : u.ownBlock = some k) : ∃ c, w.heap[k]? = some (.cells c 9 (0, 0)) := own_typed (Kd.R_own h.ls).choose_spec k hk
theorem Rf.vTyped (h : Rf w0 w m u v D ls) (k : Nat) (hk : v.ownBlock = some k) : ∃ c, w.heap[k]? = some (.cells c 75 (0, 0)) := own_typed (Kd.R_own h.ws).choose_spec k hk
theorem Rf.keeps (h : Rf w0 w m u v D ls) (hk : Keeps w w') : Rf w0 w' m u v D ls :=
  ⟨hk.cells h.blk (by decide) (by decide), h.ge, lines_move h.ls (fun k e => by obtain ⟨c, hc⟩ := h.uTyped k e; exact hk.2 k c 9 (0, 0) hc (by decide) (by decide)), acts_move h.ws (fun k e => by obtain ⟨c, hc⟩ := h.vTyped k e; exact hk.2 k c 75 (0, 0) hc (by decide) (by decide))⟩
theorem Rf.step (h : Rf w0 w m u v D ls) (hb : Below w.heap.size w w') : Rf w0 w' m u v D ls := h.keeps (Keeps.below hb)
theorem Rf.lsP (h : Rf w0 w m u v D ls) : Kd.R Kd.string 9 w w0.heap.size (Pt w 9) u ls := lines_any h.ls (fun k hk => h.uTyped k hk)
theorem Rf.wsP (h : Rf w0 w m u v D ls) : Kd.R k75 75 w w0.heap.size (Pt w 75) v D.wait := acts_any h.ws (fun k hk => h.vTyped k hk)
abbrev KeptR (w w' : World) : Prop := Kept w w' (fun k => Pt w 9 k ∨ Pt w 75 k)
theorem KeptR.cells {k : Nat} {c : Array Value} {T : Nat} (hk : KeptR w w') (h : w.heap[k]? = some (.cells c T (0, 0))) (h1 : T ≠ 9) (h2 : T ≠ 75) : w'.heap[k]? = some (.cells c T (0, 0)) := by
  refine (hk.2 k (heap_lt h) ?_).trans h
  rintro (⟨c', hc⟩ | ⟨c', hc⟩)
  · exact typed_ne h hc h1 rfl
  · exact typed_ne h hc h2 rfl
theorem Disk.keptR {g b : Nat} {D : Dk} (h : Disk w0 w g b D) (hk : KeptR w w') (hb : Below w0.heap.size w0 w') : Disk w0 w' g b D := by
  obtain ⟨v, h⟩ := h
  refine ⟨v, KeptR.cells hk h.blk (by decide) (by decide), h.ge, h.geb, ?_, wait_move h.wait (fun k e => ?_), hb⟩
  · obtain ⟨M, hM, hl⟩ := h.lasts
    refine ⟨M, ?_, hl⟩
    obtain ⟨es, cl, hbk, hr⟩ := hM
    refine ⟨es, cl, (hk.2 b (heap_lt hbk) ?_).trans hbk, hr⟩
    rintro (⟨c', hc⟩ | ⟨c', hc⟩)
    · rw [hbk] at hc; cases hc
    · rw [hbk] at hc; cases hc
  · obtain ⟨c1, h3⟩ := own_typed (Kd.R_own h.wait).choose_spec k e
    exact (KeptR.cells hk h3 (by decide) (by decide)).trans h3.symm
/-- The document's disk stored anew. -/
theorem set6 (hb : w.heap[m]? = some (.cells (cellsM u v D) 49 (0, 0))) (u' v' : Value) (a k c : Int) (o : Bool) :
    ((((((w.setCell ⟨m, 0, none⟩ u').setCell ⟨m, 1, none⟩ v').setCell ⟨m, 2, none⟩ (.int .i64 a)).setCell ⟨m, 3, none⟩ (.int .u64 k)).setCell ⟨m, 4, none⟩ (.int .i64 c)).setCell ⟨m, 5, none⟩ (.bool o)).heap[m]? = some (.cells #[u', v', .int .i64 a, .int .u64 k, .int .i64 c, .bool o] 49 (0, 0)) :=
  blk_set (blk_set (blk_set (blk_set (blk_set (blk_set hb 0 u') 1 v') 2 _) 3 _) 4 _) 5 _
theorem Disk.set49 {g b : Nat} {D : Dk} {c : Array Value} (h : Disk w0 w g b D) (hb : w.heap[m]? = some (.cells c 49 (0, 0))) (hge : w0.heap.size ≤ m) (j : Nat) (x : Value) : Disk w0 (w.setCell ⟨m, j, none⟩ x) g b D := h.set_other hb (by decide) (by decide) hge j x
abbrev w6 (w : World) (m : Nat) (u' v' : Value) (a k c : Int) (o : Bool) : World := (((((w.setCell ⟨m, 0, none⟩ u').setCell ⟨m, 1, none⟩ v').setCell ⟨m, 2, none⟩ (.int .i64 a)).setCell ⟨m, 3, none⟩ (.int .u64 k)).setCell ⟨m, 4, none⟩ (.int .i64 c)).setCell ⟨m, 5, none⟩ (.bool o)
theorem w6_far (hb : w.heap[m]? = some (.cells (cellsM u v D) 49 (0, 0))) (u' v' : Value) (a k c : Int) (o : Bool) (j : Nat) (hj : j ≠ m) : (w6 w m u' v' a k c o).heap[j]? = w.heap[j]? := by
  unfold w6
  rw [Below.heap_setCell _ _ _ _ hj, Below.heap_setCell _ _ _ _ hj, Below.heap_setCell _ _ _ _ hj, Below.heap_setCell _ _ _ _ hj, Below.heap_setCell _ _ _ _ hj, Below.heap_setCell _ _ _ _ hj]
theorem Disk.set6 {g b : Nat} {D E : Dk} (h : Disk w0 w g b E) (hb : w.heap[m]? = some (.cells (cellsM u v D) 49 (0, 0))) (hge : w0.heap.size ≤ m) (u' v' : Value) (a k c : Int) (o : Bool) : Disk w0 (w6 w m u' v' a k c o) g b E :=
  (((((h.set49 hb hge 0 u').set49 (blk_set hb 0 u') hge 1 v').set49 (blk_set (blk_set hb 0 u') 1 v') hge 2 _).set49 (blk_set (blk_set (blk_set hb 0 u') 1 v') 2 _) hge 3 _).set49 (blk_set (blk_set (blk_set (blk_set hb 0 u') 1 v') 2 _) 3 _) hge 4 _).set49 (blk_set (blk_set (blk_set (blk_set (blk_set hb 0 u') 1 v') 2 _) 3 _) 4 _) hge 5 _
/-- What a call of the document's hands back. -/
structure Back (w0 w w' : World) (Au : Option Addr) (cu : Nat) (Av : Option Addr) (cv : Nat) (D' : Dk) (ls' : List ByteArray) : Prop where
  ls : Kd.R Kd.string 9 w' w0.heap.size (fun _ => True) (.slice Au ls'.length cu) ls'
  ws : Kd.R k75 75 w' w0.heap.size (fun _ => True) (.slice Av D'.wait.length cv) D'.wait
  below : Below w0.heap.size w0 w'
  kept : KeptR w w'
theorem Back.store {Au : Option Addr} {cu : Nat} {Av : Option Addr} {cv : Nat} {D' : Dk} {ls' : List ByteArray} (h : Back w0 w w' Au cu Av cv D' ls') (hr : Rf w0 w m u v D ls) :
    Rf w0 (w6 w' m (.slice Au ls'.length cu) (.slice Av D'.wait.length cv) D'.at_ D'.keep D'.count D'.down) m (.slice Au ls'.length cu) (.slice Av D'.wait.length cv) D' ls' := by
  have hb : w'.heap[m]? = some (.cells (cellsM u v D) 49 (0, 0)) := KeptR.cells h.kept hr.blk (by decide) (by decide)
  refine ⟨set6 hb _ _ _ _ _ _, hr.ge, lines_move h.ls (fun k e => w6_far hb _ _ _ _ _ _ k ?_), acts_move h.ws (fun k e => w6_far hb _ _ _ _ _ _ k ?_)⟩
  · obtain ⟨c, hc⟩ := own_typed (Kd.R_own h.ls).choose_spec k e
    exact typed_ne hc hb (by decide)
  · obtain ⟨c, hc⟩ := own_typed (Kd.R_own h.ws).choose_spec k e
    exact typed_ne hc hb (by decide)
def Says (P : Value → Dk → Prop) (D' : Dk) (ret : Value → Value) (w0 w : World) (Q : List ByteArray → Prop) (e : Ending) (w' : World) : Prop :=
  ∃ (Au : Option Addr) (cu : Nat) (Av : Option Addr) (cv : Nat) (ls' : List ByteArray), e = .returned (ret (.agg #[.slice Au ls'.length cu, .slice Av D'.wait.length cv, .int .i64 D'.at_, .int .u64 D'.keep, .int .i64 D'.count, .bool D'.down])) ∧ Q ls' ∧ Back w0 w w' Au cu Av cv D' ls'
theorem says_of {D' : Dk} {ls' : List ByteArray} {a k c : Int} {o : Bool} {e : Ending} {ret : Value → Value} {Q : List ByteArray → Prop} {ok : Nat → Prop}
    (h : ∃ v0 v1 : Value, e = .returned (ret (.agg #[v0, v1, .int .i64 D'.at_, .int .u64 D'.keep, .int .i64 D'.count, .bool D'.down])) ∧ Kd.R Kd.string 9 w' w0.heap.size ok v0 ls' ∧ Kd.R k75 75 w' w0.heap.size ok v1 D'.wait ∧ Below w0.heap.size w0 w' ∧ KeptR w w') (hq : Q ls') : Says (fun _ _ => True) D' ret w0 w Q e w' := by
  obtain ⟨v0, v1, he, h0, h1, hb, hk⟩ := h
  obtain ⟨Au, cu, rfl⟩ := Kd.R_slice h0
  obtain ⟨Av, cv, rfl⟩ := Kd.R_slice h1
  exact ⟨Au, cu, Av, cv, ls', he, hq, Kd.R_mono h0 (fun _ _ => trivial), Kd.R_mono h1 (fun _ _ => trivial), hb, hk⟩
variable {z n : Nat}
theorem RPut (h : Rf w0 w m u v D ls) (hb : Below w0.heap.size w0 w) (hs : Sm D ls z n) (hn : n ≤ 990) (x : Int) (s : ByteArray) :
    Calls Try.prog 18 #[.agg #[u, v, .int .i64 D.at_, .int .u64 D.keep, .int .i64 D.count, .bool D.down], .int .i64 x, .string s] w (Says (fun _ _ => True) (writeD D x s) (fun r => .tuple #[r, .int .i64 (writeF D x s)]) w0 w (fun ls' => Sm (writeD D x s) ls' z (n + 2))) := by
  obtain ⟨ls', h1, h2⟩ := hs.put hn x s 10001 (Nat.le_refl _)
  exact (snapferryref03_Put.calls 10001 (Pt w 9) u ls (Pt w 75) v D.wait _ _ _ _ x s _ _ _ _ _ _ _ w0 w hb h.lsP h.wsP h1).mono fun e w' hw => says_of (a := 0) (k := 0) (c := 0) (o := false) hw h2
theorem RFlush (h : Rf w0 w m u v D ls) (hb : Below w0.heap.size w0 w) (hs : Sm D ls z n) (hn : n ≤ 990) :
    Calls Try.prog 20 #[.agg #[u, v, .int .i64 D.at_, .int .u64 D.keep, .int .i64 D.count, .bool D.down]] w (Says (fun _ _ => True) (flushD D) (fun r => .tuple #[r, .int .i64 (flushF D)]) w0 w (fun ls' => Sm (flushD D) ls' z (n + 1))) := by
  obtain ⟨ls', h1, h2⟩ := hs.flush (by omega) 10001 (by omega)
  exact (snapferryref03_Flush.calls 10001 (Pt w 9) u ls (Pt w 75) v D.wait _ _ _ _ _ _ _ _ _ _ _ w0 w hb h.lsP h.wsP h1).mono fun e w' hw => says_of (a := 0) (k := 0) (c := 0) (o := false) hw h2
theorem RCrash (h : Rf w0 w m u v D ls) (hb : Below w0.heap.size w0 w) (hs : Sm D ls z n) (hn : n ≤ 990) (keep : Int) (h0 : 0 ≤ keep) :
    Calls Try.prog 23 #[.agg #[u, v, .int .i64 D.at_, .int .u64 D.keep, .int .i64 D.count, .bool D.down], .int .u64 keep] w (Says (fun _ _ => True) (crashD D keep) (fun r => r) w0 w (fun ls' => Sm (crashD D keep) ls' z n)) := by
  obtain ⟨ls', h1, h2⟩ := hs.crash (by omega) keep h0 10001 (by omega)
  exact (snapferryref03_Crash.calls 10001 (Pt w 9) u ls (Pt w 75) v D.wait _ _ _ _ keep _ _ _ _ _ _ w0 w hb h.lsP h.wsP h1).mono fun e w' hw => says_of (a := 0) (k := 0) (c := 0) (o := false) hw h2
theorem RRead {Au : Option Addr} {cu : Nat} {Av : Option Addr} {cv : Nat} (h : Rf w0 w m (.slice Au ls.length cu) (.slice Av D.wait.length cv) D ls) (hs : Sm D ls z n) (hn : n ≤ 1000) (x : Int) :
    Calls Try.prog 19 #[.agg #[.slice Au ls.length cu, .slice Av D.wait.length cv, .int .i64 D.at_, .int .u64 D.keep, .int .i64 D.count, .bool D.down], .int .i64 x] w fun e w' => e = .returned (.tuple #[.string (readS D x), .int .i64 (readF D x)]) ∧ Below w.heap.size w w' :=
  snapferryref03_Read.calls 10001 Au cu ls Av cv D.wait _ _ _ _ x _ _ w (Kd.R_reads' h.ls).2.2 (Kd.R_reads' h.ls).2.1 (Kd.R_reads' h.ws).2.2 (Kd.R_reads' h.ws).2.1 (hs.read hn x 10001 (Nat.le_refl _))
theorem RNew (hz : 1 ≤ z) (hz2 : z ≤ 8192) (hb : Below w0.heap.size w0 w) :
    Calls Try.prog 17 #[.int .i64 (z : Int)] w (Says (fun _ _ => True) (newD (z : Int)) (fun r => r) w0 w (fun ls' => Sm (newD (z : Int)) ls' z 0)) := by
  refine (snapferryref03_New.calls 10001 (z : Int) _ _ _ _ _ _ w (new_some z hz2 10001 (by omega))).mono ?_
  rintro e w' ⟨v0, v1, he, h0, h1, hbw⟩
  exact says_of (D' := newD (z : Int)) (a := 0) (k := 0) (c := 0) (o := false) (ok := fun _ => True) ⟨v0, v1, he, Kd.R_lower h0 hb.size, Kd.R_lower h1 hb.size, below_step hb hbw, Kept.of_below hbw _⟩ (Sm.new z hz hz2)
theorem RArm {Au : Option Addr} {cu : Nat} {Av : Option Addr} {cv : Nat} (h : Rf w0 w m (.slice Au ls.length cu) (.slice Av D.wait.length cv) D ls) (hb : Below w0.heap.size w0 w) (hs : Sm D ls z n) (ca ck : Int) (h0 : 0 ≤ ck) (h1 : ck < 18446744073709551616) :
    Calls Try.prog 22 #[.agg #[.slice Au ls.length cu, .slice Av D.wait.length cv, .int .i64 D.at_, .int .u64 D.keep, .int .i64 D.count, .bool D.down], .agg #[.int .i64 ca, .int .u64 ck]] w (Says (fun _ _ => True) (armD D ca ck) (fun r => r) w0 w (fun ls' => Sm (armD D ca ck) ls' z n)) := by
  refine (rarm_calls _ _ D.at_ D.keep D.count D.down ca ck w Au Av ls.length cu D.wait.length cv rfl rfl).mono ?_
  rintro e w' ⟨he, hbw⟩
  exact ⟨Au, cu, Av, cv, ls, he, hs.arm ca ck h0 h1, Kd.R_below h.ls hbw, Kd.R_below h.ws hbw, below_step hb hbw, Kept.of_below hbw _⟩
theorem Rf.off (h : Rf w0 w m u v D ls) : Rf w0 (w.setCell ⟨m, 5, none⟩ (.bool false)) m u v { D with down := false } ls := by
  refine ⟨blk_set h.blk 5 _, h.ge, lines_move h.ls (fun k e => Below.heap_setCell _ _ _ _ ?_), acts_move h.ws (fun k e => Below.heap_setCell _ _ _ _ ?_)⟩
  · obtain ⟨c, hc⟩ := h.uTyped k e
    exact typed_ne hc h.blk (by decide)
  · obtain ⟨c, hc⟩ := h.vTyped k e
    exact typed_ne hc h.blk (by decide)
end
end Go.Proofs.Ytehodgcfejkomaa.Disk
