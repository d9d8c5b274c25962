/- TlvPieces: the walk of its body: for every row of texts it returns true, and makes memory alone. No condition. -/
import Derived.Test.YtimamhklcglljaaReader
import Derived.Deep.RegionWith
namespace Go.Proofs.Ytimamhklcglljaa.Pieces
set_option linter.unusedVariables false
set_option linter.unusedSimpArgs false
open Go.RowKit Go.Proofs.Ytimamhklcglljaa.Q Go.Proofs.YtimamhklcglljaaW.PrintWords Go.Proofs.YtimamhklcglljaaW.PrintLast Go.Proofs.YtimamhklcglljaaW.PrintMore
open Go.Proofs.Ytimamhklcglljaa.Pure
abbrev Row (w W : World) (v : Value) (xs : List S29) : Prop := Kd.R k29 29 W w.heap.size (fun _ => True) v xs
theorem row_any {W : World} {base : Nat} {ok ok' : Nat → Prop} {v : Value} {xs : List S29} (h : Kd.R k29 29 W base ok v xs) (hk : ∀ k, v.ownBlock = some k → ok' k) : Kd.R k29 29 W base ok' v xs := by
  obtain ⟨h0, inner, ho, hr⟩ := h
  refine ⟨hk, inner, ho, hr.imp_ (fun x cs hm => ?_)⟩
  rw [k29_openM hm]
  exact k29_mkM _ _ _ x
theorem row_move {w W W' : World} {v : Value} {xs : List S29} (h : Row w W v xs) (hm : ∀ k, v.ownBlock = some k → W'.heap[k]? = W.heap[k]?) : Row w W' v xs :=
  row_any (Kd.R_move (row_any (ok' := fun k => v.ownBlock = some k) h (fun k hk => hk)) hm) (fun _ _ => trivial)
theorem is_move {w W W' : World} {g : Nat} {r : ByteArray} {n e : Int} (h : IsS48 w W g r n e) (hm : W'.heap[g]? = W.heap[g]?) : IsS48 w W' g r n e := ⟨hm.trans h.1, h.2⟩
/-- Two readers and two rows of records, all of the call's own. -/
structure Pz (w W : World) (ga gb : Nat) (ra : ByteArray) (na ea : Int) (rb : ByteArray) (nb eb : Int) (x : Value) (xs : List S29) (y : Value) (ys : List S29) : Prop where
  a : IsS48 w W ga ra na ea
  b : IsS48 w W gb rb nb eb
  ne : ga ≠ gb
  hx : Row w W x xs
  hy : Row w W y ys
  xy : ∀ k, x.ownBlock = some k → y.ownBlock ≠ some k
  below : Below w.heap.size w W
section
variable {w W W' : World} {ga gb : Nat} {ra : ByteArray} {na ea : Int} {rb : ByteArray} {nb eb : Int} {x : Value} {xs : List S29} {y : Value} {ys : List S29}
theorem Pz.xa (h : Pz w W ga gb ra na ea rb nb eb x xs y ys) (k : Nat) (hk : x.ownBlock = some k) : k ≠ ga ∧ k ≠ gb := by
  constructor
  · rintro rfl; exact IsS48.own_ne h.a h.hx (by decide) hk.symm
  · rintro rfl; exact IsS48.own_ne h.b h.hx (by decide) hk.symm
theorem Pz.ya (h : Pz w W ga gb ra na ea rb nb eb x xs y ys) (k : Nat) (hk : y.ownBlock = some k) : k ≠ ga ∧ k ≠ gb := by
  constructor
  · rintro rfl; exact IsS48.own_ne h.a h.hy (by decide) hk.symm
  · rintro rfl; exact IsS48.own_ne h.b h.hy (by decide) hk.symm
theorem Pz.xlt (h : Pz w W ga gb ra na ea rb nb eb x xs y ys) (k : Nat) (hk : x.ownBlock = some k) : k < W.heap.size := own_lt (Kd.R_own h.hx).choose_spec k hk
theorem Pz.ylt (h : Pz w W ga gb ra na ea rb nb eb x xs y ys) (k : Nat) (hk : y.ownBlock = some k) : k < W.heap.size := own_lt (Kd.R_own h.hy).choose_spec k hk
theorem Pz.step (h : Pz w W ga gb ra na ea rb nb eb x xs y ys) (hb : Below W.heap.size W W') : Pz w W' ga gb ra na ea rb nb eb x xs y ys :=
  ⟨h.a.below hb, h.b.below hb, h.ne, row_move h.hx (fun k hk => hb.block k (h.xlt k hk)), row_move h.hy (fun k hk => hb.block k (h.ylt k hk)), h.xy, below_step h.below hb⟩
/-- The first reader was fed. -/
theorem Pz.fedA (h : Pz w W ga gb ra na ea rb nb eb x xs y ys) {ra' : ByteArray} {na' ea' : Int} (hI : IsS48 w W' ga ra' na' ea') (hB : Below w.heap.size w W') (hK : KeepBut W W' ga none) : Pz w W' ga gb ra' na' ea' rb nb eb x xs y ys :=
  ⟨hI, is_move h.b (hK.2 gb h.b.lt (Ne.symm h.ne) (by simp)), h.ne, row_move h.hx (fun k hk => hK.2 k (h.xlt k hk) (h.xa k hk).1 (by simp)), row_move h.hy (fun k hk => hK.2 k (h.ylt k hk) (h.ya k hk).1 (by simp)), h.xy, hB⟩
/-- The second one was. -/
theorem Pz.fedB (h : Pz w W ga gb ra na ea rb nb eb x xs y ys) {rb' : ByteArray} {nb' eb' : Int} (hI : IsS48 w W' gb rb' nb' eb') (hB : Below w.heap.size w W') (hK : KeepBut W W' gb none) : Pz w W' ga gb ra na ea rb' nb' eb' x xs y ys :=
  ⟨is_move h.a (hK.2 ga h.a.lt h.ne (by simp)), hI, h.ne, row_move h.hx (fun k hk => hK.2 k (h.xlt k hk) (h.xa k hk).2 (by simp)), row_move h.hy (fun k hk => hK.2 k (h.ylt k hk) (h.ya k hk).2 (by simp)), h.xy, hB⟩
/-- The first row has grown. -/
theorem Pz.grownX (h : Pz w W ga gb ra na ea rb nb eb x xs y ys) {x' : Value} {xs' : List S29} (hx : Row w W' x' xs') (hg : W.grownBy W' x.ownBlock) (hat : x'.ownBlock = x.ownBlock ∨ ∃ b, x'.ownBlock = some b ∧ W.heap.size ≤ b) : Pz w W' ga gb ra na ea rb nb eb x' xs' y ys :=
  ⟨h.a.grown hg (fun e => (h.xa ga e.symm).1 rfl), h.b.grown hg (fun e => (h.xa gb e.symm).2 rfl), h.ne, hx, row_move h.hy (fun k hk => hg.block k (h.ylt k hk) (fun e => h.xy k e.symm hk)),
    fun k hk => by
      rcases hat with hat | ⟨b, hb, hlt⟩
      · exact h.xy k (hat ▸ hk)
      · intro hy; have := h.ylt k hy; rw [hk] at hb; injection hb with hb; omega,
    h.below.grown hg h.below.size (fun k hk => Kd.R_base h.hx k hk)⟩
/-- The second row has. -/
theorem Pz.grownY (h : Pz w W ga gb ra na ea rb nb eb x xs y ys) {y' : Value} {ys' : List S29} (hy : Row w W' y' ys') (hg : W.grownBy W' y.ownBlock) (hat : y'.ownBlock = y.ownBlock ∨ ∃ b, y'.ownBlock = some b ∧ W.heap.size ≤ b) : Pz w W' ga gb ra na ea rb nb eb x xs y' ys' :=
  ⟨h.a.grown hg (fun e => (h.ya ga e.symm).1 rfl), h.b.grown hg (fun e => (h.ya gb e.symm).2 rfl), h.ne, row_move h.hx (fun k hk => hg.block k (h.xlt k hk) (fun e => h.xy k hk e.symm)), hy,
    fun k hk => by
      rcases hat with hat | ⟨b, hb, hlt⟩
      · rw [hat]; exact h.xy k hk
      · intro hy; have := h.xlt k hk; rw [hy] at hb; injection hb with hb; omega,
    h.below.grown hg h.below.size (fun k hk => Kd.R_base h.hy k hk)⟩
end
theorem rows_made {W : World} {base : Nat} (x : S29) (cs : List Value) (h : k29.K W x cs) : k29.M W base (fun _ => False) x cs := by rw [k29_open h]; exact k29_mkM _ _ _ x
theorem wait_quiet (g : Nat) (r : ByteArray) (w : World) (h : w.cell? ⟨g, 0, none⟩ = some (.string r)) : Calls Try.prog 15 #[.pointer (some ⟨g, 0, none⟩)] w fun e w' => e = .returned (.int .i64 (r.size : Int)) ∧ w' = w := by
  have hu48 := Try.underlying48
  go_enter Try.func15, Try.ntmps15
  go_wp2
  go_ret
  exact ⟨rfl, rfl⟩
theorem nat_at {w : World} {ad : Addr} {i : Nat} {v : Value} (h : w.cell? (ad.add (i : Int).toNat) = some v) : w.cell? (ad.add i) = some v := h
theorem cut_one (s : ByteArray) (j : Nat) (h : j < s.size) : s.extract 0 j ++ s.extract j (j + 1) = s.extract 0 (j + 1) := by
  apply ByteArray.ext
  rw [← Array.toList_inj, ByteArray.data_append, ByteArray.data_extract, ByteArray.data_extract, ByteArray.data_extract, Array.toList_append, Array.toList_extract, Array.toList_extract, Array.toList_extract, List.extract_eq_take_drop, List.extract_eq_take_drop, List.extract_eq_take_drop, List.drop_zero, Nat.sub_zero, Nat.sub_zero,
    show j + 1 - j = 1 by omega, List.take_one, List.head?_drop, List.take_add_one]
theorem sizes_snoc (l : List ByteArray) (i : Nat) (h : i < l.length) : sizes (l.take (i + 1)) = sizes (l.take i) + (rdOf ByteArray.empty l (i : Int)).size := by
  unfold sizes
  rw [List.take_succ_eq_append_getElem h, List.map_append, List.sum_append]
  simp [rdOf, List.getD, h]
theorem sizes_le (l : List ByteArray) (i : Nat) : sizes (l.take i) ≤ sizes l := by
  unfold sizes
  rw [← List.take_append_drop i l, List.map_append, List.sum_append, List.take_append_drop]
  omega
set_option maxRecDepth 100000 in
set_option maxHeartbeats 4000000 in
theorem walk (A0 : Option Addr) (c0 : Nat) (l : List ByteArray) (w : World) (hr : Kd.C Kd.string w A0 l.length l) (hc : l.length ≤ c0) (hf : Ev (fun k => snapferrylaw04_few.f k l) true) (hl : l.length ≤ 100) (hs : sizes l ≤ 12000) :
    Calls Try.prog 5 #[.slice A0 l.length c0] w fun e w' => e = .returned (.bool true) ∧ Below w.heap.size w w' := by
  have hu29 := Try.underlying29
  have hu48 := Try.underlying48
  obtain ⟨kf, hkf⟩ := hf.rounds
  have HF := Aside0.mk hkf
  have HR := Aside0.mk hr
  have HC := Aside0.mk hc
  have HL := Aside0.mk (⟨hl, hs⟩ : l.length ≤ 100 ∧ sizes l ≤ 12000)
  clear hr hc hf hs hkf
  go_enter Try.func5, Try.ntmps5
  go_wp2_with (first | (go_at_call 6; refine (snapferrylaw04_awake.calls true _ rfl).mono ?_; rintro e w1 ⟨rfl, hb1⟩; have HB1 := Aside0.mk hb1; clear hb1) | (go_at_call 7; refine (snapferrylaw04_few.calls kf _ _ l true _ (Kd.C_below HR.out HB1.out) HC.out HF.out).mono ?_; rintro e w2 ⟨rfl, hd⟩; have HB2 := Aside0.mk (show Below w.heap.size w w2 by obtain ⟨n, rfl⟩ := hd.out; exact pw_below_drewN HB1.out n); clear hd HB1; have tok1 : True := trivial) | (go_at_call 9; have _t := tok1; refine (tlv_New.calls _ _ _ w _ HB2.out rfl).mono ?_; rintro e w3 ⟨ga, rfl, hI, hB3, hb3⟩; have HI3 := Aside0.mk hI; have HB3 := Aside0.mk hB3; clear hI hB3 hb3 tok1) | (go_at_call 9; refine (tlv_New.calls _ _ _ w3 _ (Below.refl _ _) rfl).mono ?_; rintro e w4 ⟨gb, rfl, hI, hB4, hb4⟩; have HZ := Aside0.mk (show Pz w w4 ga gb ⟨#[]⟩ 0 0 ⟨#[]⟩ 0 0 (.slice none 0 0) [] (.slice none 0 0) [] from ⟨HI3.out.below hb4, ⟨hI.1, Nat.le_trans HB3.out.size hI.2⟩, fun e => by have h1 := HI3.out.lt; have h2 := hI.2; omega, Kd.R_nil _ _ _ _ _, Kd.R_nil _ _ _ _ _, fun k hk => by simp [Value.ownBlock] at hk, below_step HB3.out hb4⟩); clear hI hB4 hb4 HI3 HB3))
  go_loopg [5, 7, 8, 10] l.length (fun kq v5 v7 v8 v10 wr => ∃ (i : Nat) (xs : List S29) (p : ByteArray) (ea : Int) (ra : ByteArray) (na : Int), v10 = .int .i64 i ∧ v7 = .string p ∧ v8 = .int .i64 ea ∧ Aside0 (i + kq = l.length ∧ p.size = sizes (l.take i) ∧ Run p 0 xs ea ra na ∧ Pz w wr ga gb ra na ea ⟨#[]⟩ 0 0 v5 xs (.slice none 0 0) []))
  case atStart => exact ⟨0, [], ⟨#[]⟩, 0, ⟨#[]⟩, 0, rfl, rfl, rfl, ⟨Nat.zero_add _, rfl, .wait rfl, HZ.out⟩⟩
  case round =>
    obtain ⟨i, xs, p, ea, ra, na, rfl, rfl, rfl, HA⟩ := hrel
    clear HZ
    by_cases c2 : i < l.length
    · have c2b : decide ((i : Int) < (l.length : Int)) = true := decide_eq_true (by omega)
      obtain ⟨ad, e1, hx0⟩ := Kd.at_string HR.out (i : Int) (by omega) (by omega)
      have hx1 := nat_at hx0
      have HLT := Aside0.mk (World.block_lt_of_cell? w _ hx1)
      have hx := (HA.out.2.2.2.below.cell HLT.out).trans hx1
      cases e1
      have p104 := eq_true (show 0 ≤ (i : Int) by omega)
      have q104 := eq_true (show i < l.length by omega)
      obtain ⟨hk, hps, hrun, hz⟩ := HA.out
      have hsn := sizes_snoc l i c2
      have hle := sizes_le l (i + 1)
      have hL2 := HL.out.2
      have hib : i < 1000 := by omega
      generalize hs : rdOf ByteArray.empty l (i : Int) = s at *
      have hsz : p.size + s.size ≤ 9223372036854775807 := by omega
      obtain ⟨out, ea', ra', na', hev, hrun', hol⟩ := feed_piece hrun s (by omega)
      obtain ⟨kk, hkk⟩ := hev.rounds
      have HX := Aside0.mk hx1
      have HFD := Aside0.mk hkk
      have HRUN := Aside0.mk hrun'
      have HZ1 := Aside0.mk hz
      have HB9 := Aside0.mk (show (xs.length + out.length) * 32 ≤ 140737488355328 by have := run_len hrun; omega)
      have HK := Aside0.mk (show i + gk = l.length ∧ p.size + s.size = sizes (l.take (i + 1)) from ⟨hk, by omega⟩)
      clear hk hps hrun hz hsn hle hL2 hs hev hrun' hol hkk c2 HA hx0 hx1
      go_wp2_with (first | (go_at_call 10; refine (tlv_Reader_Feed.calls _ _ _ _ _ _ _ _ _ _ _ w _ HZ1.out.a HZ1.out.below HFD.out).mono ?_; rintro e w2 ⟨vo, rfl, hG, hI, hB, hK⟩; have HZ2 := Aside0.mk (HZ1.out.fedA hI hB hK); obtain ⟨Ao, co, rfl⟩ := Kd.R_slice hG; have HG := Aside0.mk hG; clear hI hB hK hG HZ1 hx) | ((with_reducible refine gate_builtin (b := .append) (xs := #[.tmp 38, .tmp 39]) rfl ?_); at_builtin; refine Kd.R_append_rows k29 w.heap.size rfl (.tmp 38) (.tmp 39) 26 29 (.agg #[(.int .i64 0), (.int .i64 0), (.string ⟨#[]⟩)]) 32 rfl Try.underlying26 infoF29 rfl (by decide) (by omega) u5 xs out Ao out.length co (fun _ => True) (fun _ => False) rfl rfl HZ2.out.hx (Kd.R_reads' HG.out).2.2 rows_made (fun _ hk => hk.elim) (fun _ _ => trivial) (Below.refl _ _) HZ2.out.below.size ?aL ?_; (case aL => have := HB9.out; omega); intro v9 w9 ho9 hb9 hg9 hat9; have HZ9 := Aside0.mk (HZ2.out.grownX ho9 hg9 hat9); have hx := (HZ9.out.below.cell HLT.out).trans HX.out; clear ho9 hb9 hg9 hat9 HZ2 HG))
      go_roundg (gk - 1)
      case measure => have := HK.out.1; have := of_eq_true q104; omega
      case rel => exact ⟨i + 1, xs ++ out, p ++ s, ea', ra', na', by go_num, rfl, rfl, ⟨by have := HK.out.1; have := of_eq_true q104; omega, by rw [ByteArray.size_append]; exact HK.out.2, HRUN.out, HZ9.out⟩⟩
    · have c2b : decide ((i : Int) < (l.length : Int)) = false := decide_eq_false (by omega)
      have c2n : decide (i < l.length) = false := decide_eq_false c2
      have HP := Aside0.mk (show p.size ≤ 12000 by have h1 := HA.out.2.1; have h2 := sizes_le l i; have h3 := HL.out.2; omega)
      have HZ := Aside0.mk (⟨HA.out.2.2.1, HA.out.2.2.2⟩ : Run p 0 xs ea ra na ∧ Pz w wr ga gb ra na ea ⟨#[]⟩ 0 0 u5 xs (.slice none 0 0) [])
      clear HA c2
      go_wp2
      obtain ⟨W2, rfl⟩ : ∃ W, W = wr := ⟨_, rfl⟩
      obtain ⟨vx, rfl⟩ : ∃ v, v = u5 := ⟨_, rfl⟩
      go_loopg [6, 9, 13] p.size (fun kq v6 v9 v13 w' => ∃ (j : Nat) (ys : List S29) (eb : Int) (rb : ByteArray) (nb : Int), v13 = .int .i64 j ∧ v9 = .int .i64 eb ∧ Aside0 (j + kq = p.size ∧ Run (p.extract 0 j) 0 ys eb rb nb ∧ Pz w w' ga gb ra na ea rb nb eb vx xs v6 ys))
      case atStart => exact ⟨0, [], 0, ⟨#[]⟩, 0, rfl, rfl, ⟨Nat.zero_add _, by
        have e : p.extract 0 0 = ⟨#[]⟩ := by apply ByteArray.ext; rw [← Array.toList_inj, ByteArray.data_extract, Array.toList_extract, List.extract_eq_take_drop]; rfl
        rw [e]; exact .wait rfl, HZ.out.2⟩⟩
      case round =>
        obtain ⟨j, ys, eb, rb, nb, rfl, rfl, HA⟩ := hrel
        by_cases c3 : j < p.size
        · have c3b : decide ((j : Int) < (p.size : Int)) = true := decide_eq_true (by omega)
          have c3n : decide (j < p.size) = true := decide_eq_true c3
          have hpz := HP.out
          have hjb : j < 12000 := by omega
          have hj1 : j + 1 ≤ p.size := c3
          have hj2 : (j : Int) + 1 ≤ (p.size : Int) := by omega
          have hj3 : (0 : Int) ≤ (j : Int) + 1 := by omega
          have hj4 : ((j : Int) + 1).toNat = j + 1 := by omega
          have hj5 : (j : Int) ≤ (j : Int) + 1 := by omega
          obtain ⟨hk, hrun, hz⟩ := HA.out
          have he1 : (p.extract 0 j).size = j := by rw [ByteArray.size_extract]; omega
          have he2 : (p.extract j (j + 1)).size = 1 := by rw [ByteArray.size_extract]; omega
          obtain ⟨out, eb', rb', nb', hev, hrun', hol⟩ := feed_piece hrun (p.extract j (j + 1)) (by omega)
          rw [cut_one p j c3] at hrun'
          obtain ⟨kk, hkk⟩ := hev.rounds
          have HFD := Aside0.mk hkk
          have HRUN := Aside0.mk hrun'
          have HZ1 := Aside0.mk hz
          have HB9 := Aside0.mk (show (ys.length + out.length) * 32 ≤ 140737488355328 by have := run_len hrun; omega)
          have HK := Aside0.mk (show j + gk = p.size ∧ j < p.size from ⟨hk, c3⟩)
          clear hk hrun hz he1 he2 hev hrun' hol hkk HA hpz
          go_wp2_with (first | (go_at_call 10; refine (tlv_Reader_Feed.calls _ _ _ _ _ _ _ _ _ _ _ w _ HZ1.out.b HZ1.out.below HFD.out).mono ?_; rintro e w2 ⟨vo, rfl, hG, hI, hB, hK⟩; have HZ2 := Aside0.mk (HZ1.out.fedB hI hB hK); obtain ⟨Ao, co, rfl⟩ := Kd.R_slice hG; have HG := Aside0.mk hG; clear hI hB hK hG HZ1) | ((with_reducible refine gate_builtin (b := .append) (xs := #[.tmp 64, .tmp 65]) rfl ?_); at_builtin; refine Kd.R_append_rows k29 w.heap.size rfl (.tmp 64) (.tmp 65) 26 29 (.agg #[(.int .i64 0), (.int .i64 0), (.string ⟨#[]⟩)]) 32 rfl Try.underlying26 infoF29 rfl (by decide) (by omega) u6 ys out Ao out.length co (fun _ => True) (fun _ => False) rfl rfl HZ2.out.hy (Kd.R_reads' HG.out).2.2 rows_made (fun _ hk => hk.elim) (fun _ _ => trivial) (Below.refl _ _) HZ2.out.below.size ?aL ?_; (case aL => have := HB9.out; omega); intro v9 w9 ho9 hb9 hg9 hat9; have HZ9 := Aside0.mk (HZ2.out.grownY ho9 hg9 hat9); clear ho9 hb9 hg9 hat9 HZ2 HG))
          go_roundg (gk - 1)
          case measure => have := HK.out; omega
          case rel => exact ⟨j + 1, ys ++ out, eb', rb', nb', by go_num, rfl, ⟨by have := HK.out; omega, HRUN.out, HZ9.out⟩⟩
        · have c3b : decide ((j : Int) < (p.size : Int)) = false := decide_eq_false (by omega)
          have c3n : decide (j < p.size) = false := decide_eq_false c3
          obtain ⟨hk, hrun, hz⟩ := HA.out
          have hjp : p.extract 0 j = p := by
            apply ByteArray.ext
            rw [← Array.toList_inj, ByteArray.data_extract, Array.toList_extract, List.extract_eq_take_drop, List.drop_zero, Nat.sub_zero, List.take_of_length_le (by rw [size_list]; omega)]
          rw [hjp] at hrun
          obtain ⟨rfl, rfl, rfl, rfl⟩ := run_det HZ.out.1 hrun
          have hlen := run_len hrun
          have hpz := HP.out
          obtain ⟨k1, hk1⟩ := (of_ev xs (by omega)).rounds
          obtain ⟨k2, hk2⟩ := (same_ev (xs.map conv49) (by rw [List.length_map]; omega)).rounds
          generalize xs.map conv49 = zs at *
          have HO := Aside0.mk hk1
          have HS := Aside0.mk hk2
          obtain ⟨Ax, cx, rfl⟩ := Kd.R_slice hz.hx
          obtain ⟨Ay, cy, hy⟩ := Kd.R_slice hz.hy
          rw [hy] at hz
          rw [hy]
          have HZ3 := Aside0.mk hz
          clear hk hrun hz hjp hlen hpz hk1 hk2 HA hy c3 HZ
          go_wp2_with fail
          refine (snapferrylaw04_of.calls k1 _ _ xs zs _ (Kd.R_reads' HZ3.out.hx).2.2 (Kd.R_reads' HZ3.out.hx).2.1 HO.out).mono ?_
          rintro e w5 ⟨v5, rfl, hr5, hb5⟩
          obtain ⟨A5, c5, rfl⟩ := Kd.R_slice hr5
          have HR5 := Aside0.mk hr5
          have HZ5 := Aside0.mk (HZ3.out.step hb5)
          clear hr5 hb5 HZ3
          go_wp2_with fail
          refine (snapferrylaw04_of.calls k1 _ _ xs zs _ (Kd.R_reads' HZ5.out.hy).2.2 (Kd.R_reads' HZ5.out.hy).2.1 HO.out).mono ?_
          rintro e w6 ⟨v6, rfl, hr6, hb6⟩
          obtain ⟨A6, c6, rfl⟩ := Kd.R_slice hr6
          have HR6 := Aside0.mk hr6
          have HR56 := Aside0.mk (Kd.R_below HR5.out hb6)
          have HZ6 := Aside0.mk (HZ5.out.step hb6)
          clear hr6 hb6 HR5 HZ5
          go_wp2_with fail
          refine (snapferryref04_Same.calls k2 _ _ zs _ _ zs true _ (Kd.R_reads' HR56.out).2.2 (Kd.R_reads' HR56.out).2.1 (Kd.R_reads' HR6.out).2.2 (Kd.R_reads' HR6.out).2.1 HS.out).mono ?_
          rintro e w7 ⟨rfl, hd⟩
          have HZ7 := Aside0.mk (show Pz w w7 ga gb ra na ea ra na ea _ xs _ xs by obtain ⟨n, rfl⟩ := hd.out; exact HZ6.out.step (pw_below_drewN (Below.refl _ _) n))
          have ha0 := cellS48_0 HZ7.out.a.1
          have ha1 := cellS48_1 HZ7.out.a.1
          have hb0 := cellS48_0 HZ7.out.b.1
          have hb1 := cellS48_1 HZ7.out.b.1
          clear hd HZ6 HR56 HR6
          go_wp2_with (first | (go_at_call_of 14 (Value.pointer (some (⟨ga, 0, none⟩ : Addr))); refine (next_quiet ga na _ ha1).mono ?_; rintro e w' ⟨rfl, rfl⟩) | (go_at_call_of 14 (Value.pointer (some (⟨gb, 0, none⟩ : Addr))); refine (next_quiet gb na _ hb1).mono ?_; rintro e w' ⟨rfl, rfl⟩) | (go_at_call_of 15 (Value.pointer (some (⟨ga, 0, none⟩ : Addr))); refine (wait_quiet ga ra _ ha0).mono ?_; rintro e w' ⟨rfl, rfl⟩) | (go_at_call_of 15 (Value.pointer (some (⟨gb, 0, none⟩ : Addr))); refine (wait_quiet gb ra _ hb0).mono ?_; rintro e w' ⟨rfl, rfl⟩))
          go_ret
          exact ⟨rfl, HZ7.out.below⟩
set_option maxRecDepth 100000 in
theorem many (A0 : Option Addr) (c0 : Nat) (l : List ByteArray) (w : World) (hr : Kd.C Kd.string w A0 l.length l) (hc : l.length ≤ c0) (hf : Ev (fun k => snapferrylaw04_few.f k l) false) :
    Calls Try.prog 5 #[.slice A0 l.length c0] w fun e w' => e = .returned (.bool true) ∧ Below w.heap.size w w' := by
  obtain ⟨kf, hkf⟩ := hf.rounds
  have HF := Aside0.mk hkf
  have HR := Aside0.mk hr
  have HC := Aside0.mk hc
  clear hr hc hf hkf
  go_enter Try.func5, Try.ntmps5
  go_wp2_with (first | (go_at_call 6; refine (snapferrylaw04_awake.calls true _ rfl).mono ?_; rintro e w1 ⟨rfl, hb1⟩; have HB1 := Aside0.mk hb1; clear hb1) | (go_at_call 7; refine (snapferrylaw04_few.calls kf _ _ l false _ (Kd.C_below HR.out HB1.out) HC.out HF.out).mono ?_; rintro e w2 ⟨rfl, hd⟩; have HB2 := Aside0.mk (show Below w.heap.size w w2 by obtain ⟨n, rfl⟩ := hd.out; exact pw_below_drewN HB1.out n); clear hd HB1))
  go_ret
  exact ⟨rfl, HB2.out⟩
theorem all (A0 : Option Addr) (c0 : Nat) (l : List ByteArray) (w : World) (hr : Kd.C Kd.string w A0 l.length l) (hc : l.length ≤ c0) (hz : ∀ s ∈ l, s.size ≤ 140737488351232) :
    Calls Try.prog 5 #[.slice A0 l.length c0] w fun e w' => e = .returned (.bool true) ∧ Below w.heap.size w w' := by
  rcases few_ev l (fun s hs => by have := hz s hs; omega) with ⟨h, h1, h2⟩ | h
  · exact walk A0 c0 l w hr hc h h1 h2
  · exact many A0 c0 l w hr hc h
end Go.Proofs.Ytimamhklcglljaa.Pieces
