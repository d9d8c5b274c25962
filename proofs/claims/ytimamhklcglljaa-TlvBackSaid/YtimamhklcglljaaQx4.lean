/- The functions that this claim reaches, as plain Lean functions, and the proofs that the program comes to them: written by a program of this session out of the translation. Each contract stands under its own function answering. -/
import Derived.Test.YtimamhklcglljaaQx0
import Derived.Test.YtimamhklcglljaaQx1
import Derived.Test.YtimamhklcglljaaQx2
import Derived.Test.YtimamhklcglljaaQx3
namespace Go.Proofs.Ytimamhklcglljaa.Q
open Go.RowKit Go.Proofs.YtimamhklcglljaaW.PrintWords Go.Proofs.YtimamhklcglljaaW.PrintLast Go.Proofs.YtimamhklcglljaaW.PrintMore
attribute [local go_sem] max2_int min2_int max_two min_two max_three min_three max_four min_four   -- for this text's walks alone
set_option linter.unusedVariables false
set_option linter.unusedSimpArgs false

attribute [local go_sem high] eqA49
/-! ### tlv_Reader_Feed: function 10 -/
theorem wp_scope_ghost {P : Program} {a : Act} {w : World} {Q : Exit → Act → World → Prop} {c rest : Code} (l : Nat) (I : Nat → Act → World → Prop) (hf : findLabel c l = some (Code.skip.seq rest))
    (pass : ∀ n a w, I n a w → rest.wp P (Exit.jump l (fun a' w' => ∃ n', n' < n ∧ I n' a' w') Q) a w)
    (first : (∀ n a w, I n a w → rest.wp P (Exit.jump l (fun a' w' => ∃ n', I n' a' w') Q) a w) → c.wp P (Exit.jump l (fun a' w' => ∃ n', I n' a' w') Q) a w) : (Code.scope c).wp P Q a w := by
  refine wp_scope_jumps l (fun a w => ∃ n, I n a w) (fun a w => leastOf (fun n => I n a w)) hf (first fun n a w h => wp_mono (pass n a w h) ?_) ?_
  · intro e a' w' hq
    cases e with
    | goto l' => exact ⟨hq.1, hq.2.imp fun _ h => h.2⟩
    | normal => exact hq
    | exit id => exact hq
    | ret => exact hq
    | panic ch => exact hq
    | outgrown => exact hq
  · intro a w hI
    refine wp_seq (wp_skip (wp_mono (pass _ a w (leastOf_spec hI).1) ?_))
    intro e a' w' hq
    cases e with
    | goto l' =>
      obtain ⟨hl, n', hlt, hI'⟩ := hq
      exact ⟨hl, ⟨n', hI'⟩, Nat.lt_of_le_of_lt ((leastOf_spec ⟨n', hI'⟩).2 n' hI') hlt⟩
    | normal => exact hq
    | exit id => exact hq
    | ret => exact hq
    | panic ch => exact hq
    | outgrown => exact hq
def feedLoop : Nat → ByteArray → Int → List S29 → Option (List S29 × Int × ByteArray × Int × Int)
  | 0, _, _, _ => none
  | k + 1, rest, next, out => (tlv_Parse.f rest).bind fun p =>
      if p.2.2.2.2 = 4 then some (out, 0, rest, next, 0)
      else if p.2.2.2.2 = 1 then some (out, 18, (⟨#[]⟩ : ByteArray), next, 18)
      else if p.2.2.2.2 = 0 then (if p.2.1 = next then (if out.length < 4398046511104 then feedLoop k p.2.2.2.1 (wrap64 (next + 1)) (out ++ [(⟨p.1, p.2.1, p.2.2.1⟩ : S29)]) else none) else some (out, 18, (⟨#[]⟩ : ByteArray), next, 18))
      else some (out, p.2.2.2.2, (⟨#[]⟩ : ByteArray), next, p.2.2.2.2)
def tlv_Reader_Feed.f (k : Nat) (s0_0 : ByteArray) (s0_1 : Int) (s0_2 : Int) (a1 : ByteArray) : Option (List S29 × Int × ByteArray × Int × Int) :=
  if s0_2 = 0 then (if s0_0.size + a1.size ≤ 9223372036854775807 then feedLoop k (s0_0 ++ a1) s0_1 [] else none) else some ([], s0_2, s0_0, s0_1, s0_2)
theorem feedLoop_mono : ∀ k y0 y1 y2, LeO (feedLoop k y0 y1 y2) (feedLoop (k + 1) y0 y1 y2)
  | 0 => fun _ _ _ r h => by simp [feedLoop] at h
  | k + 1 => by
    have ih := feedLoop_mono k
    intro y0 y1 y2
    unfold feedLoop
    repeat' first
      | (with_reducible exact ih _ _ _)
      | (with_reducible exact LeO.refl _)
      | (with_reducible refine LeO.ite ?_ ?_)
      | (with_reducible refine LeO.bind ?_ (fun _ => ?_))
theorem tlv_Reader_Feed.mono : ∀ a0 a1 a2 a3 k, LeO (tlv_Reader_Feed.f k a0 a1 a2 a3) (tlv_Reader_Feed.f (k + 1) a0 a1 a2 a3) := by
  intro a0 a1 a2 a3 k
  unfold tlv_Reader_Feed.f
  repeat' first
      | (with_reducible exact feedLoop_mono _ _ _ _)
      | (with_reducible exact LeO.refl _)
      | (with_reducible refine LeO.ite ?_ ?_)
theorem infoF29 : (Try.prog.info? 29).map (fun i => (i.zero, i.size, i.bytes)) = some (some (.agg #[(.int .i64 0), (.int .i64 0), (.string ⟨#[]⟩)]), 3, 32) := by kernel_rfl
theorem feed_base {w0 w w1 w2 : World} {g : Nat} {rest : ByteArray} {next er : Int} {out : List S29} {v : Value} (hI : IsS48 w0 w1 g rest next er) (hR : Kd.R k29 29 w1 w.heap.size (fun _ => True) v out) (hB : Below w0.heap.size w0 w1) (hK : KeepBut w w1 g none) (hb : Below w1.heap.size w1 w2) (o : Obj) (n : Nat) :
    Kd.R k29 29 ((w2.alloc o).drewN n) w.heap.size (fun _ => True) v out ∧ IsS48 w0 ((w2.alloc o).drewN n) g rest next er ∧ Below w0.heap.size w0 ((w2.alloc o).drewN n) ∧ KeepBut w ((w2.alloc o).drewN n) g none :=
  ⟨Kd.R_drewN (Kd.R_alloc (Kd.R_below hR hb) _) _, ((hI.below hb).alloc _).drewN _, pw_below_drewN (below_alloc (below_step hB hb) _) _, keep_drewN (keep_alloc (KeepBut.trans hK (KeepBut.of_below hb g none) (.inl rfl)) _) _⟩
theorem feed_end {w0 w W : World} {g : Nat} {rest : ByteArray} {next er : Int} {out : List S29} {v : Value} (h : Kd.R k29 29 W w.heap.size (fun _ => True) v out ∧ IsS48 w0 W g rest next er ∧ Below w0.heap.size w0 W ∧ KeepBut w W g none) (e : Int) :
    Kd.R k29 29 ((W.setCell ⟨g, 2, none⟩ (.int .i64 e)).setCell ⟨g, 0, none⟩ (.string ⟨#[]⟩)) w.heap.size (fun _ => True) v out ∧ IsS48 w0 ((W.setCell ⟨g, 2, none⟩ (.int .i64 e)).setCell ⟨g, 0, none⟩ (.string ⟨#[]⟩)) g ⟨#[]⟩ next e ∧ Below w0.heap.size w0 ((W.setCell ⟨g, 2, none⟩ (.int .i64 e)).setCell ⟨g, 0, none⟩ (.string ⟨#[]⟩)) ∧ KeepBut w ((W.setCell ⟨g, 2, none⟩ (.int .i64 e)).setCell ⟨g, 0, none⟩ (.string ⟨#[]⟩)) g none := by
  obtain ⟨hR, hI, hB, hK⟩ := h
  have h2 := hI.set_2 e
  exact ⟨Kd.R_set (Kd.R_set hR hI.1 (by decide) _ _) h2.1 (by decide) _ _, h2.set_0 _, below_set (below_set hB hI.ge) hI.ge, (hK.set_ _ _).set_ _ _⟩
/-- What holds at the label, where at most n rounds are to come. -/
def FeedAt (w0 w : World) (g : Nat) (a1 : ByteArray) (r : List S29 × Int × ByteArray × Int × Int) (n : Nat) (a' : Act) (w' : World) : Prop :=
  ∃ (rest : ByteArray) (next : Int) (out : List S29) (v u7 u8 u9 u10 u11 u12 u13 u14 u15 u16 u17 u18 u19 u20 u21 u22 u23 u24 u25 u26 u27 u28 u29 u30 u31 u32 u33 u34 u35 u36 u37 u38 u39 u40 u41 u42 u43 u44 u45 u46 u47 u48 u49 u50 u51 u52 u53 u54 u55 u56 u57 u58 u59 u60 u61 u62 u63 u64 u65 u66 u67 u68 u69 u70 u71 u72 u73 u74 u75 u76 u77 u78 u79 u80 u81 : Value), a' = { tmps := #[.pointer (some ⟨g, 0, none⟩), .string a1, undef, undef, .slice none 0 0, .int .i64 0, v, u7, u8, u9, u10, u11, u12, u13, u14, u15, u16, u17, u18, u19, u20, u21, u22, u23, u24, u25, u26, u27, u28, u29, u30, u31, u32, u33, u34, u35, u36, u37, u38, u39, u40, u41, u42, u43, u44, u45, u46, u47, u48, u49, u50, u51, u52, u53, u54, u55, u56, u57, u58, u59, u60, u61, u62, u63, u64, u65, u66, u67, u68, u69, u70, u71, u72, u73, u74, u75, u76, u77, u78, u79, u80, u81], defers := [] } ∧ feedLoop n rest next out = some r ∧ IsS48 w0 w' g rest next 0 ∧ Kd.R k29 29 w' w.heap.size (fun _ => True) v out ∧ Below w0.heap.size w0 w' ∧ KeepBut w w' g none
set_option maxHeartbeats 8000000 in
set_option maxRecDepth 100000 in
theorem tlv_Reader_Feed.calls (k : Nat) (g : Nat) (s0_0 : ByteArray) (s0_1 : Int) (s0_2 : Int) (a1 : ByteArray) (r1 : List S29) (r2 : Int) (r3 : ByteArray) (r4 : Int) (r5 : Int) (w0 w : World) (hI : IsS48 w0 w g s0_0 s0_1 s0_2) (hB : Below w0.heap.size w0 w)
    (h : tlv_Reader_Feed.f k s0_0 s0_1 s0_2 a1 = some (r1, r2, r3, r4, r5)) :
    Calls Try.prog 10 #[.pointer (some ⟨g, 0, none⟩), .string a1] w fun e w' => ∃ v0_ : Value, e = .returned (.tuple #[v0_, .int .i64 r2]) ∧ Kd.R k29 29 w' w.heap.size (fun _ => True) v0_ r1 ∧ IsS48 w0 w' g r3 r4 r5 ∧ Below w0.heap.size w0 w' ∧ KeepBut w w' g none := by
  unfold tlv_Reader_Feed.f at h
  have hu29 := Try.underlying29
  have hu48 := Try.underlying48
  have hblk := hI.1
  have HI := Aside0.mk hI
  have HB := Aside0.mk hB
  clear hI hB
  by_cases c1 : s0_2 = 0
  · subst c1
    rw [if_pos rfl] at h
    by_cases c2 : s0_0.size + a1.size ≤ 9223372036854775807
    · rw [if_pos c2] at h
      have H := Aside0.mk h
      clear h
      go_enter Try.func10, Try.ntmps10
      go_wp2
      have HW := Aside0.mk HB.out.size
      refine wp_scope_ghost 0 (FeedAt w0 w g a1 (r1, r2, r3, r4, r5)) rfl ?_ ?_
      · rintro n a' w1 ⟨rest, next, out, v, u7, u8, u9, u10, u11, u12, u13, u14, u15, u16, u17, u18, u19, u20, u21, u22, u23, u24, u25, u26, u27, u28, u29, u30, u31, u32, u33, u34, u35, u36, u37, u38, u39, u40, u41, u42, u43, u44, u45, u46, u47, u48, u49, u50, u51, u52, u53, u54, u55, u56, u57, u58, u59, u60, u61, u62, u63, u64, u65, u66, u67, u68, u69, u70, u71, u72, u73, u74, u75, u76, u77, u78, u79, u80, u81, rfl, hf, hI1, hR1, hB1, hK1⟩
        cases n with
        | zero => simp [feedLoop] at hf
        | succ n =>
          simp only [feedLoop] at hf
          obtain ⟨p, hp, hf2⟩ := Option.bind_eq_some_iff.1 hf
          clear hf
          have hf := hf2
          clear hf2
          obtain ⟨p1, p2, p3, p4, p5⟩ := p
          simp only at hf
          have HP := Aside0.mk hp
          have hc0 := cellS48_0 hI1.1
          have HI1 := Aside0.mk hI1
          have HR1 := Aside0.mk hR1
          have HB1 := Aside0.mk hB1
          have HK1 := Aside0.mk hK1
          have HF := Aside0.mk hf
          clear hp hI1 hR1 hB1 hK1 hf H HI HB hblk
          by_cases e4 : p5 = 4
          · subst e4
            have hr := Option.some.inj (((if_pos rfl).symm.trans HF.out : _))
            simp only [Prod.mk.injEq] at hr
            obtain ⟨rfl, rfl, rfl, rfl, rfl⟩ := hr
            go_wp2_with (go_at_call 13; refine (tlv_Parse.calls _ _ _ _ _ _ _ HP.out).mono ?_; rintro e w2 ⟨rfl, hb⟩; have HI2 := Aside0.mk (HI1.out.below hb); have hd0 := cellS48_0 HI2.out.1; have hd1 := cellS48_1 HI2.out.1; have hd2 := cellS48_2 HI2.out.1; have hz0 := blk_frozen HI2.out.1 0; have hz1 := blk_frozen HI2.out.1 1; have hz2 := blk_frozen HI2.out.1 2; have hl := HI2.out.lt; have HB2 := Aside0.mk hb; clear hb)
            simp only [Exit.jump]
            go_ret2
            exact ⟨v, rfl, Kd.R_alloc (Kd.R_below HR1.out HB2.out) _, HI2.out.alloc _, below_alloc (below_step HB1.out HB2.out) _, keep_alloc (KeepBut.trans HK1.out (KeepBut.of_below HB2.out g none) (.inl rfl)) _⟩
          · have d4 : (p5 == 4) = false := by rw [beq_eq_false_iff_ne]; exact e4
            have HF2 := Aside0.mk ((if_neg e4).symm.trans HF.out)
            clear HF
            by_cases e1 : p5 = 1
            · subst e1
              have hr := Option.some.inj ((if_pos rfl).symm.trans HF2.out)
              simp only [Prod.mk.injEq] at hr
              obtain ⟨rfl, rfl, rfl, rfl, rfl⟩ := hr
              go_wp2_with (go_at_call 13; refine (tlv_Parse.calls _ _ _ _ _ _ _ HP.out).mono ?_; rintro e w2 ⟨rfl, hb⟩; have HI2 := Aside0.mk (HI1.out.below hb); have hd0 := cellS48_0 HI2.out.1; have hd1 := cellS48_1 HI2.out.1; have hd2 := cellS48_2 HI2.out.1; have hz0 := blk_frozen HI2.out.1 0; have hz1 := blk_frozen HI2.out.1 1; have hz2 := blk_frozen HI2.out.1 2; have hl := HI2.out.lt; have HB2 := Aside0.mk hb; clear hb)
              go_quiet (fail)
              go_wp2
              simp only [Exit.jump]
              go_ret2
              exact ⟨v, rfl, feed_end (feed_base HI1.out HR1.out HB1.out HK1.out HB2.out _ nq) _⟩
            · have d1 : (p5 == 1) = false := by rw [beq_eq_false_iff_ne]; exact e1
              have HF3 := Aside0.mk ((if_neg e1).symm.trans HF2.out)
              clear HF2
              by_cases e0 : p5 = 0
              · subst e0
                have HF4 := Aside0.mk ((if_pos rfl).symm.trans HF3.out)
                clear HF3
                by_cases en : p2 = next
                · subst en
                  have HF5 := Aside0.mk ((if_pos rfl).symm.trans HF4.out)
                  clear HF4
                  by_cases el : out.length < 4398046511104
                  · have HF6 := Aside0.mk ((if_pos el).symm.trans HF5.out)
                    have HL := Aside0.mk el
                    clear HF5 el
                    have dn : (p2 != p2) = false := by simp
                    go_wp2_with (go_at_call 13; refine (tlv_Parse.calls _ _ _ _ _ _ _ HP.out).mono ?_; rintro e w2 ⟨rfl, hb⟩; have HI2 := Aside0.mk (HI1.out.below hb); have hd0 := cellS48_0 HI2.out.1; have hd1 := cellS48_1 HI2.out.1; have hd2 := cellS48_2 HI2.out.1; have hz0 := blk_frozen HI2.out.1 0; have hz1 := blk_frozen HI2.out.1 1; have hz2 := blk_frozen HI2.out.1 2; have hl := HI2.out.lt; have HB2 := Aside0.mk hb; clear hb)
                    go_quiet (fail)
                    have HS := Aside0.mk (feed_base HI1.out HR1.out HB1.out HK1.out HB2.out (.cells #[.int .i64 p1, .int .i64 p2, .string p3] 29) nq)
                    have hx : ((w2.alloc (.cells #[.int .i64 p1, .int .i64 p2, .string p3] 29)).drewN nq).heap[w2.heap.size]? = some (.cells #[.int .i64 p1, .int .i64 p2, .string p3] 29 (0, 0)) := blk_drewN (blk_new _ _) _
                    clear HI1 HR1 HB1 HK1 HI2 hd0 hd1 hd2 hz0 hz1 hz2
                    generalize (w2.alloc (.cells #[.int .i64 p1, .int .i64 p2, .string p3] 29)).drewN nq = W4 at *
                    have hx0 : W4.cell? ⟨w2.heap.size, 0, none⟩ = some (.int .i64 p1) := blk_cell hx 0
                    have hx1 : W4.cell? ⟨w2.heap.size, 1, none⟩ = some (.int .i64 p2) := blk_cell hx 1
                    have hx2 : W4.cell? ⟨w2.heap.size, 2, none⟩ = some (.string p3) := blk_cell hx 2
                    clear hx
                    go_wp2_with ((with_reducible refine gate_builtin (b := .append) (xs := #[.tmp 67, .tmp 69]) rfl ?_); at_builtin; refine Kd.R_append k29 w.heap.size rfl (.tmp 67) (.tmp 69) 26 29 (.agg #[(.int .i64 0), (.int .i64 0), (.string ⟨#[]⟩)]) 32 rfl Try.underlying26 infoF29 rfl (by decide) (by omega) v out (⟨p1, p2, p3⟩ : S29) [.int .i64 p1, .int .i64 p2, .string p3] (fun _ => True) (fun _ => False) rfl rfl ?aP (fun _ hk => hk.elim) (fun _ _ => trivial) HS.out.1 (Below.refl _ _) (keep_size HS.out.2.2.2) ?aL ?_; (case aP => exact k29_mkM _ _ _ (⟨p1, p2, p3⟩ : S29)); (case aL => have := HL.out; omega); intro v3 w3 ho hb hg hat; have HS3 := Aside0.mk (⟨ho, HS.out.2.1.grown hg (IsS48.own_ne HS.out.2.1 HS.out.1 (by decide)), HS.out.2.2.1.grown hg HS.out.2.2.1.size (fun k hk => Nat.le_trans HW.out (Kd.R_base HS.out.1 k hk)), KeepBut.trans HS.out.2.2.2 (KeepBut.of_grown hg g) (Kd.R_base2 HS.out.1)⟩ : Kd.R k29 29 w3 w.heap.size (fun _ => True) v3 (out ++ [(⟨p1, p2, p3⟩ : S29)]) ∧ IsS48 w0 w3 g rest p2 0 ∧ Below w0.heap.size w0 w3 ∧ KeepBut w w3 g none); clear ho hb hg hat HS; have hd0 := cellS48_0 HS3.out.2.1.1; have hd1 := cellS48_1 HS3.out.2.1.1; have hz0 := blk_frozen HS3.out.2.1.1 0; have hz1 := blk_frozen HS3.out.2.1.1 1)
                    go_step3
                    obtain ⟨hR3, hI3, hB3, hK3⟩ := HS3.out
                    have hI4 := hI3.set_0 p4
                    exact ⟨rfl, n, Nat.lt_succ_self n, p4, wrap64 (p2 + 1), _, v3, _, _, _, _, _, _, _, _, _, _, _, _, _, _, _, _, _, _, _, _, _, _, _, _, _, _, _, _, _, _, _, _, _, _, _, _, _, _, _, _, _, _, _, _, _, _, _, _, _, _, _, _, _, _, _, _, _, _, _, _, _, _, _, _, _, _, _, _, _, _, _, _, _, _, _, rfl, HF6.out, hI4.set_1 _, Kd.R_set (Kd.R_set hR3 hI3.1 (by decide) _ _) hI4.1 (by decide) _ _, below_set (below_set hB3 hI3.ge) hI3.ge, (hK3.set_ _ _).set_ _ _⟩
                  · exact absurd ((if_neg el).symm.trans HF5.out) (by simp)
                · have dn : (p2 != next) = true := by rw [bne_iff_ne]; exact en
                  have hr := Option.some.inj ((if_neg en).symm.trans HF4.out)
                  simp only [Prod.mk.injEq] at hr
                  obtain ⟨rfl, rfl, rfl, rfl, rfl⟩ := hr
                  go_wp2_with (go_at_call 13; refine (tlv_Parse.calls _ _ _ _ _ _ _ HP.out).mono ?_; rintro e w2 ⟨rfl, hb⟩; have HI2 := Aside0.mk (HI1.out.below hb); have hd0 := cellS48_0 HI2.out.1; have hd1 := cellS48_1 HI2.out.1; have hd2 := cellS48_2 HI2.out.1; have hz0 := blk_frozen HI2.out.1 0; have hz1 := blk_frozen HI2.out.1 1; have hz2 := blk_frozen HI2.out.1 2; have hl := HI2.out.lt; have HB2 := Aside0.mk hb; clear hb)
                  go_quiet (fail)
                  go_wp2
                  simp only [Exit.jump]
                  go_ret2
                  exact ⟨v, rfl, feed_end (feed_base HI1.out HR1.out HB1.out HK1.out HB2.out _ nq) _⟩
              · have d0 : (p5 == 0) = false := by rw [beq_eq_false_iff_ne]; exact e0
                have d0' : (p5 != 0) = true := by rw [bne_iff_ne]; exact e0
                have hr := Option.some.inj ((if_neg e0).symm.trans HF3.out)
                simp only [Prod.mk.injEq] at hr
                obtain ⟨rfl, rfl, rfl, rfl, rfl⟩ := hr
                go_wp2_with (go_at_call 13; refine (tlv_Parse.calls _ _ _ _ _ _ _ HP.out).mono ?_; rintro e w2 ⟨rfl, hb⟩; have HI2 := Aside0.mk (HI1.out.below hb); have hd0 := cellS48_0 HI2.out.1; have hd1 := cellS48_1 HI2.out.1; have hd2 := cellS48_2 HI2.out.1; have hz0 := blk_frozen HI2.out.1 0; have hz1 := blk_frozen HI2.out.1 1; have hz2 := blk_frozen HI2.out.1 2; have hl := HI2.out.lt; have HB2 := Aside0.mk hb; clear hb)
                go_quiet (fail)
                go_wp2
                simp only [Exit.jump]
                go_ret2
                exact ⟨v, rfl, feed_end (feed_base HI1.out HR1.out HB1.out HK1.out HB2.out _ nq) _⟩
      · intro pass
        have hc0 := cellS48_0 hblk
        have hc2 := cellS48_2 hblk
        have hf0 := blk_frozen hblk 0
        have hsum : s0_0.size + a1.size ≤ 9223372036854775807 := c2
        clear hblk
        go_wp2
        go_step3
        rename_i K hK
        refine hK _ _ (pass k _ _ ⟨s0_0 ++ a1, s0_1, [], _, _, _, _, _, _, _, _, _, _, _, _, _, _, _, _, _, _, _, _, _, _, _, _, _, _, _, _, _, _, _, _, _, _, _, _, _, _, _, _, _, _, _, _, _, _, _, _, _, _, _, _, _, _, _, _, _, _, _, _, _, _, _, _, _, _, _, _, _, _, _, _, _, _, _, _, rfl, H.out, HI.out.set_0 _, Kd.R_nil _ _ _ _ _, below_set HB.out HI.out.ge, (KeepBut.refl w g none).set_ _ _⟩)
    · rw [if_neg c2] at h
      exact absurd h (by simp)
  · rw [if_neg c1] at h
    have hr := Option.some.inj h
    simp only [Prod.mk.injEq] at hr
    obtain ⟨rfl, rfl, rfl, rfl, rfl⟩ := hr
    have d1 : (s0_2 != 0) = true := by rw [bne_iff_ne]; exact c1
    have hc0 := cellS48_0 hblk
    have hc2 := cellS48_2 hblk
    clear hblk
    go_enter Try.func10, Try.ntmps10
    go_wp2
    go_step3
    go_wp2
    go_quiet (fail)
    go_wp2
    rw [Exit.noGoto_ret]
    go_ret2
    exact ⟨_, rfl, Kd.R_nil _ _ _ _ _, HI.out.drewN _, pw_below_drewN HB.out _, keep_drewN (KeepBut.refl w g none) _⟩

/-! ### tlv_Reader_Next: function 14 -/
def tlv_Reader_Next.f (s0_0 : ByteArray) (s0_1 : Int) (s0_2 : Int) : Option (Int × ByteArray × Int × Int) := some (s0_1, s0_0, s0_1, s0_2)
set_option maxHeartbeats 8000000 in
set_option maxRecDepth 100000 in
theorem tlv_Reader_Next.calls (g : Nat) (s0_0 : ByteArray) (s0_1 : Int) (s0_2 : Int) (r1 : Int) (r2 : ByteArray) (r3 : Int) (r4 : Int) (w0 w : World) (hI : IsS48 w0 w g s0_0 s0_1 s0_2) (hB : Below w0.heap.size w0 w) (h : tlv_Reader_Next.f s0_0 s0_1 s0_2 = some (r1, r2, r3, r4)) :
    Calls Try.prog 14 #[.pointer (some ⟨g, 0, none⟩)] w fun e w' => e = .returned (.int .i64 r1) ∧ IsS48 w0 w' g r2 r3 r4 ∧ Below w0.heap.size w0 w' ∧ KeepBut w w' g none := by
  have HI0 := Aside0.mk hI
  have HK := Aside0.mk (KeepBut.refl w g none)
  have HL := Aside0.mk hB.size
  clear hI
  have HW0 := Aside0.mk hB.size
  have HB := Aside0.mk hB
  clear hB
  have H : (some (s0_1, s0_0, s0_1, s0_2)) = some (r1, r2, r3, r4) := h
  clear h
  simp only [Option.some.injEq, Prod.mk.injEq] at H
  obtain ⟨rfl, rfl, rfl, rfl⟩ := H
  obtain ⟨HGz2, hgz2⟩ := HI0.out
  have hcz2_0 := cellS48_0 HGz2
  have hcz2_1 := cellS48_1 HGz2
  have hcz2_2 := cellS48_2 HGz2
  have hfz2_0 := blk_frozen HGz2 0
  have hfz2_1 := blk_frozen HGz2 1
  have hfz2_2 := blk_frozen HGz2 2
  clear HGz2 hgz2
  go_enter Try.func14, Try.ntmps14
  go_wp2
  go_ret
  exact ⟨by first | rfl | (simp [errW_none, errW_some] <;> rfl) | (simp [*, errW_none, errW_some] <;> rfl), by repeat (first | (with_reducible first | exact HI0.out | apply IsS48.alloc | apply IsS48.drewN | apply IsS48.drew | apply IsS48.set_0 | apply IsS48.set_1 | apply IsS48.set_2) | exact HI0.out), by repeat (first | (with_reducible first | exact HB.out | apply below_alloc | apply pw_below_drewN | apply below_drew1 | refine below_set ?_ (IsS48.ge HI0.out)) | exact HB.out), by repeat (first | (with_reducible first | exact HK.out | apply KeepBut.set_ | apply keep_drewN | apply keep_drew | apply keep_alloc) | exact HK.out)⟩

/-! ### snapferrylaw04_awake: function 6 -/
theorem aw1 : tlv_Print.f 1 1 0 (⟨#[97, 98]⟩ : ByteArray) = some ((⟨#[1, 0, 0, 0, 0, 0, 2, 97, 98, 2, 178, 119, 19]⟩ : ByteArray), 0) := by kernel_rfl
theorem aw2 : tlv_Parse.f (⟨#[1, 0, 0, 0, 0, 0, 2, 97, 98, 2, 178, 119, 19, 109, 111, 114, 101]⟩ : ByteArray) = some (1, 0, (⟨#[97, 98]⟩ : ByteArray), (⟨#[109, 111, 114, 101]⟩ : ByteArray), 0) := by kernel_rfl
theorem aw3 : tlv_Reader_Feed.f 5 (⟨#[]⟩ : ByteArray) 0 0 ((⟨#[1, 0, 0, 0, 0, 0, 2, 97, 98, 2, 178, 119, 19]⟩ : ByteArray).extract 0 5) = some ([], 0, (⟨#[1, 0, 0, 0, 0]⟩ : ByteArray), 0, 0) := by kernel_rfl
theorem aw4 : tlv_Reader_Feed.f 5 (⟨#[1, 0, 0, 0, 0]⟩ : ByteArray) 0 0 ((⟨#[1, 0, 0, 0, 0, 0, 2, 97, 98, 2, 178, 119, 19]⟩ : ByteArray).extract 5 13 ++ (⟨#[1, 0, 0, 0, 0, 0, 2, 97, 98, 2, 178, 119, 19]⟩ : ByteArray)) = some ([⟨1, 0, ⟨#[97, 98]⟩⟩], 18, ⟨#[]⟩, 1, 18) := by kernel_rfl
theorem aw5 : tlv_Reader_Feed.f 5 (⟨#[]⟩ : ByteArray) 1 18 (⟨#[]⟩ : ByteArray) = some ([], 18, ⟨#[]⟩, 1, 18) := by kernel_rfl
def snapferrylaw04_awake.f : Option Bool := some true
theorem next_quiet (g : Nat) (next : Int) (w : World) (h : w.cell? ⟨g, 1, none⟩ = some (.int .i64 next)) : Calls Try.prog 14 #[.pointer (some ⟨g, 0, none⟩)] w fun e w' => e = .returned (.int .i64 next) ∧ w' = w := by
  have hu48 := Try.underlying48
  go_enter Try.func14, Try.ntmps14
  go_wp2
  go_ret
  exact ⟨rfl, rfl⟩
set_option maxRecDepth 100000 in
set_option maxHeartbeats 4000000 in
theorem snapferrylaw04_awake.calls (r : Bool) (w : World) (h : snapferrylaw04_awake.f = some r) : Calls Try.prog 6 #[] w fun e w' => e = .returned (.bool r) ∧ Below w.heap.size w w' := by
  obtain rfl := Option.some.inj h
  clear h
  have hu29 := Try.underlying29
  have hu48 := Try.underlying48
  have HB := Aside0.mk (Below.refl w.heap.size w)
  go_enter Try.func6, Try.ntmps6
  go_wp2_with (first | (go_at_call 8; refine (tlv_Print.calls 1 1 0 (⟨#[97, 98]⟩ : ByteArray) _ _ _ aw1).mono ?_; rintro e w1 ⟨rfl, hb⟩; have HB1 := Aside0.mk hb; clear hb) | (go_at_call 13; refine (tlv_Parse.calls _ _ _ _ _ _ _ aw2).mono ?_; rintro e w2 ⟨rfl, hb⟩; have HB2 := Aside0.mk (Below.trans HB1.out (Below.mono hb HB1.out.size)); clear hb) | (go_at_call 9; refine (tlv_New.calls _ _ _ w _ (below_alloc HB2.out _) rfl).mono ?_; rintro e w3 ⟨g, rfl, hI, hB3, hb3⟩; have hx := blk_below (blk_new w2 (.cells #[.int .i64 1, .int .i64 0, .string (⟨#[97, 98]⟩ : ByteArray)] 29)) hb3; have HX := Aside0.mk hx; have HI3 := Aside0.mk hI; have HB3 := Aside0.mk hB3; clear hI hB3 hb3 hx))
  refine (tlv_Reader_Feed.calls _ _ _ _ _ _ _ _ _ _ _ w _ HI3.out HB3.out aw3).mono ?_
  rintro e w4 ⟨va, rfl, hR, hI, hB, hK⟩
  have HX4 := Aside0.mk (hK.blk HX.out (fun e => absurd (HX.out.symm.trans (e ▸ HI3.out.1)) (by simp)) (by simp))
  have HI4 := Aside0.mk hI
  have HB4 := Aside0.mk hB
  obtain ⟨Aa, ca, rfl⟩ := Kd.R_slice hR
  clear hR hI hB hK HX HI3 HB3
  go_wp2_with fail
  refine (tlv_Reader_Feed.calls _ _ _ _ _ _ _ _ _ _ _ w _ HI4.out HB4.out aw4).mono ?_
  rintro e w5 ⟨vb, rfl, hR, hI, hB, hK⟩
  have HX5 := Aside0.mk (hK.blk HX4.out (fun e => absurd (HX4.out.symm.trans (e ▸ HI4.out.1)) (by simp)) (by simp))
  have HI5 := Aside0.mk hI
  have HB5 := Aside0.mk hB
  have hBw := Kd.R_base hR
  obtain ⟨inner, hown⟩ := Kd.R_own hR
  rcases hown.2 with ⟨_, h0⟩ | ⟨bb, cb, cur, hv, _, hbk, _⟩
  · exact absurd h0 (by decide)
  subst hv
  have hrd := (Kd.R_reads' hR).2.2
  have hbb : w4.heap.size ≤ bb := hBw bb rfl
  obtain ⟨ab, hab, hy0, hy1, hy2⟩ := at_T29 hrd 0 (by decide) (by decide)
  obtain rfl := Option.some.inj hab
  have hne := Aside0.mk (show bb ≠ g by have := HI4.out.lt; omega)
  have hy0' : w5.cell? ⟨bb, 0, none⟩ = some (.int .i64 1) := hy0
  have hy1' : w5.cell? ⟨bb, 1, none⟩ = some (.int .i64 0) := hy1
  have hy2' : w5.cell? ⟨bb, 2, none⟩ = some (.string ⟨#[97, 98]⟩) := hy2
  have HY := Aside0.mk (And.intro hy0' (And.intro hy1' hy2'))
  clear hBw hrd hown hbk hbb hy0 hy1 hy2 hab hy0' hy1' hy2'
  clear hR hI hB hK HX4 HI4 HB4
  go_wp2_with fail
  refine (tlv_Reader_Feed.calls _ _ _ _ _ _ _ _ _ _ _ w _ HI5.out HB5.out aw5).mono ?_
  rintro e w6 ⟨vc, rfl, hR, hI, hB, hK⟩
  have HX6 := hK.blk HX5.out (fun e => absurd (HX5.out.symm.trans (e ▸ HI5.out.1)) (by simp)) (by simp)
  obtain ⟨Ac, cc, rfl⟩ := Kd.R_slice hR
  have HB6 := Aside0.mk hB
  have hc1 := cellS48_1 hI.1
  have hy0 := keep_cell hK HY.out.1 hne.out
  have hy1 := keep_cell hK HY.out.2.1 hne.out
  have hy2 := keep_cell hK HY.out.2.2 hne.out
  have hx0 : w6.cell? ⟨w2.heap.size, 0, none⟩ = some (.int .i64 1) := blk_cell HX6 0
  have hx1 : w6.cell? ⟨w2.heap.size, 1, none⟩ = some (.int .i64 0) := blk_cell HX6 1
  have hx2 : w6.cell? ⟨w2.heap.size, 2, none⟩ = some (.string ⟨#[97, 98]⟩) := blk_cell HX6 2
  clear hR hI hB hK HX5 HI5 HB5 HY HX6 hne
  go_wp2_with fail
  go_quiet ((go_at_call 14; exact Calls.quiet_of_same (next_quiet g 1 _ hc1)))
  go_wp2
  go_ret
  exact ⟨rfl, pw_below_drewN HB6.out _⟩

/-! ### snapferrylaw04_few: function 7 -/
def snapferrylaw04_few.l0 : Nat → List ByteArray → Int → Int → Option (Bool)
  | 0, _, _, _ => none
  | k + 1, x0, x3, x4 => if x4 < (x0.length : Int) then (if 0 ≤ x4 then (if x4 ≥ 100 then (some false) else (if (wrap64 (x3 + ((rdOf ByteArray.empty x0 x4).size : Int))) > 12000 then (some false) else (snapferrylaw04_few.l0 k x0 (wrap64 (x3 + ((rdOf ByteArray.empty x0 x4).size : Int))) (wrap64 (x4 + 1))))) else (none)) else (some true)
def snapferrylaw04_few.f (k : Nat) (l0 : List ByteArray) : Option (Bool) := snapferrylaw04_few.l0 k l0 0 0
theorem snapferrylaw04_few.mono_l : ∀ k, (∀ y0 y1 y2, LeO (snapferrylaw04_few.l0 k y0 y1 y2) (snapferrylaw04_few.l0 (k + 1) y0 y1 y2))
  | 0 => fun _ _ _ r h => by simp [snapferrylaw04_few.l0] at h
  | k + 1 => by
    have ih0 := snapferrylaw04_few.mono_l k
    · intro y0 y1 y2
      unfold snapferrylaw04_few.l0
      repeat' first
      | (with_reducible exact ih0 _ _ _)
      | (with_reducible exact LeO.refl _)
      | (with_reducible exact LeO.none _)
      | (with_reducible refine LeO.ite ?_ ?_)
      | (with_reducible refine LeO.bind ?_ (fun _ => ?_))
      | exact ih0 _ _ _
      | exact LeO.none _
      | refine LeO.ite ?_ ?_
      | refine LeO.bind ?_ (fun _ => ?_)
theorem snapferrylaw04_few.mono : ∀ a0 k, LeO (snapferrylaw04_few.f k a0) (snapferrylaw04_few.f (k + 1) a0) := by
  intro a0 k
  have ih0 := snapferrylaw04_few.mono_l k
  unfold snapferrylaw04_few.f
  repeat' first
      | (with_reducible exact ih0 _ _ _)
      | (with_reducible exact LeO.refl _)
      | (with_reducible exact LeO.none _)
      | (with_reducible refine LeO.ite ?_ ?_)
      | (with_reducible refine LeO.bind ?_ (fun _ => ?_))
      | exact ih0 _ _ _
      | exact LeO.none _
      | refine LeO.ite ?_ ?_
      | refine LeO.bind ?_ (fun _ => ?_)
set_option maxHeartbeats 8000000 in
set_option maxRecDepth 100000 in
theorem snapferrylaw04_few.calls (k : Nat) (A0 : Option Addr) (c0 : Nat) (l0 : List ByteArray) (r : Bool) (w : World) (hr0 : Kd.C Kd.string w A0 l0.length l0) (hc0 : l0.length ≤ c0) (h : snapferrylaw04_few.f k l0 = some r) :
    Calls Try.prog 7 #[.slice A0 l0.length c0] w fun e w' => e = .returned (.bool r) ∧ Drawn0 w w' := by
  have HR0 := Aside0.mk hr0
  have HC0 := Aside0.mk hc0
  clear hr0 hc0
  have H : (snapferrylaw04_few.l0 k l0 0 0) = some r := h
  clear h
  have H' := Aside0.mk H
  clear H
  go_enter Try.func7, Try.ntmps7
  go_wp2
  go_loopg [3, 4] k (fun kq v3 v4 w' => ∃ (x3_1 : Int) (x4_1 : Int), v3 = .int .i64 x3_1 ∧ v4 = .int .i64 x4_1 ∧ Aside0 (snapferrylaw04_few.l0 kq l0 x3_1 x4_1 = some r) ∧ Aside0 (kq ≤ k) ∧ Drawn0 w w')
  case atStart => exact ⟨(0), (0), (by first | rfl | (simp; done) | (simp [*]; done)), (by first | rfl | (simp; done) | (simp [*]; done)), H', ⟨Nat.le_refl _⟩, by repeat (first | exact Drawn0.refl _ | apply Drawn0.step)⟩
  case round =>
    clear H'
    obtain ⟨x3_1, x4_1, rfl, rfl, HA, HK1, ⟨m1, rfl⟩⟩ := hrel
    cases gk with
    | zero => exact absurd HA.out (by simp [snapferrylaw04_few.l0])
    | succ k1 =>
      have H := HA.out
      clear HA
      simp only [snapferrylaw04_few.l0] at H
      by_cases c2 : x4_1 < (l0.length : Int)
      · rw [if_pos c2] at H
        have c2b0 : decide (x4_1 < (l0.length : Int)) = true := decide_eq_true c2
        clear c2
        by_cases c3 : 0 ≤ x4_1
        · rw [if_pos c3] at H
          have c3b0 : decide (0 ≤ x4_1) = true := decide_eq_true c3
          clear c3
          by_cases c4 : x4_1 ≥ 100
          · rw [if_pos c4] at H
            have c4b0 : decide (100 ≤ x4_1) = true := decide_eq_true c4
            clear c4
            obtain rfl := Option.some.inj H
            have p119 : 0 ≤ (x4_1 : Int) := of_decide_eq_true (by first | (with_reducible assumption) | assumption)
            have q119 : x4_1 < (l0.length : Int) := of_decide_eq_true (by first | (with_reducible assumption) | assumption)
            obtain ⟨ad119, e119, hx119_0⟩ := Kd.at_string HR0.out x4_1 p119 q119
            cases e119
            replace p119 := eq_true p119
            replace q119 := eq_true q119
            go_wp2
            go_ret
            exact ⟨by first | rfl | (simp; done) | (simp [*]; done), by repeat (first | exact Drawn0.refl _ | apply Drawn0.step)⟩
          · rw [if_neg c4] at H
            have c4b0 : decide (100 ≤ x4_1) = false := decide_eq_false c4
            clear c4
            by_cases c5 : (wrap64 (x3_1 + ((rdOf ByteArray.empty l0 x4_1).size : Int))) > 12000
            · rw [if_pos c5] at H
              have c5b0 : decide (12000 < (wrap64 (x3_1 + ((rdOf ByteArray.empty l0 x4_1).size : Int)))) = true := decide_eq_true c5
              clear c5
              obtain rfl := Option.some.inj H
              have p119 : 0 ≤ (x4_1 : Int) := of_decide_eq_true (by first | (with_reducible assumption) | assumption)
              have q119 : x4_1 < (l0.length : Int) := of_decide_eq_true (by first | (with_reducible assumption) | assumption)
              obtain ⟨ad119, e119, hx119_0⟩ := Kd.at_string HR0.out x4_1 p119 q119
              cases e119
              replace p119 := eq_true p119
              replace q119 := eq_true q119
              go_wp2
              go_ret
              exact ⟨by first | rfl | (simp; done) | (simp [*]; done), by repeat (first | exact Drawn0.refl _ | apply Drawn0.step)⟩
            · rw [if_neg c5] at H
              have c5b0 : decide (12000 < (wrap64 (x3_1 + ((rdOf ByteArray.empty l0 x4_1).size : Int)))) = false := decide_eq_false c5
              clear c5
              have H' := Aside0.mk H
              clear H
              have p119 : 0 ≤ (x4_1 : Int) := of_decide_eq_true (by first | (with_reducible assumption) | assumption)
              have q119 : x4_1 < (l0.length : Int) := of_decide_eq_true (by first | (with_reducible assumption) | assumption)
              obtain ⟨ad119, e119, hx119_0⟩ := Kd.at_string HR0.out x4_1 p119 q119
              cases e119
              replace p119 := eq_true p119
              replace q119 := eq_true q119
              go_wp2
              go_roundg k1
              case measure => have := HK1.out; omega
              case rel => exact ⟨(wrap64 (x3_1 + ((rdOf ByteArray.empty l0 x4_1).size : Int))), (wrap64 (x4_1 + 1)), (by first | rfl | (simp; done) | (simp [*]; done)), (by first | rfl | (simp; done) | (simp [*]; done)), H', ⟨by have := HK1.out; omega⟩, by repeat (first | exact Drawn0.refl _ | apply Drawn0.step)⟩
        · rw [if_neg c3] at H
          exact absurd H (by simp)
      · rw [if_neg c2] at H
        have c2b0 : decide (x4_1 < (l0.length : Int)) = false := decide_eq_false c2
        clear c2
        obtain rfl := Option.some.inj H
        go_wp2
        go_ret
        exact ⟨by first | rfl | (simp; done) | (simp [*]; done), by repeat (first | exact Drawn0.refl _ | apply Drawn0.step)⟩

/-! ### snapferryref04_Same: function 11 -/
def snapferryref04_Same.l0 : Nat → List (S49) → List (S49) → Int → Option (Bool)
  | 0, _, _, _ => none
  | k + 1, x0, x1, x5 => if x5 < (x0.length : Int) then (if 0 ≤ x5 then (if x5 < (x1.length : Int) then (if (!(((rd_T49 x0 x5).f0) == ((rd_T49 x1 x5).f0)) || (!(((rd_T49 x0 x5).f1) == ((rd_T49 x1 x5).f1)) || (!((((rd_T49 x0 x5).f2).toList) == (((rd_T49 x1 x5).f2).toList))))) = true then (some false) else (snapferryref04_Same.l0 k x0 x1 (wrap64 (x5 + 1)))) else (none)) else (none)) else (some true)
def snapferryref04_Same.f (k : Nat) (l0 : List (S49)) (l1 : List (S49)) : Option (Bool) := if (l0.length : Int) = (l1.length : Int) then (snapferryref04_Same.l0 k l0 l1 0) else (some false)
theorem snapferryref04_Same.mono_l : ∀ k, (∀ y0 y1 y2, LeO (snapferryref04_Same.l0 k y0 y1 y2) (snapferryref04_Same.l0 (k + 1) y0 y1 y2))
  | 0 => fun _ _ _ r h => by simp [snapferryref04_Same.l0] at h
  | k + 1 => by
    have ih0 := snapferryref04_Same.mono_l k
    · intro y0 y1 y2
      unfold snapferryref04_Same.l0
      repeat' first
      | (with_reducible exact ih0 _ _ _)
      | (with_reducible exact LeO.refl _)
      | (with_reducible exact LeO.none _)
      | (with_reducible refine LeO.ite ?_ ?_)
      | (with_reducible refine LeO.bind ?_ (fun _ => ?_))
      | exact ih0 _ _ _
      | exact LeO.none _
      | refine LeO.ite ?_ ?_
      | refine LeO.bind ?_ (fun _ => ?_)
theorem snapferryref04_Same.mono : ∀ a0 a1 k, LeO (snapferryref04_Same.f k a0 a1) (snapferryref04_Same.f (k + 1) a0 a1) := by
  intro a0 a1 k
  have ih0 := snapferryref04_Same.mono_l k
  unfold snapferryref04_Same.f
  repeat' first
      | (with_reducible exact ih0 _ _ _)
      | (with_reducible exact LeO.refl _)
      | (with_reducible exact LeO.none _)
      | (with_reducible refine LeO.ite ?_ ?_)
      | (with_reducible refine LeO.bind ?_ (fun _ => ?_))
      | exact ih0 _ _ _
      | exact LeO.none _
      | refine LeO.ite ?_ ?_
      | refine LeO.bind ?_ (fun _ => ?_)
set_option maxHeartbeats 8000000 in
set_option maxRecDepth 100000 in
theorem snapferryref04_Same.calls (k : Nat) (A0 : Option Addr) (c0 : Nat) (l0 : List (S49)) (A1 : Option Addr) (c1 : Nat) (l1 : List (S49)) (r : Bool) (w : World) (hr0 : Kd.C k49 w A0 l0.length l0) (hc0 : l0.length ≤ c0) (hr1 : Kd.C k49 w A1 l1.length l1) (hc1 : l1.length ≤ c1) (h : snapferryref04_Same.f k l0 l1 = some r) :
    Calls Try.prog 11 #[.slice A0 l0.length c0, .slice A1 l1.length c1] w fun e w' => e = .returned (.bool r) ∧ Drawn0 w w' := by
  have hu49 := Try.underlying49
  have HR0 := Aside0.mk hr0
  have HC0 := Aside0.mk hc0
  clear hr0 hc0
  have HR1 := Aside0.mk hr1
  have HC1 := Aside0.mk hc1
  clear hr1 hc1
  have H : (if (l0.length : Int) = (l1.length : Int) then (snapferryref04_Same.l0 k l0 l1 0) else (some false)) = some r := h
  clear h
  by_cases c3 : (l0.length : Int) = (l1.length : Int)
  · rw [if_pos c3] at H
    have c3b0 : ((l0.length : Int) == (l1.length : Int)) = true := beq_iff_eq.mpr c3
    have c3b1 : ((l0.length : Int) != (l1.length : Int)) = false := bne_eq_false_iff_eq.mpr c3
    have c3b2 : (l0.length == l1.length) = true := by first | simpa using c3 | (simp at c3 ⊢; omega)
    clear c3
    have H' := Aside0.mk H
    clear H
    go_enter Try.func11, Try.ntmps11
    go_wp2
    repeat (go_quiet (fail); try go_wp2)
    go_loopg [5] k (fun kq v5 w' => ∃ (x5_1 : Int), v5 = .int .i64 x5_1 ∧ Aside0 (snapferryref04_Same.l0 kq l0 l1 x5_1 = some r) ∧ Aside0 (kq ≤ k) ∧ Drawn0 w w')
    case atStart => exact ⟨(0), (by first | rfl | (simp; done) | (simp [*]; done)), H', ⟨Nat.le_refl _⟩, by repeat (first | exact Drawn0.refl _ | apply Drawn0.step)⟩
    case round =>
      clear H'
      try clear c1
      try clear p2
      try clear c3
      try clear c3b0
      try clear c3b1
      try clear c3b2
      obtain ⟨x5_1, rfl, HA, HK1, ⟨m1, rfl⟩⟩ := hrel
      cases gk with
      | zero => exact absurd HA.out (by simp [snapferryref04_Same.l0])
      | succ k1 =>
        have H := HA.out
        clear HA
        simp only [snapferryref04_Same.l0] at H
        by_cases c4 : x5_1 < (l0.length : Int)
        · rw [if_pos c4] at H
          have c4b0 : decide (x5_1 < (l0.length : Int)) = true := decide_eq_true c4
          clear c4
          by_cases c5 : 0 ≤ x5_1
          · rw [if_pos c5] at H
            have c5b0 : decide (0 ≤ x5_1) = true := decide_eq_true c5
            clear c5
            by_cases c6 : x5_1 < (l1.length : Int)
            · rw [if_pos c6] at H
              have c6b0 : decide (x5_1 < (l1.length : Int)) = true := decide_eq_true c6
              clear c6
              by_cases c7 : (!(((rd_T49 l0 x5_1).f0) == ((rd_T49 l1 x5_1).f0)) || (!(((rd_T49 l0 x5_1).f1) == ((rd_T49 l1 x5_1).f1)) || (!((((rd_T49 l0 x5_1).f2).toList) == (((rd_T49 l1 x5_1).f2).toList))))) = true
              · rw [if_pos c7] at H
                have c7b0 : (!(((rd_T49 l0 x5_1).f0) == ((rd_T49 l1 x5_1).f0)) || (!(((rd_T49 l0 x5_1).f1) == ((rd_T49 l1 x5_1).f1)) || (!((((rd_T49 l0 x5_1).f2).toList) == (((rd_T49 l1 x5_1).f2).toList))))) = true := c7
                clear c7
                obtain rfl := Option.some.inj H
                have p120 : 0 ≤ (x5_1 : Int) := of_decide_eq_true (by first | (with_reducible assumption) | assumption)
                have q120 : x5_1 < (l0.length : Int) := of_decide_eq_true (by first | (with_reducible assumption) | assumption)
                obtain ⟨ad120, e120, hx120_0, hx120_1, hx120_2⟩ := at_T49 HR0.out x5_1 p120 q120
                cases e120
                replace p120 := eq_true p120
                replace q120 := eq_true q120
                have p121 : 0 ≤ (x5_1 : Int) := of_decide_eq_true (by first | (with_reducible assumption) | assumption)
                have q121 : x5_1 < (l1.length : Int) := of_decide_eq_true (by first | (with_reducible assumption) | assumption)
                obtain ⟨ad121, e121, hx121_0, hx121_1, hx121_2⟩ := at_T49 HR1.out x5_1 p121 q121
                cases e121
                replace p121 := eq_true p121
                replace q121 := eq_true q121
                go_wp2
                repeat (go_quiet (fail); try go_wp2)
                go_ret
                exact ⟨by first | rfl | (simp; done) | (simp [*]; done), by repeat (first | exact Drawn0.refl _ | apply Drawn0.step)⟩
              · rw [if_neg c7] at H
                have c7b0 : (!(((rd_T49 l0 x5_1).f0) == ((rd_T49 l1 x5_1).f0)) || (!(((rd_T49 l0 x5_1).f1) == ((rd_T49 l1 x5_1).f1)) || (!((((rd_T49 l0 x5_1).f2).toList) == (((rd_T49 l1 x5_1).f2).toList))))) = false := by simpa using c7
                clear c7
                have H' := Aside0.mk H
                clear H
                have p120 : 0 ≤ (x5_1 : Int) := of_decide_eq_true (by first | (with_reducible assumption) | assumption)
                have q120 : x5_1 < (l0.length : Int) := of_decide_eq_true (by first | (with_reducible assumption) | assumption)
                obtain ⟨ad120, e120, hx120_0, hx120_1, hx120_2⟩ := at_T49 HR0.out x5_1 p120 q120
                cases e120
                replace p120 := eq_true p120
                replace q120 := eq_true q120
                have p121 : 0 ≤ (x5_1 : Int) := of_decide_eq_true (by first | (with_reducible assumption) | assumption)
                have q121 : x5_1 < (l1.length : Int) := of_decide_eq_true (by first | (with_reducible assumption) | assumption)
                obtain ⟨ad121, e121, hx121_0, hx121_1, hx121_2⟩ := at_T49 HR1.out x5_1 p121 q121
                cases e121
                replace p121 := eq_true p121
                replace q121 := eq_true q121
                go_wp2
                repeat (go_quiet (fail); try go_wp2)
                go_roundg k1
                case measure => have := HK1.out; omega
                case rel => exact ⟨(wrap64 (x5_1 + 1)), (by first | rfl | (simp; done) | (simp [*]; done)), H', ⟨by have := HK1.out; omega⟩, by repeat (first | exact Drawn0.refl _ | apply Drawn0.step)⟩
            · rw [if_neg c6] at H
              exact absurd H (by simp)
          · rw [if_neg c5] at H
            exact absurd H (by simp)
        · rw [if_neg c4] at H
          have c4b0 : decide (x5_1 < (l0.length : Int)) = false := decide_eq_false c4
          clear c4
          obtain rfl := Option.some.inj H
          go_wp2
          repeat (go_quiet (fail); try go_wp2)
          go_ret
          exact ⟨by first | rfl | (simp; done) | (simp [*]; done), by repeat (first | exact Drawn0.refl _ | apply Drawn0.step)⟩
  · rw [if_neg c3] at H
    have c3b0 : ((l0.length : Int) == (l1.length : Int)) = false := beq_eq_false_iff_ne.mpr c3
    have c3b1 : ((l0.length : Int) != (l1.length : Int)) = true := bne_iff_ne.mpr c3
    have c3b2 : (l0.length == l1.length) = false := by first | simpa using c3 | (simp at c3 ⊢; omega)
    obtain rfl := Option.some.inj H
    go_enter Try.func11, Try.ntmps11
    go_wp2
    repeat (go_quiet (fail); try go_wp2)
    go_ret
    exact ⟨by first | rfl | (simp; done) | (simp [*]; done), by repeat (first | exact Drawn0.refl _ | apply Drawn0.step)⟩

/-! ### snapferrylaw04_of: function 12 -/
def snapferrylaw04_of.l0 : Nat → List (S29) → List (S49) → Int → Option ((List (S49)))
  | 0, _, _, _ => none
  | k + 1, x0, x3, x4 => if x4 < (x0.length : Int) then (if 0 ≤ x4 then (if x3.length < 4398046511104 then (snapferrylaw04_of.l0 k x0 (x3 ++ [(⟨(rd_T29 x0 x4).f0, (rd_T29 x0 x4).f1, (rd_T29 x0 x4).f2⟩ : S49)]) (wrap64 (x4 + 1))) else (none)) else (none)) else (some x3)
def snapferrylaw04_of.f (k : Nat) (l0 : List (S29)) : Option ((List (S49))) := snapferrylaw04_of.l0 k l0 ([] : List (S49)) 0
theorem snapferrylaw04_of.mono_l : ∀ k, (∀ y0 y1 y2, LeO (snapferrylaw04_of.l0 k y0 y1 y2) (snapferrylaw04_of.l0 (k + 1) y0 y1 y2))
  | 0 => fun _ _ _ r h => by simp [snapferrylaw04_of.l0] at h
  | k + 1 => by
    have ih0 := snapferrylaw04_of.mono_l k
    · intro y0 y1 y2
      unfold snapferrylaw04_of.l0
      repeat' first
      | (with_reducible exact ih0 _ _ _)
      | (with_reducible exact LeO.refl _)
      | (with_reducible exact LeO.none _)
      | (with_reducible refine LeO.ite ?_ ?_)
      | (with_reducible refine LeO.bind ?_ (fun _ => ?_))
      | exact ih0 _ _ _
      | exact LeO.none _
      | refine LeO.ite ?_ ?_
      | refine LeO.bind ?_ (fun _ => ?_)
theorem snapferrylaw04_of.mono : ∀ a0 k, LeO (snapferrylaw04_of.f k a0) (snapferrylaw04_of.f (k + 1) a0) := by
  intro a0 k
  have ih0 := snapferrylaw04_of.mono_l k
  unfold snapferrylaw04_of.f
  repeat' first
      | (with_reducible exact ih0 _ _ _)
      | (with_reducible exact LeO.refl _)
      | (with_reducible exact LeO.none _)
      | (with_reducible refine LeO.ite ?_ ?_)
      | (with_reducible refine LeO.bind ?_ (fun _ => ?_))
      | exact ih0 _ _ _
      | exact LeO.none _
      | refine LeO.ite ?_ ?_
      | refine LeO.bind ?_ (fun _ => ?_)
set_option maxHeartbeats 8000000 in
set_option maxRecDepth 100000 in
theorem snapferrylaw04_of.calls (k : Nat) (A0 : Option Addr) (c0 : Nat) (l0 : List (S29)) (r : List (S49)) (w : World) (hr0 : Kd.C k29 w A0 l0.length l0) (hc0 : l0.length ≤ c0) (h : snapferrylaw04_of.f k l0 = some r) :
    Calls Try.prog 12 #[.slice A0 l0.length c0] w fun e w' => ∃ v0_ : Value, e = .returned (v0_) ∧ Kd.R k49 49 w' w.heap.size (fun _ => True) v0_ r ∧ Below w.heap.size w w' := by
  have hu29 := Try.underlying29
  have HR0 := Aside0.mk hr0
  have HC0 := Aside0.mk hc0
  clear hr0 hc0
  have HB := Aside0.mk (Below.refl w.heap.size w)
  have H : (snapferrylaw04_of.l0 k l0 ([] : List (S49)) 0) = some r := h
  clear h
  have H' := Aside0.mk H
  clear H
  go_enter Try.func12, Try.ntmps12
  go_wp2
  go_loopg [3, 4] k (fun kq v3 v4 w' => ∃ (x3_1 : List (S49)) (x4_1 : Int), v4 = .int .i64 x4_1 ∧ Aside0 (snapferrylaw04_of.l0 kq l0 x3_1 x4_1 = some r) ∧ Aside0 (kq ≤ k) ∧ Aside0 (Kd.R k49 49 w' w.heap.size (fun _ => True) v3 x3_1) ∧ Aside0 (Below w.heap.size w w'))
  case atStart => exact ⟨(([] : List (S49))), (0), (by first | rfl | (simp; done) | (simp [*]; done)), H', ⟨Nat.le_refl _⟩, ⟨by first | exact Kd.R_nil _ _ _ _ _ | exact Kd.N_nil _ _ _ _ _ | exact Kd.V_nil _ _ _ _ _ | exact Kd.Q_nil _ _ _ _ _ | exact Kd.S_nil _ _ _ _ _⟩, ⟨by repeat (first | (with_reducible first | exact HB.out | apply below_alloc | apply pw_below_drewN | apply below_drew1) | exact HB.out)⟩⟩
  case round =>
    clear H'
    try clear c1
    obtain ⟨x3_1, x4_1, rfl, HA, HK1, HO_3, HB⟩ := hrel
    cases gk with
    | zero => exact absurd HA.out (by simp [snapferrylaw04_of.l0])
    | succ k1 =>
      have H := HA.out
      clear HA
      simp only [snapferrylaw04_of.l0] at H
      by_cases c2 : x4_1 < (l0.length : Int)
      · rw [if_pos c2] at H
        have c2b0 : decide (x4_1 < (l0.length : Int)) = true := decide_eq_true c2
        clear c2
        by_cases c3 : 0 ≤ x4_1
        · rw [if_pos c3] at H
          have c3b0 : decide (0 ≤ x4_1) = true := decide_eq_true c3
          clear c3
          by_cases c4 : x3_1.length < 4398046511104
          · rw [if_pos c4] at H
            have LMc4 := Aside0.mk c4
            clear c4
            obtain ⟨y123, hy123⟩ : ∃ y_ : List (S49), y_ = (x3_1 ++ [(⟨(rd_T29 l0 x4_1).f0, (rd_T29 l0 x4_1).f1, (rd_T29 l0 x4_1).f2⟩ : S49)]) := ⟨_, rfl⟩
            replace H : (snapferrylaw04_of.l0 k1 l0 y123 (wrap64 (x4_1 + 1))) = some r := by first | (rw [hy123]; with_reducible exact H) | (have H2_ := (Option.bind_some _ _).symm.trans H; rw [hy123]; with_reducible exact H2_) | (have H2_ := (Option.bind_some _ _).symm.trans H; with_reducible exact H2_) | with_reducible exact H | (rw [hy123]; exact H) | exact H
            have Ny123 := Aside0.mk hy123
            clear hy123
            have H' := Aside0.mk H
            clear H
            have p122 : 0 ≤ (x4_1 : Int) := of_decide_eq_true (by first | (with_reducible assumption) | assumption)
            have q122 : x4_1 < (l0.length : Int) := of_decide_eq_true (by first | (with_reducible assumption) | assumption)
            obtain ⟨ad122, e122, hx122_0, hx122_1, hx122_2⟩ := at_T29 HR0.out x4_1 p122 q122
            cases e122
            replace hx122_0 := (HB.out.cell (World.block_lt_of_cell? w _ hx122_0)).trans hx122_0
            replace hx122_1 := (HB.out.cell (World.block_lt_of_cell? w _ hx122_1)).trans hx122_1
            replace hx122_2 := (HB.out.cell (World.block_lt_of_cell? w _ hx122_2)).trans hx122_2
            replace p122 := eq_true p122
            replace q122 := eq_true q122
            go_wp2_with (first | ((with_reducible refine gate_builtin (b := .append) (xs := #[.tmp 11, .tmp 16]) rfl ?_); at_builtin; refine Kd.R_append k49 (w0 := w) w.heap.size rfl (.tmp 11) (.tmp 16) 38 49 (.agg #[(.int .i64 0), (.int .i64 0), (.string ⟨#[]⟩)]) 32 rfl Try.underlying38 info49 rfl (by decide) (by omega) u3 x3_1 (⟨(rd_T29 l0 x4_1).f0, (rd_T29 l0 x4_1).f1, (rd_T29 l0 x4_1).f2⟩ : S49) [.int .i64 ((rd_T29 l0 x4_1).f0), .int .i64 ((rd_T29 l0 x4_1).f1), .string ((rd_T29 l0 x4_1).f2)] (fun _ => True) (fun _ => False) rfl rfl ?aP (fun _ hk => hk.elim) ?aF ?aO ?aB ?aS ?aL ?_; (case aP => exact k49_mkM _ _ _ (⟨(rd_T29 l0 x4_1).f0, (rd_T29 l0 x4_1).f1, (rd_T29 l0 x4_1).f2⟩ : S49)); (case aB => exact (by repeat (first | (with_reducible first | exact HB.out | apply below_alloc | apply pw_below_drewN | apply below_drew1) | exact HB.out))); (case aF => exact (fun _ _ => trivial)); (case aO => exact (by (with_reducible repeat (first | apply Kd.R_alloc | apply Kd.R_drewN | apply Kd.R_drew)); exact HO_3.out)); (case aS => exact (below_size (by repeat (first | (with_reducible first | exact HB.out | apply below_alloc | apply pw_below_drewN | apply below_drew1) | exact HB.out)))); (case aL => have := LMc4.out; omega); intro v124 w5 ho hb hg hat; rw [← Ny123.out] at ho; have n0_ := Aside0.mk (hb); have n1_ := Aside0.mk (ho); clear HB; clear HO_3; have HB := n0_; have HO125 := n1_; clear n0_ n1_; clear ho hb hg hat))
            go_roundg k1
            case measure => have := HK1.out; omega
            case rel => exact ⟨(y123), (wrap64 (x4_1 + 1)), (by first | rfl | (simp; done) | (simp [*]; done)), H', ⟨by have := HK1.out; omega⟩, ⟨by (with_reducible repeat (first | apply Kd.R_alloc | apply Kd.R_drewN | apply Kd.R_drew)); exact HO125.out⟩, ⟨by repeat (first | (with_reducible first | exact HB.out | apply below_alloc | apply pw_below_drewN | apply below_drew1) | exact HB.out)⟩⟩
          · rw [if_neg c4] at H
            exact absurd H (by simp)
        · rw [if_neg c3] at H
          exact absurd H (by simp)
      · rw [if_neg c2] at H
        have c2b0 : decide (x4_1 < (l0.length : Int)) = false := decide_eq_false c2
        clear c2
        obtain rfl := Option.some.inj H
        go_wp2
        go_ret
        exact ⟨_, by first | rfl | (simp [errW_none, errW_some] <;> rfl) | (simp [*, errW_none, errW_some] <;> rfl), by (with_reducible repeat (first | apply Kd.R_alloc | apply Kd.R_drewN | apply Kd.R_drew)); exact HO_3.out, by repeat (first | (with_reducible first | exact HB.out | apply below_alloc | apply pw_below_drewN | apply below_drew1) | exact HB.out)⟩

-- NOT PRINTED: function 3 (snapferrylaw04_TlvBack)

-- NOT PRINTED: function 4 (snapferrylaw04_TlvRest)

/-! ### tlv_Reader_Waiting: function 15 -/
def tlv_Reader_Waiting.f (s0_0 : ByteArray) (s0_1 : Int) (s0_2 : Int) : Option (Int × ByteArray × Int × Int) := some ((s0_0.size : Int), s0_0, s0_1, s0_2)
set_option maxHeartbeats 8000000 in
set_option maxRecDepth 100000 in
theorem tlv_Reader_Waiting.calls (g : Nat) (s0_0 : ByteArray) (s0_1 : Int) (s0_2 : Int) (r1 : Int) (r2 : ByteArray) (r3 : Int) (r4 : Int) (w0 w : World) (hI : IsS48 w0 w g s0_0 s0_1 s0_2) (hB : Below w0.heap.size w0 w) (h : tlv_Reader_Waiting.f s0_0 s0_1 s0_2 = some (r1, r2, r3, r4)) :
    Calls Try.prog 15 #[.pointer (some ⟨g, 0, none⟩)] w fun e w' => e = .returned (.int .i64 r1) ∧ IsS48 w0 w' g r2 r3 r4 ∧ Below w0.heap.size w0 w' ∧ KeepBut w w' g none := by
  have HI0 := Aside0.mk hI
  have HK := Aside0.mk (KeepBut.refl w g none)
  have HL := Aside0.mk hB.size
  clear hI
  have HW0 := Aside0.mk hB.size
  have HB := Aside0.mk hB
  clear hB
  have H : (some ((s0_0.size : Int), s0_0, s0_1, s0_2)) = some (r1, r2, r3, r4) := h
  clear h
  simp only [Option.some.injEq, Prod.mk.injEq] at H
  obtain ⟨rfl, rfl, rfl, rfl⟩ := H
  obtain ⟨HGz2, hgz2⟩ := HI0.out
  have hcz2_0 := cellS48_0 HGz2
  have hcz2_1 := cellS48_1 HGz2
  have hcz2_2 := cellS48_2 HGz2
  have hfz2_0 := blk_frozen HGz2 0
  have hfz2_1 := blk_frozen HGz2 1
  have hfz2_2 := blk_frozen HGz2 2
  clear HGz2 hgz2
  go_enter Try.func15, Try.ntmps15
  go_wp2
  go_ret
  exact ⟨by first | rfl | (simp [errW_none, errW_some] <;> rfl) | (simp [*, errW_none, errW_some] <;> rfl), by repeat (first | (with_reducible first | exact HI0.out | apply IsS48.alloc | apply IsS48.drewN | apply IsS48.drew | apply IsS48.set_0 | apply IsS48.set_1 | apply IsS48.set_2) | exact HI0.out), by repeat (first | (with_reducible first | exact HB.out | apply below_alloc | apply pw_below_drewN | apply below_drew1 | refine below_set ?_ (IsS48.ge HI0.out)) | exact HB.out), by repeat (first | (with_reducible first | exact HK.out | apply KeepBut.set_ | apply keep_drewN | apply keep_drew | apply keep_alloc) | exact HK.out)⟩

-- NOT PRINTED: function 5 (snapferrylaw04_TlvPieces)

end Go.Proofs.Ytimamhklcglljaa.Q
