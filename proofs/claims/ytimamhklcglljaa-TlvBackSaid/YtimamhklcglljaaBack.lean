/- TlvBack: the walk of its body: for every input it returns true, and makes memory alone. No condition. -/
import Derived.Test.YtimamhklcglljaaBackP
import Derived.Test.YtimamhklcglljaaMB
import Derived.Test.YtimamhklcglljaaPieces
import Derived.RegionTactic
import Derived.Deep.RegionWith
import Derived.Deep.RegionHeld
import Derived.Deep.Cut
import Derived.Deep.CutRange
import Derived.Outline
namespace Go.Proofs.Ytimamhklcglljaa.Back
set_option linter.unusedVariables false
set_option linter.unusedSimpArgs false
open Go.RowKit Go.Proofs.Ytimamhklcglljaa.Q Go.Proofs.YtimamhklcglljaaW.PrintWords Go.Proofs.YtimamhklcglljaaW.PrintMore
open Go.Proofs.Ytimamhklcglljaa.Pure Go.Proofs.Ytimamhklcglljaa.Pieces
abbrev Ints (w W : World) (v : Value) (xs : List Int) : Prop := Kd.R (Kd.int .i64) 3 W w.heap.size (fun _ => True) v xs
theorem ints_any {W : World} {base : Nat} {ok ok' : Nat → Prop} {v : Value} {xs : List Int} (h : Kd.R (Kd.int .i64) 3 W base ok v xs) (hk : ∀ k, v.ownBlock = some k → ok' k) : Kd.R (Kd.int .i64) 3 W base ok' v xs := by
  obtain ⟨h0, inner, ho, hr⟩ := h
  exact ⟨hk, inner, ho, hr⟩
theorem ints_move {w W W' : World} {v : Value} {xs : List Int} (h : Ints w W v xs) (hm : ∀ k, v.ownBlock = some k → W'.heap[k]? = W.heap[k]?) : Ints w W' v xs :=
  ints_any (Kd.R_move (ints_any (ok' := fun k => v.ownBlock = some k) h (fun k hk => hk)) hm) (fun _ _ => trivial)
/-- The two rows of the call's own: the records, and where they end. -/
structure Bk (w W : World) (x : Value) (xs : List S29) (y : Value) (ys : List Int) : Prop where
  hx : Row w W x xs
  hy : Ints w W y ys
  below : Below w.heap.size w W
section
variable {w W W' : World} {x : Value} {xs : List S29} {y : Value} {ys : List Int}
theorem Bk.xlt (h : Bk w W x xs y ys) (k : Nat) (hk : x.ownBlock = some k) : k < W.heap.size := own_lt (Kd.R_own h.hx).choose_spec k hk
theorem Bk.ylt (h : Bk w W x xs y ys) (k : Nat) (hk : y.ownBlock = some k) : k < W.heap.size := own_lt (Kd.R_own h.hy).choose_spec k hk
theorem Bk.xy (h : Bk w W x xs y ys) (k : Nat) (hk : x.ownBlock = some k) : y.ownBlock ≠ some k := by
  intro hy
  obtain ⟨c1, h1⟩ := own_typed (Kd.R_own h.hx).choose_spec k hk
  obtain ⟨c2, h2⟩ := own_typed (Kd.R_own h.hy).choose_spec k hy
  rw [h1] at h2
  injection h2 with h2
  injection h2 with _ h2
  exact absurd h2 (by decide)
theorem Bk.step (h : Bk w W x xs y ys) (hb : Below W.heap.size W W') : Bk w W' x xs y ys :=
  ⟨row_move h.hx (fun k hk => hb.block k (h.xlt k hk)), ints_move h.hy (fun k hk => hb.block k (h.ylt k hk)), below_step h.below hb⟩
theorem Bk.step' (h : Bk w W x xs y ys) {g : Nat} (hg : w.heap.size ≤ g) (v : Value) (d : Nat) (hx : x.ownBlock ≠ some g) (hy : y.ownBlock ≠ some g) : Bk w (W.setCell ⟨g, d, none⟩ v) x xs y ys :=
  ⟨row_move h.hx (fun k hk => Below.heap_setCell _ _ _ _ (fun e => hx (by rw [← (show k = g from e)]; exact hk))), ints_move h.hy (fun k hk => Below.heap_setCell _ _ _ _ (fun e => hy (by rw [← (show k = g from e)]; exact hk))), Below.setCell h.below hg v⟩
theorem Bk.grownX (h : Bk w W x xs y ys) {x' : Value} {xs' : List S29} (hx : Row w W' x' xs') (hg : W.grownBy W' x.ownBlock) : Bk w W' x' xs' y ys :=
  ⟨hx, ints_move h.hy (fun k hk => hg.block k (h.ylt k hk) (fun e => h.xy k e.symm hk)), h.below.grown hg h.below.size (fun k hk => Kd.R_base h.hx k hk)⟩
theorem Bk.grownY (h : Bk w W x xs y ys) {y' : Value} {ys' : List Int} (hy : Ints w W' y' ys') (hg : W.grownBy W' y.ownBlock) : Bk w W' x xs y' ys' :=
  ⟨row_move h.hx (fun k hk => hg.block k (h.xlt k hk) (fun e => h.xy k hk e.symm)), hy, h.below.grown hg h.below.size (fun k hk => Kd.R_base h.hy k hk)⟩
end
theorem feed_new {s : ByteArray} {xs : List S29} {e : Int} {r : ByteArray} {n : Int} (h : Run s 0 xs e r n) (hz : s.size ≤ 1000000000) : ∃ k, tlv_Reader_Feed.f k ⟨#[]⟩ 0 0 s = some (xs, e, r, n, e) := by
  obtain ⟨out, e', r', n', hev, hr, _⟩ := feed_piece (wait_empty 0) s (by show 0 + s.size ≤ _; omega)
  rw [empty_app] at hr
  obtain ⟨rfl, rfl, rfl, rfl⟩ := run_det h hr
  obtain ⟨k, hk⟩ := hev.rounds
  exact ⟨k, hk⟩
theorem xor_any (c x : UInt8) : bits .xor .u8 (c.toNat : Int) (x.toNat : Int) = ((c ^^^ x).toNat : Int) := by
  show IntKind.u8.wrap ((BitVec.ofInt 8 (c.toNat : Int) ^^^ BitVec.ofInt 8 (x.toNat : Int)).toNat : Int) = _
  rw [BitVec.ofInt_natCast, BitVec.ofInt_natCast, IntKind.wrap_u8, UInt8.toNat_xor, BitVec.toNat_xor, BitVec.toNat_ofNat, BitVec.toNat_ofNat]
  have hc := c.toNat_lt
  have hx := x.toNat_lt
  rw [Nat.mod_eq_of_lt (show c.toNat < 2 ^ 8 by omega), Nat.mod_eq_of_lt (show x.toNat < 2 ^ 8 by omega)]
  have h3 : c.toNat ^^^ x.toNat < 2 ^ 8 := Nat.xor_lt_two_pow (by omega) (by omega)
  omega
theorem info3 : (Try.prog.info? 3).map (fun i => (i.zero, i.size, i.bytes)) = some (some (.int .i64 0), 1, 8) := by kernel_rfl
set_option maxRecDepth 100000 in
set_option maxHeartbeats 40000000 in
theorem walk (A0 : Option Addr) (c0 : Nat) (kinds : List Int) (A1 : Option Addr) (c1 : Nat) (texts : List ByteArray) (cut at_ turn : Int) (w : World)
    (hr0 : Kd.C (Kd.int .u8) w A0 kinds.length kinds) (hc0 : kinds.length ≤ c0) (hk : ∀ i, 0 ≤ rd kinds i ∧ rd kinds i < 256)
    (hr1 : Kd.C Kd.string w A1 texts.length texts) (hc1 : texts.length ≤ c1) (hf : Ev (fun k => snapferrylaw04_few.f k texts) true) (hl : texts.length ≤ 100) (hs : sizes texts ≤ 12000) (hkl : texts.length ≤ kinds.length)
    (h2 : 0 ≤ cut) (h2' : cut ≤ 9223372036854775807) (h3 : 0 ≤ at_) (h3' : at_ ≤ 9223372036854775807) (h4 : 0 ≤ turn) (h4' : turn < 256) :
    Calls Try.prog 3 #[.slice A0 kinds.length c0, .slice A1 texts.length c1, .int .i64 cut, .int .i64 at_, .int .u8 turn] w fun e w' => e = .returned (.bool true) ∧ Below w.heap.size w w' := by
  have hu29 := Try.underlying29
  have hu48 := Try.underlying48
  obtain ⟨kf, hkf⟩ := hf.rounds
  have HF := Aside0.mk hkf
  have HR0 := Aside0.mk hr0
  have HC0 := Aside0.mk hc0
  have HR1 := Aside0.mk hr1
  have HC1 := Aside0.mk hc1
  have HL := Aside0.mk (⟨hl, hs, hkl, hk⟩ : texts.length ≤ 100 ∧ sizes texts ≤ 12000 ∧ texts.length ≤ kinds.length ∧ ∀ i, 0 ≤ rd kinds i ∧ rd kinds i < 256)
  have d1 : decide (kinds.length < texts.length) = false := decide_eq_false (by omega)
  have d2 : decide (cut < 0) = false := decide_eq_false (by omega)
  have d3 : decide (at_ < 0) = false := decide_eq_false (by omega)
  clear hr0 hc0 hr1 hc1 hf hs hkf hk hkl
  go_enter Try.func3, Try.ntmps3
  go_wp2_with (first | (go_at_call 6; refine (snapferrylaw04_awake.calls true _ rfl).mono ?_; rintro e w1 ⟨rfl, hb1⟩; have HB1 := Aside0.mk hb1; clear hb1) | (go_at_call 7; refine (snapferrylaw04_few.calls kf _ _ texts true _ (Kd.C_below HR1.out HB1.out) HC1.out HF.out).mono ?_; rintro e w2 ⟨rfl, hd⟩; have HB2 := Aside0.mk (show Below w.heap.size w w2 by obtain ⟨n, rfl⟩ := hd.out; exact pw_below_drewN HB1.out n); clear hd HB1))
  go_loopg [11, 12, 13, 14] texts.length (fun kq v11 v12 v13 v14 wr => ∃ i : Nat, v14 = .int .i64 i ∧ v12 = .string (allTo kinds texts i) ∧ Aside0 (i + kq = texts.length ∧ OkTo kinds texts i ∧ (allTo kinds texts i).size = sizes (texts.take i) + 11 * i ∧ Bk w wr v11 (wantTo kinds texts i) v13 (endsTo kinds texts i)))
  case atStart => exact ⟨0, rfl, rfl, ⟨Nat.zero_add _, fun i hi => absurd hi (by omega), rfl, ⟨Kd.R_nil _ _ _ _ _, Kd.R_nil _ _ _ _ _, HB2.out⟩⟩⟩
  case round =>
    obtain ⟨i, rfl, rfl, HA⟩ := hrel
    by_cases c2 : i < texts.length
    · have c2b : decide ((i : Int) < (texts.length : Int)) = true := decide_eq_true (by omega)
      obtain ⟨hkk, hok, hsz, hbk⟩ := HA.out
      obtain ⟨ad, e1, hx0⟩ := Kd.at_string HR1.out (i : Int) (by omega) (by omega)
      have hx1 := Pieces.nat_at hx0
      have HLT := Aside0.mk (World.block_lt_of_cell? w _ hx1)
      obtain ⟨bd, e2, hy0⟩ := Kd.at_int HR0.out (i : Int) (by omega) (by have := HL.out.2.2.1; omega)
      have hy1 : w.cell? (bd.add i) = some (.int .u8 (rd kinds (i : Int))) := hy0
      have HLT2 := Aside0.mk (World.block_lt_of_cell? w _ hy1)
      cases e1
      cases e2
      have p104 := eq_true (show 0 ≤ (i : Int) by omega)
      have q104 := eq_true (show i < texts.length by omega)
      have q105 := eq_true (show i < kinds.length by have := HL.out.2.2.1; omega)
      have hib : i < 1000 := by omega
      have hsn := sizes_snoc texts i c2
      have hle := sizes_le texts (i + 1)
      have hL2 := HL.out.2.1
      have hkc := HL.out.2.2.2 (i : Int)
      have hrt : ∀ {K : Int}, K = 1 + rd kinds (i : Int) % 255 → pOf texts i = rdOf ByteArray.empty texts (i : Int) := fun _ => rfl
      have hx := (hbk.below.cell HLT.out).trans hx1
      have hy := (hbk.below.cell HLT2.out).trans hy1
      have hlx : (ad.add i).block < wr.heap.size := Nat.lt_of_lt_of_le HLT.out hbk.below.size
      have hly : (bd.add i).block < wr.heap.size := Nat.lt_of_lt_of_le HLT2.out hbk.below.size
      have HC := Aside0.mk (show rOf kinds texts i = ⟨1 + rd kinds (i : Int) % 255, i, rdOf ByteArray.empty texts (i : Int)⟩ from rfl)
      generalize hcq : rd kinds (i : Int) = c at *
      generalize hpq : rdOf ByteArray.empty texts (i : Int) = P at *
      obtain ⟨hc0, hc1⟩ := hkc
      have hpz : P.size ≤ 12000 := by omega
      have HK := Aside0.mk (⟨hkk, hok, hsz, hbk⟩ : i + gk = texts.length ∧ OkTo kinds texts i ∧ (allTo kinds texts i).size = sizes (texts.take i) + 11 * i ∧ Bk w wr u11 (wantTo kinds texts i) u13 (endsTo kinds texts i))
      have HX := Aside0.mk (⟨hx1, hy1, hsn⟩ : _ ∧ _ ∧ _)
      clear hkk hok hsz hbk hsn hle hL2 hrt hx0 hx1 hy0 hy1 c2 HA
      go_upto_region 11 with fail
      go_cut [15] from 48 to 91 (fun s15 wx => s15 = .pointer (some ⟨wr.heap.size, 0, none⟩) ∧ wx = (wr.alloc (.cells #[.int .i64 (1 + c % 255), .int .i64 i, .string P] 29)).drew)
      case first =>
        go_region
        all_goals (go_wp2_with fail; go_meet; exact ⟨rfl, rfl⟩)
      case rest =>
        obtain ⟨rfl, rfl⟩ := hcut
        have HS := Aside0.mk (HK.out.2.2.2.step (show Below wr.heap.size wr (wr.alloc (.cells #[.int .i64 (1 + c % 255), .int .i64 i, .string P] 29)).drew from below_drew1 (below_alloc (Below.refl _ _) _)))
        have HX0 := Aside0.mk (show (wr.alloc (.cells #[.int .i64 (1 + c % 255), .int .i64 i, .string P] 29)).drew.heap[wr.heap.size]? = some (.cells #[.int .i64 (1 + c % 255), .int .i64 i, .string P] 29 (0, 0)) from blk_drew (blk_new _ _))
        clear hx hy
        generalize (wr.alloc (.cells #[.int .i64 (1 + c % 255), .int .i64 i, .string P] 29)).drew = W1 at *
        have hx0 : W1.cell? ⟨wr.heap.size, 0, none⟩ = some (.int .i64 (1 + c % 255)) := blk_cell HX0.out 0
        have hx1 : W1.cell? ⟨wr.heap.size, 1, none⟩ = some (.int .i64 i) := blk_cell HX0.out 1
        have hx2 : W1.cell? ⟨wr.heap.size, 2, none⟩ = some (.string P) := blk_cell HX0.out 2
        by_cases hR : Right (1 + c % 255) (i : Int) P
        · have HPR := Aside0.mk (print_ok hR 0)
          have HRR := Aside0.mk hR
          have hRz := Aside0.mk (show (recB (1 + c % 255) i P).size = P.size + 11 from recB_size _ _ _)
          have hAz : (allTo kinds texts i).size ≤ 30000 := by
            have h1 := HK.out.2.2.1
            have h2 := sizes_le texts i
            have h3 := HL.out.2.1
            omega
          generalize hst : recB (1 + c % 255) i P = st at *
          have HST := Aside0.mk hst
          clear hst hR
          go_wp2_with fail
          refine (tlv_Print.calls _ _ _ _ _ _ _ HPR.out).mono ?_
          rintro e w2 ⟨rfl, hb2⟩
          have HS2 := Aside0.mk (HS.out.step hb2)
          have HX2 := Aside0.mk (blk_below HX0.out hb2)
          clear hb2 HS HX0 hx0 hx1 hx2
          have hx0 : w2.cell? ⟨wr.heap.size, 0, none⟩ = some (.int .i64 (1 + c % 255)) := blk_cell HX2.out 0
          have hx1 : w2.cell? ⟨wr.heap.size, 1, none⟩ = some (.int .i64 i) := blk_cell HX2.out 1
          have hx2 : w2.cell? ⟨wr.heap.size, 2, none⟩ = some (.string P) := blk_cell HX2.out 2
          have HL2 := Aside0.mk (show ((wantTo kinds texts i).length + 1) * 32 ≤ 140737488355328 by rw [wantTo_length]; omega)
          have HL3 := Aside0.mk (show ((endsTo kinds texts i).length + 1) * 8 ≤ 140737488355328 by rw [endsTo_length]; omega)
          have hsz : (allTo kinds texts i).size + st.size ≤ 9223372036854775807 := by have := hRz.out; omega
          go_wp2_with (first | ((with_reducible refine gate_builtin (b := .append) (xs := #[.tmp 80, .tmp 82]) rfl ?_); at_builtin; refine Kd.R_append k29 (w0 := w2) w.heap.size rfl (.tmp 80) (.tmp 82) 26 29 (.agg #[(.int .i64 0), (.int .i64 0), (.string ⟨#[]⟩)]) 32 rfl Try.underlying26 infoF29 rfl (by decide) (by omega) u11 (wantTo kinds texts i) (⟨1 + c % 255, i, P⟩ : S29) [.int .i64 (1 + c % 255), .int .i64 i, .string P] (fun _ => True) (fun _ => False) rfl rfl ?aP (fun _ hk => hk.elim) (fun _ _ => trivial) HS2.out.hx (Below.refl _ _) HS2.out.below.size ?aL ?_; (case aP => exact k29_mkM _ _ _ (⟨1 + c % 255, i, P⟩ : S29)); (case aL => exact HL2.out); intro v9 w9 ho9 hb9 hg9 hat9; have HS9 := Aside0.mk (HS2.out.grownX ho9 hg9); clear ho9 hb9 hg9 hat9 HS2 HX2 hx0 hx1 hx2 HL2) | ((with_reducible refine gate_builtin (b := .append) (xs := #[.tmp 87, .tmp 90]) rfl ?_); at_builtin; refine Kd.R_append (Kd.int .i64) (w0 := w9) w.heap.size rfl (.tmp 87) (.tmp 90) 27 3 (.int .i64 0) 8 rfl Try.underlying27 info3 rfl (by decide) (by omega) u13 (endsTo kinds texts i) (((allTo kinds texts i).size : Int) + (st.size : Int)) [.int .i64 (((allTo kinds texts i).size : Int) + (st.size : Int))] (fun _ => True) (fun _ => False) rfl rfl ?aP (fun _ hk => hk.elim) (fun _ _ => trivial) HS9.out.hy (Below.refl _ _) HS9.out.below.size ?aL ?_; (case aP => exact rfl); (case aL => exact HL3.out); intro v10 w10 ho9 hb9 hg9 hat9; have HS10 := Aside0.mk (HS9.out.grownY ho9 hg9); clear ho9 hb9 hg9 hat9 HS9 HL3))
          have eB : bOf kinds texts i = st := by unfold bOf kOf pOf; rw [hcq, hpq]; exact HST.out
          have eK : kOf kinds i = 1 + c % 255 := by unfold kOf; rw [hcq]
          go_roundg (gk - 1)
          case measure => have := HK.out.1; have := of_eq_true q104; omega
          case rel => exact ⟨i + 1, by go_num, by rw [allTo, eB], ⟨by have := HK.out.1; have := of_eq_true q104; omega, fun j hj => by
            by_cases hji : j < i
            · exact HK.out.2.1 j hji
            · obtain rfl : j = i := by omega
              rw [eK, show pOf texts j = P from hpq]
              exact HRR.out, by rw [allTo, eB, ByteArray.size_append, HX.out.2.2, HK.out.2.2.1, hRz.out]; omega, by
            rw [wantTo, endsTo, HC.out, allTo, eB, ByteArray.size_append, Int.natCast_add]
            exact HS10.out⟩⟩
        · have hz8 : 8192 < P.size := by
            unfold Right at hR
            omega
          obtain ⟨er, her, hpr⟩ := print_bad hR 0
          have HPR := Aside0.mk hpr
          have d9 : (er != 0) = true := by rw [bne_iff_ne]; exact her
          have d10 : decide ((8192 : Int) < (P.size : Int)) = true := decide_eq_true (by omega)
          have d11 : decide (8192 < P.size) = true := decide_eq_true (by omega)
          clear hR hpr her
          go_wp2_with fail
          refine (tlv_Print.calls _ _ _ _ _ _ _ HPR.out).mono ?_
          rintro e w2 ⟨rfl, hb2⟩
          have HS2 := Aside0.mk (HS.out.step hb2)
          have hx := (HS2.out.below.cell HLT.out).trans HX.out.1
          clear hb2 HS HX0 hx0 hx1 hx2
          go_wp2_with fail
          go_ret
          exact ⟨rfl, HS2.out.below⟩
    · have c2b : decide ((i : Int) < (texts.length : Int)) = false := decide_eq_false (by omega)
      have c2n : decide (i < texts.length) = false := decide_eq_false c2
      obtain ⟨hgk, hok, hsz, hbk⟩ := HA.out
      have hsl := sizes_le texts i
      have hL2 := HL.out.2.1
      have him : i ≤ 100 := by omega
      have hAz : (allTo kinds texts i).size ≤ 30000 := by omega
      obtain ⟨kA, hkA⟩ := feed_new (run_all hok) (by omega)
      have hxl : (wantTo kinds texts i).length = i := wantTo_length i
      have hyl : (endsTo kinds texts i).length = i := endsTo_length i
      obtain ⟨k1, hk1⟩ := (of_ev (wantTo kinds texts i) (by omega)).rounds
      obtain ⟨k2, hk2⟩ := (same_ev ((wantTo kinds texts i).map conv49) (by rw [List.length_map]; omega)).rounds
      have HFA := Aside0.mk hkA
      have HO := Aside0.mk hk1
      have HS := Aside0.mk hk2
      have HOK := Aside0.mk hok
      have HB0 := Aside0.mk hbk
      clear hgk hok hsz hbk hsl hL2 hkA hk1 hk2 c2 HA HC0 HC1 HF
      generalize hxs : wantTo kinds texts i = xs at *
      generalize hys : endsTo kinds texts i = ys at *
      generalize hal : allTo kinds texts i = al at *
      generalize hzs : xs.map conv49 = zs at *
      have HXS := Aside0.mk (⟨hxs, hys, hal, hzs, hxl, hyl⟩ : _ ∧ _ ∧ _ ∧ _ ∧ _ ∧ _)
      clear hxs hys hal hzs hxl hyl
      go_wp2_with fail
      refine (tlv_New.calls _ _ _ wr _ (Below.refl _ _) rfl).mono ?_
      rintro e w3 ⟨ga, rfl, hI, hB3, hb3⟩
      go_wp2_with fail
      refine (tlv_Reader_Feed.calls _ _ _ _ _ _ _ _ _ _ _ wr _ hI hB3 HFA.out).mono ?_
      rintro e w4 ⟨vo, rfl, hG, _, hB4, _⟩
      obtain ⟨Ao, co, rfl⟩ := Kd.R_slice hG
      have HG := Aside0.mk hG
      have HB4 := Aside0.mk (HB0.out.step hB4)
      clear hI hB3 hb3 hG hB4 HB0 HFA
      obtain ⟨Ax, cx, hvx⟩ := Kd.R_slice HB4.out.hx
      obtain ⟨Ay, cy, hvy⟩ := Kd.R_slice HB4.out.hy
      subst hvx hvy
      go_wp2_with fail
      refine (snapferrylaw04_of.calls k1 _ _ xs zs _ (Kd.R_reads' HG.out).2.2 (Kd.R_reads' HG.out).2.1 HO.out).mono ?_
      rintro e w5 ⟨v5, rfl, hr5, hb5⟩
      obtain ⟨A5, c5, rfl⟩ := Kd.R_slice hr5
      have HR5 := Aside0.mk hr5
      have HB5 := Aside0.mk (HB4.out.step hb5)
      clear hr5 hb5 HB4 HG
      go_wp2_with fail
      refine (snapferrylaw04_of.calls k1 _ _ xs zs _ (Kd.R_reads' HB5.out.hx).2.2 (Kd.R_reads' HB5.out.hx).2.1 HO.out).mono ?_
      rintro e w6 ⟨v6, rfl, hr6, hb6⟩
      obtain ⟨A6, c6, rfl⟩ := Kd.R_slice hr6
      have HR6 := Aside0.mk hr6
      have HR56 := Aside0.mk (Kd.R_below HR5.out hb6)
      have HB6 := Aside0.mk (HB5.out.step hb6)
      clear hr6 hb6 HR5 HB5
      go_wp2_with fail
      refine (snapferryref04_Same.calls k2 _ _ zs _ _ zs true _ (Kd.R_reads' HR56.out).2.2 (Kd.R_reads' HR56.out).2.1 (Kd.R_reads' HR6.out).2.2 (Kd.R_reads' HR6.out).2.1 HS.out).mono ?_
      rintro e w7 ⟨rfl, hd⟩
      have HB7 := Aside0.mk (show Bk w w7 _ xs _ ys by obtain ⟨n, rfl⟩ := hd.out; exact HB6.out.step (pw_below_drewN (Below.refl _ _) n))
      clear hd HB6 HR56 HR6
      by_cases hze : al.toList.isEmpty = true
      · go_wp2_with fail
        go_ret
        exact ⟨rfl, HB7.out.below⟩
      · have hze := eq_false_of_ne_true hze
        have hpz : al.size ≠ 0 := by
          intro h0
          rw [ByteArray.toList_eq] at hze
          have : al.data.toList = [] := List.length_eq_zero_iff.1 (by rw [size_list]; exact h0)
          rw [this] at hze
          exact absurd hze (by decide)
        have hne : ¬ al = ByteArray.empty := by rintro rfl; exact hpz rfl
        have hpos : 0 < (al.size : Int) := by omega
        obtain ⟨c, hc⟩ : ∃ c : Nat, cut % (al.size : Int) = (c : Int) := ⟨(cut % (al.size : Int)).toNat, by have := Int.emod_nonneg cut (show (al.size : Int) ≠ 0 by omega); omega⟩
        have hcs : c < al.size := by have := Int.emod_lt_of_pos cut hpos; omega
        have hcb : c < 30000 := by omega
        go_wp2_with fail
        rw [hc]
        obtain ⟨W2, rfl⟩ : ∃ W, W = wr := ⟨_, rfl⟩
        obtain ⟨g1, rfl⟩ : ∃ g, g = gk := ⟨_, rfl⟩
        go_loopg [21] i (fun kq v21 w' => ∃ n : Nat, v21 = .int .i64 n ∧ Aside0 (n + kq = i ∧ (∀ j, j < n → (allTo kinds texts (j + 1)).size ≤ c) ∧ Bk w w' (.slice Ax xs.length cx) xs (.slice Ay ys.length cy) ys))
        case atStart => exact ⟨0, rfl, ⟨Nat.zero_add _, fun j hj => absurd hj (by omega), HB7.out⟩⟩
        case round =>
          obtain ⟨n, rfl, HA⟩ := hrel
          have hni : n ≤ i := by have := HA.out.1; omega
          have hyl := HXS.out.2.2.2.2.2
          by_cases c3 : n < i
          · have c3b : decide ((n : Int) < (ys.length : Int)) = true := decide_eq_true (by omega)
            have c3n : decide (n < ys.length) = true := decide_eq_true (by omega)
            obtain ⟨ad, e1, hx0⟩ := Kd.at_int (Kd.R_reads' HA.out.2.2.hy).2.2 (n : Int) (by omega) (by omega)
            have hx1 : wr.cell? (ad.add n) = some (.int .i64 (rd ys (n : Int))) := hx0
            have hrd : rd ys (n : Int) = ((allTo kinds texts (n + 1)).size : Int) := by rw [← HXS.out.2.1]; exact endsTo_at c3
            rw [hrd] at hx1
            cases e1
            have p104 := eq_true (show 0 ≤ (n : Int) by omega)
            have q104 := eq_true (show n < ys.length by omega)
            clear hx0 hrd hyl
            generalize hsn : (allTo kinds texts (n + 1)).size = sn at *
            by_cases c4 : sn ≤ c
            · have c4b : decide ((sn : Int) ≤ (c : Int)) = true := decide_eq_true (by omega)
              have c4n : decide (sn ≤ c) = true := decide_eq_true c4
              have HN := Aside0.mk (⟨c3, c4, hsn⟩ : _ ∧ _ ∧ _)
              clear c3 c4 hsn
              go_wp2_with fail
              go_roundg (gk - 1)
              case measure => have h1 := HA.out.1; have h2 := HN.out.1; omega
              case rel => exact ⟨n + 1, by go_num, ⟨by have h1 := HA.out.1; have h2 := HN.out.1; omega, fun j hj => by
                by_cases hjn : j < n
                · exact HA.out.2.1 j hjn
                · obtain rfl : j = n := by omega
                  rw [HN.out.2.2]
                  exact HN.out.2.1, HA.out.2.2⟩⟩
            · have c4b : decide ((sn : Int) ≤ (c : Int)) = false := decide_eq_false (by omega)
              have c4n : decide (sn ≤ c) = false := decide_eq_false c4
              have hlo : (allTo kinds texts n).size ≤ c := by
                rcases n with _ | n
                · exact Nat.zero_le _
                · exact HA.out.2.1 n (Nat.lt_succ_self n)
              obtain ⟨rr, hcut⟩ := run_cut (k := c) HOK.out c3 hlo (by rw [hsn]; omega)
              rw [HXS.out.2.2.1] at hcut
              obtain ⟨kB, hkB⟩ := feed_new hcut (by rw [ByteArray.size_extract]; omega)
              obtain ⟨k3, hk3⟩ := (of_ev (wantTo kinds texts n) (by rw [wantTo_length]; omega)).rounds
              obtain ⟨k4, hk4⟩ := (same_ev ((wantTo kinds texts n).map conv49) (by rw [List.length_map, wantTo_length]; omega)).rounds
              have htk : xs.take n = wantTo kinds texts n := by rw [← HXS.out.1]; exact wantTo_take hni
              generalize hfs : wantTo kinds texts n = fs at *
              generalize hgs : fs.map conv49 = gs at *
              have hfl : n = fs.length := by rw [← hfs, wantTo_length]
              subst hfl
              have HFB := Aside0.mk hkB
              have HO3 := Aside0.mk hk3
              have HS4 := Aside0.mk hk4
              have HTK := Aside0.mk htk
              have HB8 := Aside0.mk HA.out.2.2
              clear hlo hcut hkB hk3 hk4 htk hgs HB7
              have hcl : c ≤ al.size := by omega
              have hcl2 : (c : Int) ≤ (al.size : Int) := by omega
              have hc0 : (0 : Int) ≤ (c : Int) := by omega
              have hc1 : (c : Int).toNat = c := rfl
              go_wp2_with fail
              go_cut [22, 23] from 128 to 135 (fun s22 s23 wx => s23 = .int .i64 0 ∧ ∃ Bo bo, s22 = .slice Bo fs.length bo ∧ Aside0 (Kd.C k29 wx Bo fs.length fs ∧ fs.length ≤ bo) ∧ Aside0 (Bk w wx (.slice Ax xs.length cx) xs (.slice (some ad) ys.length cy) ys))
              case first =>
                go_region_with (first | (go_at_call 9; refine (tlv_New.calls _ _ _ wr _ ?_ rfl).mono ?_; exact below_drew1 (Below.refl _ _); rintro e w3 ⟨gb, rfl, hI, hB3, hb3⟩) | (go_at_call 10; refine (tlv_Reader_Feed.calls _ _ _ _ _ _ _ _ _ _ _ wr _ hI hB3 HFB.out).mono ?_; rintro e w4 ⟨vo, rfl, hG, _, hB4, _⟩; obtain ⟨Bo, bo, rfl⟩ := Kd.R_slice hG; have HG := Aside0.mk hG; have HB9 := Aside0.mk (HB8.out.step hB4); clear hG hI hB3 hb3 hB4 HB8))
                go_wp2_with fail
                go_meet
                exact ⟨rfl, Bo, bo, rfl, ⟨(Kd.R_reads' HG.out).2.2, (Kd.R_reads' HG.out).2.1⟩, HB9⟩
              case rest =>
                obtain ⟨rfl, Bo, bo, rfl, HG, HB9⟩ := hcut
                have hnx : fs.length ≤ xs.length := by have := HXS.out.2.2.2.2.1; omega
                have hnx2 : (fs.length : Int) ≤ (xs.length : Int) := by omega
                have hnc : fs.length ≤ cx := Nat.le_trans hnx (Kd.R_reads' HB9.out.hx).2.1
                have hnc2 : (fs.length : Int) ≤ (cx : Int) := by omega
                have hn0 : (0 : Int) ≤ (fs.length : Int) := by omega
                have hn1 : (fs.length : Int).toNat = fs.length := rfl
                have HT9 := Aside0.mk (show Kd.C k29 wc Ax fs.length fs by have := Kd.C_take (Kd.R_reads' HB9.out.hx).2.2 hnx; rw [HTK.out] at this; exact this)
                clear HB8 HFB hcl hcl2 hc0 hc1
                go_wp2_with fail
                go_cut [147] from 136 to 147 (fun s147 wx => s147 = .bool false ∧ Aside0 (Bk w wx (.slice Ax xs.length cx) xs (.slice (some ad) ys.length cy) ys))
                case first =>
                  go_region_held (fun _ => True) (trivial) (first | (go_at_call_of 12 (Value.slice Bo fs.length bo); refine (snapferrylaw04_of.calls k3 _ _ fs gs _ ?_ HG.out.2 HO3.out).mono ?_; exact Kd.C_drew HG.out.1; rintro e w5 ⟨v5, rfl, hr5, hb5⟩; obtain ⟨A5, c5, rfl⟩ := Kd.R_slice hr5; have HR5 := Aside0.mk hr5; have HB5 := Aside0.mk hb5; clear hr5 hb5) | (go_at_call_of 12 (Value.slice Ax fs.length cx); refine (snapferrylaw04_of.calls k3 _ _ fs gs _ ?_ hnc HO3.out).mono ?_; exact Kd.C_below (Kd.C_drew HT9.out) HB5.out; rintro e w6 ⟨v6, rfl, hr6, hb6⟩; obtain ⟨A6, c6, rfl⟩ := Kd.R_slice hr6; have HR6 := Aside0.mk hr6; have HR56 := Aside0.mk (Kd.R_below HR5.out hb6); have HB6 := Aside0.mk (below_step HB5.out hb6); clear hr6 hb6 HR5 HB5) | (go_at_call 11; refine (snapferryref04_Same.calls k4 _ _ gs _ _ gs true _ (Kd.R_reads' HR56.out).2.2 (Kd.R_reads' HR56.out).2.1 (Kd.R_reads' HR6.out).2.2 (Kd.R_reads' HR6.out).2.1 HS4.out).mono ?_; rintro e w7 ⟨rfl, hd⟩; have HD7 := Aside0.mk hd; clear hd HR56 HR6))
                  go_wp2_with fail
                  go_meet
                  obtain ⟨dn, rfl⟩ := HD7.out
                  exact ⟨rfl, ⟨((HB9.out.step (below_drew1 (Below.refl _ _))).step HB6.out).step (pw_below_drewN (Below.refl _ _) dn)⟩⟩
                case rest =>
                  obtain ⟨rfl, HB10⟩ := hcut
                  clear HB9 HT9 HG hnc hnc2
                  by_cases ht : turn = 0
                  · subst ht
                    go_wp2_with fail
                    go_ret
                    exact ⟨rfl, HB10.out.below⟩
                  · have d4 : (turn == 0) = false := by simpa using ht
                    have hcv := fun (w : World) (s : ByteArray) => @Lib.run_convert_string_bytes Try.prog w 9 22 5 s _ Try.underlying9 Try.underlying22 Try.underlying5
                    obtain ⟨d, hd⟩ : ∃ d : Nat, at_ % (al.size : Int) = (d : Int) := ⟨(at_ % (al.size : Int)).toNat, by have := Int.emod_nonneg at_ (show (al.size : Int) ≠ 0 by omega); omega⟩
                    have hds : d < al.size := by have := Int.emod_lt_of_pos at_ hpos; omega
                    have hdb : d < 30000 := by omega
                    go_upto_region 34 with fail
                    rw [hd]
                    have HMB := Aside0.mk (MB.made wc 5 al)
                    have HB11 := Aside0.mk (HB10.out.step (bytesWorld_below 5 al (Below.refl _ _) (Nat.le_refl _)))
                    have HGB := Aside0.mk HB10.out.below.size
                    have HGX := Aside0.mk (⟨fun e => Nat.lt_irrefl _ (HB10.out.xlt _ e), fun e => Nat.lt_irrefl _ (HB10.out.ylt _ e)⟩ : (Value.slice Ax xs.length cx).ownBlock ≠ some wc.heap.size ∧ (Value.slice (some ad) ys.length cy).ownBlock ≠ some wc.heap.size)
                    clear HB10 hcv
                    generalize Lib.bytesWorld wc 5 al = W3 at *
                    generalize wc.heap.size = g at *
                    generalize grownCap wc al.size 0 5 = cap
                    have hdl : d < al.data.toList.length := by rw [size_list]; exact hds
                    have hcell := MB.cell HMB.out d hdl
                    have hfree := MB.free HMB.out d hdl
                    obtain ⟨X, hX⟩ : ∃ X : UInt8, turn = (X.toNat : Int) := ⟨UInt8.ofNat turn.toNat, by rw [UInt8.toNat_ofNat']; omega⟩
                    subst hX
                    have HC8 := Aside0.mk (show al.data.toList.getD d 0 = al.data.toList[d] by rw [List.getD_eq_getElem?_getD, List.getElem?_eq_getElem hdl]; rfl)
                    generalize al.data.toList[d] = c8 at *
                    have q8 := eq_true (show 0 ≤ (d : Int) by omega)
                    have HM4 := Aside0.mk (MB.set HMB.out d hdl (c8 ^^^ X))
                    have HB12 := Aside0.mk (HB11.out.step' HGB.out (.int .u8 ((c8 ^^^ X).toNat : Int)) d (HGX.out.1) (HGX.out.2))
                    clear hdl
                    go_wp2_with fail
                    rw [xor_any]
                    generalize hW4 : W3.setCell ⟨g, d, none⟩ (.int .u8 ((c8 ^^^ X).toNat : Int)) = W4 at *
                    clear hcell hfree HB11 HMB hW4
                    obtain ⟨W5, rfl⟩ : ∃ W, W = wr := ⟨_, rfl⟩
                    obtain ⟨g2, rfl⟩ : ∃ g, g = gk := ⟨_, rfl⟩
                    have HF0 := Aside0.mk hfs
                    clear c4b c4n p104 q104 hsn hfs c3b c3n hx1
                    go_loopg [21] i (fun kq v21 w' => ∃ n : Nat, v21 = .int .i64 n ∧ w' = W4 ∧ Aside0 (n + kq = i ∧ (∀ j, j < n → (allTo kinds texts (j + 1)).size ≤ d)))
                    case atStart => exact ⟨0, rfl, rfl, ⟨Nat.zero_add _, fun j hj => absurd hj (by omega)⟩⟩
                    case round =>
                      obtain ⟨n, rfl, rfl, HA2⟩ := hrel
                      have hni : n ≤ i := by have := HA2.out.1; omega
                      have hyl := HXS.out.2.2.2.2.2
                      have hn : n < i := by
                        apply Nat.lt_of_not_le
                        intro hin
                        obtain rfl : n = i := by omega
                        have hal := HXS.out.2.2.1
                        rcases n with _ | n
                        · rw [← hal] at hpz; exact hpz rfl
                        · have := HA2.out.2 n (Nat.lt_succ_self n)
                          rw [hal] at this
                          omega
                      have c3b : decide ((n : Int) < (ys.length : Int)) = true := decide_eq_true (by omega)
                      have c3n : decide (n < ys.length) = true := decide_eq_true (by omega)
                      obtain ⟨ad2, e1, hx0⟩ := Kd.at_int (Kd.R_reads' HB12.out.hy).2.2 (n : Int) (by omega) (by omega)
                      cases e1
                      have hx1 : wr.cell? (ad.add n) = some (.int .i64 (rd ys (n : Int))) := hx0
                      have hrd : rd ys (n : Int) = ((allTo kinds texts (n + 1)).size : Int) := by rw [← HXS.out.2.1]; exact endsTo_at hn
                      rw [hrd] at hx1
                      have p104 := eq_true (show 0 ≤ (n : Int) by omega)
                      have q104 := eq_true (show n < ys.length by omega)
                      clear hx0 hrd hyl
                      generalize hsn : (allTo kinds texts (n + 1)).size = sn at *
                      by_cases c4 : sn ≤ d
                      · have c4b : decide ((sn : Int) ≤ (d : Int)) = true := decide_eq_true (by omega)
                        have c4n : decide (sn ≤ d) = true := decide_eq_true c4
                        have HN := Aside0.mk (⟨hn, c4, hsn⟩ : _ ∧ _ ∧ _)
                        clear hn c4 hsn
                        go_wp2_with fail
                        go_roundg (gk - 1)
                        case measure => have h1 := HA2.out.1; have h2 := HN.out.1; omega
                        case rel => exact ⟨n + 1, by go_num, rfl, ⟨by have h1 := HA2.out.1; have h2 := HN.out.1; omega, fun j hj => by
                          by_cases hjn : j < n
                          · exact HA2.out.2 j hjn
                          · obtain rfl : j = n := by omega
                            rw [HN.out.2.2]
                            exact HN.out.2.1⟩⟩
                      · have c4b : decide ((sn : Int) ≤ (d : Int)) = false := decide_eq_false (by omega)
                        have c4n : decide (sn ≤ d) = false := decide_eq_false c4
                        have hlo : (allTo kinds texts n).size ≤ d := by
                          rcases n with _ | n
                          · exact Nat.zero_le _
                          · exact HA2.out.2 n (Nat.lt_succ_self n)
                        have HN := Aside0.mk (⟨hn, c4, hsn⟩ : _ ∧ _ ∧ _)
                        clear hsn
                        obtain ⟨bn, hbn⟩ : ∃ bn, (allTo kinds texts n).size = bn := ⟨_, rfl⟩
                        have HBN := Aside0.mk hbn
                        rw [hbn] at hlo
                        clear hbn
                        go_upto_if 180 with fail
                        go_cut [25] from 181 to 185 (fun s25 wx => s25 = .int .i64 bn ∧ wx = wr)
                        case first =>
                          by_cases h0 : n = 0
                          · subst h0
                            obtain rfl : bn = 0 := by rw [← HBN.out]; rfl
                            have d0 : decide ((0 : Int) < ((0 : Nat) : Int)) = false := rfl
                            go_wp2_with fail
                            go_meet
                            exact ⟨rfl, rfl⟩
                          · obtain ⟨m, rfl⟩ : ∃ m, n = m + 1 := ⟨n - 1, by omega⟩
                            have hrd2 : rd ys (m : Int) = (bn : Int) := by rw [← HXS.out.2.1, ← HBN.out]; exact endsTo_at (by omega)
                            obtain ⟨ad3, e3, hx3⟩ := Kd.at_int (Kd.R_reads' HB12.out.hy).2.2 (m : Int) (by omega) (by have := HXS.out.2.2.2.2.2; omega)
                            have hx4 : wr.cell? (ad3.add m) = some (.int .i64 (rd ys (m : Int))) := hx3
                            rw [hrd2] at hx4
                            have p5 := eq_true (show 0 ≤ (m : Int) by omega)
                            have p6 := eq_true (show m < ys.length by have := HXS.out.2.2.2.2.2; omega)
                            have p7 : decide ((0 : Int) < ((m + 1 : Nat) : Int)) = true := decide_eq_true (by omega)
                            have p8 : decide ((0 : Int) < (m : Int) + 1) = true := decide_eq_true (by omega)
                            cases e3
                            clear hx3 hrd2
                            go_wp2_with fail
                            go_meet
                            exact ⟨rfl, rfl⟩
                        case rest =>
                          obtain ⟨rfl, rfl⟩ := hcut
                          have hdn : d < (allTo kinds texts (n + 1)).size := by rw [HN.out.2.2]; have := HN.out.2.1; omega
                          by_cases h5 : d = bn + 5
                          · have e5 : ((d : Int) - (bn : Int) == 5) = true := by rw [beq_iff_eq]; omega
                            go_wp2_with fail
                            go_ret
                            exact ⟨rfl, HB12.out.below⟩
                          · have e5 : ((d : Int) - (bn : Int) == 5) = false := by rw [beq_eq_false_iff_ne]; omega
                            by_cases h6 : d = bn + 6
                            · have e6 : ((d : Int) - (bn : Int) == 6) = true := by rw [beq_iff_eq]; omega
                              have e7 : ((d : Int) - (bn : Int) = 6) = True := eq_true (by omega)
                              have e8 : ((d : Int) - (bn : Int) = 5) = False := eq_false (by omega)
                              clear h5 h6
                              go_wp2_with fail
                              go_ret
                              exact ⟨rfl, HB12.out.below⟩
                            · have e6 : ((d : Int) - (bn : Int) == 6) = false := by rw [beq_eq_false_iff_ne]; omega
                              have e7 : ((d : Int) - (bn : Int) = 6) = False := eq_false (by omega)
                              have e8 : ((d : Int) - (bn : Int) = 5) = False := eq_false (by omega)
                              have hXn : X ≠ 0 := by
                                rintro rfl
                                exact ht rfl
                              obtain ⟨er, rr2, nx, her, hrun⟩ := run_turned HOK.out (by rw [HXS.out.2.2.1]; omega) hn (by rw [HBN.out]; exact hlo) hdn (by rw [HBN.out]; omega) (by rw [HBN.out]; omega) hXn
                              rw [HXS.out.2.2.1, HC8.out] at hrun
                              have HCV := Aside0.mk (show ∀ W, MB.MB 5 W g (al.data.toList.set d (c8 ^^^ X)) → (convert 22 9 (.slice (some ⟨g, 0, none⟩) al.size cap)).run Try.prog W = .ok (.string ⟨(al.data.toList.set d (c8 ^^^ X)).toArray⟩) W from fun W h => by
                                have := MB.conv (P := Try.prog) h cap Try.underlying22 Try.underlying5 Try.underlying9
                                rw [List.length_set, size_list] at this
                                exact this)
                              have hFz : (⟨(al.data.toList.set d (c8 ^^^ X)).toArray⟩ : ByteArray).size = al.size := by
                                show (al.data.toList.set d (c8 ^^^ X)).toArray.size = _
                                rw [List.size_toArray, List.length_set, size_list]
                              obtain ⟨kC, hkC⟩ := feed_new hrun (by rw [hFz]; omega)
                              generalize (⟨(al.data.toList.set d (c8 ^^^ X)).toArray⟩ : ByteArray) = F at *
                              have htk2 : xs.take n = wantTo kinds texts n := by rw [← HXS.out.1]; exact wantTo_take hni
                              obtain ⟨k5, hk5⟩ := (of_ev (wantTo kinds texts n) (by rw [wantTo_length]; omega)).rounds
                              obtain ⟨k6, hk6⟩ := (same_ev ((wantTo kinds texts n).map conv49) (by rw [List.length_map, wantTo_length]; omega)).rounds
                              generalize hfs2 : wantTo kinds texts n = ms at *
                              generalize hgs2 : ms.map conv49 = ns at *
                              have hml : n = ms.length := by rw [← hfs2, wantTo_length]
                              subst hml
                              have d9 : (er != 0) = true := by rw [bne_iff_ne]; exact her
                              have HFC := Aside0.mk hkC
                              have HO5 := Aside0.mk hk5
                              have HS6 := Aside0.mk hk6
                              have HTK2 := Aside0.mk htk2
                              clear hrun hkC hk5 hk6 htk2 hgs2 hfs2 hFz hdn hn HO3 HS4 HTK h5 h6
                              go_wp2_with fail
                              go_cut [26, 27] from 196 to 202 (fun s26 s27 wx => s27 = .int .i64 er ∧ ∃ Co co, s26 = .slice Co ms.length co ∧ Aside0 (Kd.C k29 wx Co ms.length ms ∧ ms.length ≤ co) ∧ Aside0 (Bk w wx (.slice Ax xs.length cx) xs (.slice (some ad) ys.length cy) ys))
                              case first =>
                                have hcsD := HCV.out wc.drew (MB.move HM4.out rfl)
                                go_region_with (first | (go_at_call 9; refine (tlv_New.calls _ _ _ wc _ ?_ rfl).mono ?_; exact below_drew1 (Below.refl _ _); rintro e w3 ⟨gb, rfl, hI, hB3, hb3⟩; have hcs4 := HCV.out w3 (MB.move HM4.out (hB3.block _ (MB.lt HM4.out)))) | (go_at_call 10; refine (tlv_Reader_Feed.calls _ _ _ _ _ _ _ _ _ _ _ wc _ hI hB3 HFC.out).mono ?_; rintro e w4 ⟨vo, rfl, hG, _, hB4, _⟩; obtain ⟨Co, co, rfl⟩ := Kd.R_slice hG; have HG := Aside0.mk hG; have HB9 := Aside0.mk (HB12.out.step hB4); clear hG hI hB3 hb3 hB4 HB12))
                                all_goals go_wp2_with fail
                                all_goals go_meet
                                all_goals exact ⟨rfl, Co, co, rfl, ⟨(Kd.R_reads' HG.out).2.2, (Kd.R_reads' HG.out).2.1⟩, HB9⟩
                              case rest =>
                                obtain ⟨rfl, Co, co, rfl, HG, HB9⟩ := hcut
                                have hnx : ms.length ≤ xs.length := by have := HXS.out.2.2.2.2.1; omega
                                have hnx2 : (ms.length : Int) ≤ (xs.length : Int) := by omega
                                have hnc : ms.length ≤ cx := Nat.le_trans hnx (Kd.R_reads' HB9.out.hx).2.1
                                have hnc2 : (ms.length : Int) ≤ (cx : Int) := by omega
                                have hn0 : (0 : Int) ≤ (ms.length : Int) := by omega
                                have hn1 : (ms.length : Int).toNat = ms.length := rfl
                                have HT9 := Aside0.mk (show Kd.C k29 wc Ax ms.length ms by have := Kd.C_take (Kd.R_reads' HB9.out.hx).2.2 hnx; rw [HTK2.out] at this; exact this)
                                clear HB12 HFC HM4
                                go_wp2_with fail
                                go_cut [10] from 203 to 213 (fun s10 wx => s10 = .bool true ∧ Aside0 (Bk w wx (.slice Ax xs.length cx) xs (.slice (some ad) ys.length cy) ys))
                                case first =>
                                  go_region_held (fun _ => True) (trivial) (first | (go_at_call_of 12 (Value.slice Co ms.length co); refine (snapferrylaw04_of.calls k5 _ _ ms ns _ ?_ HG.out.2 HO5.out).mono ?_; exact Kd.C_drew HG.out.1; rintro e w5 ⟨v5, rfl, hr5, hb5⟩; obtain ⟨A5, c5, rfl⟩ := Kd.R_slice hr5; have HR5 := Aside0.mk hr5; have HB5 := Aside0.mk hb5; clear hr5 hb5) | (go_at_call_of 12 (Value.slice Ax ms.length cx); refine (snapferrylaw04_of.calls k5 _ _ ms ns _ ?_ hnc HO5.out).mono ?_; exact Kd.C_below (Kd.C_drew HT9.out) HB5.out; rintro e w6 ⟨v6, rfl, hr6, hb6⟩; obtain ⟨A6, c6, rfl⟩ := Kd.R_slice hr6; have HR6 := Aside0.mk hr6; have HR56 := Aside0.mk (Kd.R_below HR5.out hb6); have HB6 := Aside0.mk (below_step HB5.out hb6); clear hr6 hb6 HR5 HB5) | (go_at_call 11; refine (snapferryref04_Same.calls k6 _ _ ns _ _ ns true _ (Kd.R_reads' HR56.out).2.2 (Kd.R_reads' HR56.out).2.1 (Kd.R_reads' HR6.out).2.2 (Kd.R_reads' HR6.out).2.1 HS6.out).mono ?_; rintro e w7 ⟨rfl, hd⟩; have HD7 := Aside0.mk hd; clear hd HR56 HR6))
                                  go_wp2_with fail
                                  go_meet
                                  obtain ⟨dn, rfl⟩ := HD7.out
                                  exact ⟨rfl, ⟨((HB9.out.step (below_drew1 (Below.refl _ _))).step HB6.out).step (pw_below_drewN (Below.refl _ _) dn)⟩⟩
                                case rest =>
                                  obtain ⟨rfl, HB13⟩ := hcut
                                  go_wp2_with fail
                                  go_ret
                                  exact ⟨rfl, HB13.out.below⟩
          · exfalso
            have hn : n = i := by omega
            subst hn
            have hal := HXS.out.2.2.1
            rcases n with _ | n
            · rw [← hal] at hpz; exact hpz rfl
            · have := HA.out.2.1 n (Nat.lt_succ_self n)
              rw [hal] at this
              omega
end Go.Proofs.Ytimamhklcglljaa.Back
