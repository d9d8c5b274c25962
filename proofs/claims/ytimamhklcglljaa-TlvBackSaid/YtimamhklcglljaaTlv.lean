/- Records and their bytes: what is printed is parsed to it, whatever stands behind; no beginning of it is. Plain laws over the functions of this claim. No condition. -/
import Derived.Test.YtimamhklcglljaaLem
import Derived.Laws.BitsLemmas
namespace Go.Proofs.Ytimamhklcglljaa.Pure
set_option linter.unusedVariables false
set_option linter.unusedSimpArgs false
open Go.RowKit Go.Proofs.Ytimamhklcglljaa.Q Go.Proofs.YtimamhklcglljaaW.PrintWords Go.Proofs.YtimamhklcglljaaW.PrintLast Go.Proofs.YtimamhklcglljaaW.PrintMore
theorem wraps40 (n : Int) (h0 : 0 ≤ n) (h1 : n < 2 ^ 40) : IntKind.i64.wrap n = n := by
  simp [IntKind.wrap, IntKind.bits, IntKind.signed]; omega
theorem join (i : Nat) (x y : Int) (hx0 : 0 ≤ x) (hx : x % 2 ^ i = 0) (hx1 : x < 2 ^ 40) (hy0 : 0 ≤ y) (hy : y < 2 ^ i) (hy1 : y < 2 ^ 40) : bits .or .i64 x y = x + y :=
  bits_join .i64 40 (by decide) wraps40 i x y hx0 hx hx1 hy0 hy hy1
theorem w64 {n : Int} (h0 : 0 ≤ n) (h1 : n < 1099511627776) : wrap64 n = n := by unfold wrap64; omega
theorem bt_nn (s : ByteArray) (i : Int) : 0 ≤ bt s i ∧ bt s i < 256 := by
  unfold bt
  split
  · have := (s[i.toNat]).toNat_lt; omega
  · omega
/-- The two length bytes. -/
def lenOf (s : ByteArray) : Int := bt s 5 * 256 + bt s 6
theorem lenOf_eq (s : ByteArray) : bits .or .i64 (wrap64 ((wrap64 (bt s 5)) * 256)) (wrap64 (bt s 6)) = lenOf s := by
  obtain ⟨h1, h2⟩ := bt_nn s 5
  obtain ⟨h3, h4⟩ := bt_nn s 6
  rw [w64 (n := bt s 5) h1 (by omega), w64 (n := bt s 6) h3 (by omega), w64 (by omega) (by omega), join 8 _ _ (by omega) (by omega) (by omega) h3 (by omega) (by omega)]
  rfl
theorem lenOf_nn (s : ByteArray) : 0 ≤ lenOf s ∧ lenOf s < 65536 := by
  obtain ⟨h1, h2⟩ := bt_nn s 5
  obtain ⟨h3, h4⟩ := bt_nn s 6
  unfold lenOf
  omega
/-- The four number bytes. -/
def seqOf (s : ByteArray) : Int := bt s 1 * 16777216 + bt s 2 * 65536 + bt s 3 * 256 + bt s 4
theorem seqOf_eq (s : ByteArray) : Go.bits .or .i64 (Go.bits .or .i64 (Go.bits .or .i64 (wrap64 ((wrap64 (bt s 1)) * 16777216)) (wrap64 ((wrap64 (bt s 2)) * 65536))) (wrap64 ((wrap64 (bt s 3)) * 256))) (wrap64 (bt s 4)) = seqOf s := by
  obtain ⟨a1, b1⟩ := bt_nn s 1
  obtain ⟨a2, b2⟩ := bt_nn s 2
  obtain ⟨a3, b3⟩ := bt_nn s 3
  obtain ⟨a4, b4⟩ := bt_nn s 4
  rw [w64 (n := bt s 1) a1 (by omega), w64 (n := bt s 2) a2 (by omega), w64 (n := bt s 3) a3 (by omega), w64 (n := bt s 4) a4 (by omega), w64 (n := bt s 1 * 16777216) (by omega) (by omega), w64 (n := bt s 2 * 65536) (by omega) (by omega), w64 (n := bt s 3 * 256) (by omega) (by omega),
    join 24 (bt s 1 * 16777216) (bt s 2 * 65536) (by omega) (by omega) (by omega) (by omega) (by omega) (by omega), join 16 (bt s 1 * 16777216 + bt s 2 * 65536) (bt s 3 * 256) (by omega) (by omega) (by omega) (by omega) (by omega) (by omega), join 8 (bt s 1 * 16777216 + bt s 2 * 65536 + bt s 3 * 256) (bt s 4) (by omega) (by omega) (by omega) (by omega) (by omega) (by omega)]
  rfl
/-- What a text is parsed to, said plainly. -/
theorem parse_short {s : ByteArray} (h : s.size < 7) : tlv_Parse.f s = some (0, 0, ⟨#[]⟩, ⟨#[]⟩, 4) := by
  unfold tlv_Parse.f
  rw [if_pos (by omega)]
theorem parse_none {s : ByteArray} (h : 7 ≤ s.size) (hz : s.size ≤ 4611686018427387904) (hl : lenOf s ≤ 8192) (ha : (s.size : Int) < lenOf s + 11) : tlv_Parse.f s = some (0, 0, ⟨#[]⟩, ⟨#[]⟩, 4) := by
  unfold tlv_Parse.f
  obtain ⟨l0, l1⟩ := lenOf_nn s
  rw [if_neg (by omega), if_pos (by omega), if_pos (by omega), lenOf_eq, if_neg (by omega), w64 (n := 7 + lenOf s) (by omega) (by omega), w64 (n := 7 + lenOf s + 4) (by omega) (by omega), if_pos (by omega)]
theorem parse_long {s : ByteArray} (h : 7 ≤ s.size) (hl : 8192 < lenOf s) : tlv_Parse.f s = some (0, 0, ⟨#[]⟩, ⟨#[]⟩, 3) := by
  unfold tlv_Parse.f
  rw [if_neg (by omega), if_pos (by omega), if_pos (by omega), lenOf_eq, if_pos (by omega)]
theorem parse_all {s : ByteArray} (h : 7 ≤ s.size) (hz : s.size ≤ 4611686018427387904) (hl : lenOf s ≤ 8192) (ha : lenOf s + 11 ≤ (s.size : Int)) {b : ByteArray} {e : Int} (ho : crc_Open.f (s.extract 0 (lenOf s + 11).toNat) = some (b, e)) (hb : e = 0 → (b.size : Int) = lenOf s + 7) :
    tlv_Parse.f s = if e = 0 then (if bt b 0 = 0 then some (0, 0, ⟨#[]⟩, ⟨#[]⟩, 16) else if seqOf b > 2147483647 then some (0, 0, ⟨#[]⟩, ⟨#[]⟩, 1) else some (bt b 0, seqOf b, b.extract 7 b.size, s.extract (lenOf s + 11).toNat s.size, 0)) else some (0, 0, ⟨#[]⟩, ⟨#[]⟩, 8) := by
  unfold tlv_Parse.f
  obtain ⟨l0, l1⟩ := lenOf_nn s
  rw [if_neg (by omega), if_pos (by omega), if_pos (by omega), lenOf_eq, if_neg (by omega), w64 (n := 7 + lenOf s) (by omega) (by omega), w64 (n := 7 + lenOf s + 4) (by omega) (by omega), if_neg (by omega), if_pos (by omega), if_pos (by omega),
    show 7 + lenOf s + 4 = lenOf s + 11 by omega, ho]
  simp only [Option.bind_some]
  by_cases he : e = 0
  · have hbs := hb he
    rw [if_pos he, if_pos he, if_pos (by omega), if_pos (by omega), if_pos (by omega), if_pos (by omega), if_pos (by omega), if_pos (by omega), seqOf_eq, w64 (bt_nn b 0).1 (by have := (bt_nn b 0).2; omega)]
  · rw [if_neg he, if_neg he]
/-- A record's first seven bytes. -/
def headB (K S n : Int) : ByteArray := strOfNums [K % 256, (S / 16777216) % 256, (S / 65536) % 256, (S / 256) % 256, S % 256, (n / 256) % 256, n % 256]
def bodyB (K S : Int) (P : ByteArray) : ByteArray := headB K S P.size ++ P
def recB (K S : Int) (P : ByteArray) : ByteArray := sealB (bodyB K S P)
theorem headB_size (K S n : Int) : (headB K S n).size = 7 := rfl
theorem bodyB_size (K S : Int) (P : ByteArray) : (bodyB K S P).size = P.size + 7 := by unfold bodyB; rw [ByteArray.size_append, headB_size]; omega
theorem recB_size (K S : Int) (P : ByteArray) : (recB K S P).size = P.size + 11 := by unfold recB; rw [sealB_size, bodyB_size]
/-- Which records may be. -/
def Right (K S : Int) (P : ByteArray) : Prop := 1 ≤ K ∧ K ≤ 255 ∧ 0 ≤ S ∧ S ≤ 2147483647 ∧ P.size ≤ 8192
theorem print_ok {K S : Int} {P : ByteArray} (h : Right K S P) (k : Nat) : tlv_Print.f (k + 1) K S P = some (recB K S P, 0) := by
  obtain ⟨h1, h2, h3, h4, h5⟩ := h
  unfold tlv_Print.f
  rw [if_neg (by omega), if_neg (by omega), if_neg (by omega)]
  simp only [tlv_Print.j0]
  rw [if_neg (by simp; omega), if_neg (by omega)]
  simp only [Option.bind_some]
  rw [if_pos (by rw [show (strOfNums [K % 256, (S / 16777216) % 256, (S / 65536) % 256, (S / 256) % 256, S % 256, ((P.size : Int) / 256) % 256, (P.size : Int) % 256]).size = 7 from rfl]; omega)]
  have e : strOfNums [K % 256, (S / 16777216) % 256, (S / 65536) % 256, (S / 256) % 256, S % 256, ((P.size : Int) / 256) % 256, (P.size : Int) % 256] ++ P = bodyB K S P := rfl
  rw [e, seal_eq (by rw [bodyB_size]; omega)]
  rfl
theorem print_bad {K S : Int} {P : ByteArray} (h : ¬ Right K S P) (k : Nat) : ∃ e, e ≠ 0 ∧ tlv_Print.f (k + 1) K S P = some (⟨#[]⟩, e) := by
  unfold tlv_Print.f
  by_cases h1 : K < 1
  · rw [if_pos h1]; exact ⟨1, by decide, by simp [tlv_Print.j0]⟩
  by_cases h2 : K > 255
  · rw [if_neg h1, if_pos h2]; exact ⟨1, by decide, by simp [tlv_Print.j0]⟩
  by_cases h3 : S < 0
  · rw [if_neg h1, if_neg h2, if_pos h3]; exact ⟨1, by decide, by simp [tlv_Print.j0]⟩
  rw [if_neg h1, if_neg h2, if_neg h3]
  by_cases h4 : S > 2147483647
  · exact ⟨1, by decide, by simp only [tlv_Print.j0]; rw [if_pos (decide_eq_true h4)]⟩
  · refine ⟨3, by decide, ?_⟩
    simp only [tlv_Print.j0]
    rw [if_neg (by simp; omega), if_pos]
    unfold Right at h
    omega
/-! ### bytes of appended texts -/
theorem bt_app {a b : ByteArray} {i : Nat} (h : i < a.size) : bt (a ++ b) (i : Int) = bt a (i : Int) := by
  unfold bt
  have h2 : i < (a ++ b).size := by rw [ByteArray.size_append]; omega
  rw [dif_pos (by simpa using h2), dif_pos (by simpa using h)]
  congr 2
  exact ByteArray.getElem_append_left h
theorem bt_rec {K S : Int} {P : ByteArray} (more : ByteArray) {i : Nat} (h : i < 7) : bt (recB K S P ++ more) (i : Int) = bt (headB K S P.size) (i : Int) := by
  rw [bt_app (by rw [recB_size]; omega)]
  unfold recB sealB
  rw [bt_app (by rw [bodyB_size]; omega)]
  unfold bodyB
  rw [bt_app (by rw [headB_size]; omega)]
theorem u8_mod (n : Int) : ((UInt8.ofNat (n % 256).toNat).toNat : Int) = n % 256 := by
  rw [UInt8.toNat_ofNat']
  omega
theorem head0 (K S n : Int) : bt (headB K S n) 0 = K % 256 := u8_mod K
theorem head1 (K S n : Int) : bt (headB K S n) 1 = (S / 16777216) % 256 := u8_mod _
theorem head2 (K S n : Int) : bt (headB K S n) 2 = (S / 65536) % 256 := u8_mod _
theorem head3 (K S n : Int) : bt (headB K S n) 3 = (S / 256) % 256 := u8_mod _
theorem head4 (K S n : Int) : bt (headB K S n) 4 = S % 256 := u8_mod _
theorem head5 (K S n : Int) : bt (headB K S n) 5 = (n / 256) % 256 := u8_mod _
theorem head6 (K S n : Int) : bt (headB K S n) 6 = n % 256 := u8_mod _
theorem len_rec {K S : Int} {P : ByteArray} (h : Right K S P) (more : ByteArray) : lenOf (recB K S P ++ more) = P.size := by
  unfold lenOf
  have e5 := bt_rec (K := K) (S := S) (P := P) more (i := 5) (by omega)
  have e6 := bt_rec (K := K) (S := S) (P := P) more (i := 6) (by omega)
  rw [show ((5 : Nat) : Int) = 5 from rfl] at e5
  rw [show ((6 : Nat) : Int) = 6 from rfl] at e6
  rw [e5, e6, head5, head6]
  have := h.2.2.2.2
  omega
theorem size_list (a : ByteArray) : a.data.toList.length = a.size := rfl
theorem extract_app (a b : ByteArray) : (a ++ b).extract 0 a.size = a := by
  apply ByteArray.ext
  rw [← Array.toList_inj, ByteArray.data_extract, ByteArray.data_append, Array.toList_extract, Array.toList_append, List.extract_eq_take_drop, List.drop_zero, Nat.sub_zero, ← size_list, List.take_left]
theorem extract_app' (a b : ByteArray) : (a ++ b).extract a.size (a ++ b).size = b := by
  apply ByteArray.ext
  rw [← Array.toList_inj, ByteArray.data_extract, ByteArray.data_append, Array.toList_extract, Array.toList_append, List.extract_eq_take_drop, ByteArray.size_append, Nat.add_sub_cancel_left, ← size_list a, List.drop_left, ← size_list b, List.take_length]
theorem cut_app (s : ByteArray) (k : Nat) : s.extract 0 k ++ s.extract k s.size = s := by
  apply ByteArray.ext
  rw [← Array.toList_inj, ByteArray.data_append, ByteArray.data_extract, ByteArray.data_extract, Array.toList_append, Array.toList_extract, Array.toList_extract, List.extract_eq_take_drop, List.extract_eq_take_drop, List.drop_zero, Nat.sub_zero,
    List.take_of_length_le (l := List.drop k s.data.toList) (by rw [List.length_drop, size_list]; omega), List.take_append_drop]
/-- A record's bytes are parsed to it, whatever stands behind. -/
theorem parse_rec {K S : Int} {P : ByteArray} (h : Right K S P) {more : ByteArray} (hm : more.size ≤ 4000000000000000000) :
    tlv_Parse.f (recB K S P ++ more) = some (K, S, P, more, 0) := by
  have hz : (recB K S P ++ more).size = P.size + 11 + more.size := by rw [ByteArray.size_append, recB_size]
  have hl := len_rec h more
  obtain ⟨h1, h2, h3, h4, h5⟩ := h
  have hn : (lenOf (recB K S P ++ more) + 11).toNat = (recB K S P).size := by rw [hl, recB_size]; omega
  have ho : crc_Open.f ((recB K S P ++ more).extract 0 (lenOf (recB K S P ++ more) + 11).toNat) = some (bodyB K S P, 0) := by
    rw [hn, extract_app]
    unfold recB
    exact open_seal (by rw [bodyB_size]; omega)
  rw [parse_all (by omega) (by omega) (by omega) (by omega) ho (fun _ => by rw [bodyB_size, hl]; omega), if_pos rfl]
  have b0 : bt (bodyB K S P) 0 = K := by
    have := bt_app (a := headB K S P.size) (b := P) (i := 0) (by rw [headB_size]; omega)
    unfold bodyB
    rw [show ((0 : Nat) : Int) = 0 from rfl] at this
    rw [this, head0]
    omega
  have bs : seqOf (bodyB K S P) = S := by
    unfold seqOf
    have e1 := bt_app (a := headB K S P.size) (b := P) (i := 1) (by rw [headB_size]; omega)
    have e2 := bt_app (a := headB K S P.size) (b := P) (i := 2) (by rw [headB_size]; omega)
    have e3 := bt_app (a := headB K S P.size) (b := P) (i := 3) (by rw [headB_size]; omega)
    have e4 := bt_app (a := headB K S P.size) (b := P) (i := 4) (by rw [headB_size]; omega)
    rw [show ((1 : Nat) : Int) = 1 from rfl, head1] at e1
    rw [show ((2 : Nat) : Int) = 2 from rfl, head2] at e2
    rw [show ((3 : Nat) : Int) = 3 from rfl, head3] at e3
    rw [show ((4 : Nat) : Int) = 4 from rfl, head4] at e4
    unfold bodyB
    rw [e1, e2, e3, e4]
    omega
  rw [b0, bs, if_neg (by omega), if_neg (by omega), hn, extract_app']
  have hp : (bodyB K S P).extract 7 (bodyB K S P).size = P := by
    unfold bodyB
    exact extract_app' (headB K S P.size) P
  rw [hp]
/-- No beginning of a record's bytes is one. -/
theorem parse_cut {K S : Int} {P : ByteArray} (h : Right K S P) {k : Nat} (hk : k < (recB K S P).size) : tlv_Parse.f ((recB K S P).extract 0 k) = some (0, 0, ⟨#[]⟩, ⟨#[]⟩, 4) := by
  have hz : ((recB K S P).extract 0 k).size = k := by rw [ByteArray.size_extract]; omega
  by_cases h7 : k < 7
  · exact parse_short (by omega)
  · have hb : ∀ i : Nat, i < k → bt ((recB K S P).extract 0 k) (i : Int) = bt (recB K S P) (i : Int) := by
      intro i hi
      have := bt_app (a := (recB K S P).extract 0 k) (b := (recB K S P).extract k (recB K S P).size) (i := i) (by omega)
      rw [← this, cut_app]
    have hl : lenOf ((recB K S P).extract 0 k) = P.size := by
      have := len_rec h ⟨#[]⟩
      have e : recB K S P ++ (⟨#[]⟩ : ByteArray) = recB K S P := by
        apply ByteArray.ext
        simp [ByteArray.data_append]
      rw [e] at this
      rw [← this]
      unfold lenOf
      have e5 := hb 5 (by omega)
      have e6 := hb 6 (by omega)
      rw [show ((5 : Nat) : Int) = 5 from rfl] at e5
      rw [show ((6 : Nat) : Int) = 6 from rfl] at e6
      rw [e5, e6]
    have h5 := h.2.2.2.2
    rw [recB_size] at hk
    exact parse_none (by omega) (by omega) (by omega) (by omega)
/-- Unlike records have unlike bytes. -/
theorem recB_inj {K S K' S' : Int} {P P' : ByteArray} (h : Right K S P) (h' : Right K' S' P') (e : recB K S P = recB K' S' P') : K = K' ∧ S = S' ∧ P = P' := by
  have h1 := parse_rec h (more := ⟨#[]⟩) (by decide)
  have h2 := parse_rec h' (more := ⟨#[]⟩) (by decide)
  rw [e, h2] at h1
  simp only [Option.some.injEq, Prod.mk.injEq] at h1
  exact ⟨h1.1.symm, h1.2.1.symm, h1.2.2.1.symm⟩
end Go.Proofs.Ytimamhklcglljaa.Pure
