/- Turned bits that lie within 32 bits change the sum's state, and sealed bytes always leave the same state: the plain laws. No condition. -/
import Derived.Test.YtimamhklcglljaaLem
import Derived.Test.YtimamhklcglljaaBits
namespace Go.Proofs.Ytimamhklcglljaa.Pure
set_option linter.unusedVariables false
set_option linter.unusedSimpArgs false
open Go.RowKit Go.Proofs.Ytimamhklcglljaa.Q Go.Proofs.YtimamhklcglljaaW.PrintWords Go.Proofs.YtimamhklcglljaaW.PrintLast
def hit (turn : Int) (A N i : Nat) : Bool := decide (turn / 2 ^ i % 2 = 1) && decide (A + i < 8 * N)
def flip1 (k : Nat) (bs : List UInt8) : List UInt8 := bs.set (k / 8) (bs.getD (k / 8) 0 ^^^ UInt8.ofNat (2 ^ (k % 8)))
def runB (turn : Int) (A N : Nat) (bs : List UInt8) : Nat → List UInt8
  | 0 => bs
  | i + 1 => if hit turn A N i then flip1 (A + i) (runB turn A N bs i) else runB turn A N bs i
def anyB (turn : Int) (A N : Nat) : Nat → Bool
  | 0 => false
  | i + 1 => if hit turn A N i then true else anyB turn A N i
theorem runB_length (turn : Int) (A N : Nat) (bs : List UInt8) (i : Nat) : (runB turn A N bs i).length = bs.length := by
  induction i with
  | zero => rfl
  | succ i ih => rw [runB]; split <;> simp [flip1, ih]
theorem xor_u8 (c : UInt8) (m : Nat) (hm : m < 8) : bits .xor .u8 (c.toNat : Int) (2 ^ m % 256) = ((c ^^^ UInt8.ofNat (2 ^ m)).toNat : Int) := by
  have h2 : 2 ^ m < 256 := Nat.lt_of_lt_of_le (Nat.pow_lt_pow_right (by omega) hm) (by decide)
  have e : ((2 : Int) ^ m % 256) = ((2 ^ m : Nat) : Int) := by
    have : ((2 ^ m : Nat) : Int) = (2 : Int) ^ m := by norm_cast
    rw [← this]
    exact Int.emod_eq_of_lt (Int.natCast_nonneg _) (Int.ofNat_lt.2 h2)
  rw [e]
  show IntKind.u8.wrap ((BitVec.ofInt 8 (c.toNat : Int) ^^^ BitVec.ofInt 8 ((2 ^ m : Nat) : Int)).toNat : Int) = _
  rw [BitVec.ofInt_natCast, BitVec.ofInt_natCast, IntKind.wrap_u8, UInt8.toNat_xor, UInt8.toNat_ofNat', BitVec.toNat_xor, BitVec.toNat_ofNat, BitVec.toNat_ofNat]
  have hc := c.toNat_lt
  rw [Nat.mod_eq_of_lt (show c.toNat < 2 ^ 8 by omega)]
  have h3 : c.toNat ^^^ (2 ^ m % 2 ^ 8) < 2 ^ 8 := Nat.xor_lt_two_pow (by omega) (by omega)
  omega

theorem bBytes_xor (a b : BitVec 32) (cs : List UInt8) : bBytes (a ^^^ b) cs = bBytes a cs ^^^ bBits (8 * cs.length) b := by
  induction cs generalizing a b with
  | nil => rfl
  | cons c cs ih =>
    show bBytes (bByte (a ^^^ b) c) cs = bBytes (bByte a c) cs ^^^ _
    have e : bByte (a ^^^ b) c = bByte a c ^^^ bBits 8 b := by
      unfold bByte
      rw [BitVec.xor_assoc, BitVec.xor_comm b, ← BitVec.xor_assoc, bBits_xor]
    rw [e, ih, ← bBits_add, List.length_cons, Nat.mul_add]
theorem cV_xor (c x : UInt8) : cV (c ^^^ x) = cV c ^^^ cV x := by
  unfold cV
  apply BitVec.eq_of_toNat_eq
  have h1 := c.toNat_lt
  have h2 := x.toNat_lt
  have h3 : c.toNat ^^^ x.toNat < 2 ^ 8 := Nat.xor_lt_two_pow (by omega) (by omega)
  rw [BitVec.toNat_ofNat, BitVec.toNat_xor, BitVec.toNat_ofNat, BitVec.toNat_ofNat, UInt8.toNat_xor, Nat.mod_eq_of_lt (by omega), Nat.mod_eq_of_lt (by omega), Nat.mod_eq_of_lt (by omega)]
theorem bBytes_set (v : BitVec 32) (bs : List UInt8) (j : Nat) (hj : j < bs.length) (x : UInt8) : bBytes v (bs.set j (bs.getD j 0 ^^^ x)) = bBytes v bs ^^^ bBits (8 * (bs.length - j)) (cV x) := by
  induction bs generalizing v j with
  | nil => simp at hj
  | cons c cs ih =>
    cases j with
    | zero =>
      show bBytes (bByte v (c ^^^ x)) cs = bBytes (bByte v c) cs ^^^ _
      have e : bByte v (c ^^^ x) = bByte v c ^^^ bBits 8 (cV x) := by
        unfold bByte
        rw [cV_xor, ← BitVec.xor_assoc, bBits_xor]
      rw [e, bBytes_xor, ← bBits_add, List.length_cons, Nat.sub_zero, Nat.mul_add]
    | succ j =>
      have := ih (bByte v c) j (by simpa using hj)
      rw [List.length_cons, Nat.succ_sub_succ]
      exact this
theorem bBit_one : ∀ m : Fin 31, bBit (1#32 <<< (m.val + 1)) = 1#32 <<< m.val := by decide
theorem bBits_one (m : Nat) (hm : m < 32) : bBits m (1#32 <<< m) = 1#32 := by
  induction m with
  | zero => rfl
  | succ m ih =>
    rw [bBits_add m 1]
    show bBits m (bBit (1#32 <<< (m + 1))) = _
    rw [bBit_one ⟨m, by omega⟩]
    exact ih (by omega)
theorem cV_pow (m : Nat) (hm : m < 8) : cV (UInt8.ofNat (2 ^ m)) = 1#32 <<< m := by
  have : ∀ m : Fin 8, cV (UInt8.ofNat (2 ^ m.val)) = 1#32 <<< m.val := by decide
  exact this ⟨m, hm⟩
theorem bBytes_flip (v : BitVec 32) (bs : List UInt8) (k : Nat) (hk : k < 8 * bs.length) : bBytes v (flip1 k bs) = bBytes v bs ^^^ bBits (8 * bs.length - k) 1#32 := by
  unfold flip1
  have h8 : k % 8 < 8 := Nat.mod_lt _ (by omega)
  rw [bBytes_set _ _ _ (by omega), cV_pow _ h8]
  have e : 8 * (bs.length - k / 8) = (8 * bs.length - k) + k % 8 := by omega
  rw [e, bBits_add, bBits_one _ (by omega)]
/-- The turned bits, as a word. -/
def hitsV (turn : Int) (A N : Nat) : Nat → BitVec 32
  | 0 => 0#32
  | i + 1 => if hit turn A N i then hitsV turn A N i ^^^ (1#32 <<< i) else hitsV turn A N i
theorem bBits_zeroV (n : Nat) : bBits n 0#32 = 0#32 := by
  induction n with
  | zero => rfl
  | succ n ih => rw [bBits, ih]; decide
theorem hit_lt {turn : Int} {A N i : Nat} (h : hit turn A N i = true) : A + i < 8 * N := by
  unfold hit at h
  rw [Bool.and_eq_true] at h
  exact of_decide_eq_true h.2
theorem runB_state (turn : Int) (A : Nat) (v : BitVec 32) (bs : List UInt8) (i : Nat) (hi : i ≤ 32) :
    bBytes v (runB turn A bs.length bs i) = bBytes v bs ^^^ bBits (8 * bs.length - A) (hitsV turn A bs.length i) := by
  induction i with
  | zero => rw [runB, hitsV, bBits_zeroV, BitVec.xor_zero]
  | succ i ih =>
    rw [runB, hitsV]
    by_cases h : hit turn A bs.length i = true
    · rw [if_pos h, if_pos h, bBytes_flip _ _ _ (by rw [runB_length]; exact hit_lt h), ih (by omega), runB_length, bBits_xor, BitVec.xor_assoc]
      have := hit_lt h
      have e : 8 * bs.length - A = (8 * bs.length - (A + i)) + i := by omega
      rw [e, bBits_add _ i (1#32 <<< i), bBits_one i (by omega)]
    · rw [if_neg h, if_neg h, ih (by omega)]
theorem hitsV_high (turn : Int) (A N i j : Nat) (hj : i ≤ j) (hi : i ≤ 32) : (hitsV turn A N i).getLsbD j = false := by
  induction i with
  | zero => simp [hitsV]
  | succ i ih =>
    rw [hitsV]
    split
    · rw [BitVec.getLsbD_xor, ih (by omega) (by omega), BitVec.getLsbD_shiftLeft]
      have : (1#32).getLsbD (j - i) = false := by rw [BitVec.getLsbD_one]; simp; omega
      rw [this]; simp
    · exact ih (by omega) (by omega)
theorem hitsV_ne {turn : Int} {A N i : Nat} (hi : i ≤ 32) (h : anyB turn A N i = true) : hitsV turn A N i ≠ 0#32 := by
  induction i with
  | zero => simp [anyB] at h
  | succ i ih =>
    rw [anyB] at h
    rw [hitsV]
    by_cases hh : hit turn A N i = true
    · rw [if_pos hh]
      intro e
      have := congrArg (fun v => v.getLsbD i) e
      simp only [BitVec.getLsbD_xor, hitsV_high turn A N i i (Nat.le_refl _) (by omega), BitVec.getLsbD_shiftLeft] at this
      simp [show i < 32 by omega] at this
    · rw [if_neg hh] at h ⊢
      exact ih (by omega) h
theorem runB_none {turn : Int} {A N i : Nat} {bs : List UInt8} (h : anyB turn A N i = false) : runB turn A N bs i = bs := by
  induction i with
  | zero => rfl
  | succ i ih =>
    rw [anyB] at h
    by_cases hh : hit turn A N i = true
    · rw [if_pos hh] at h; simp at h
    · rw [if_neg hh] at h
      rw [runB, if_neg hh, ih h]
/-- Turned bits change the state. -/
theorem runB_turned {turn : Int} {A : Nat} {v : BitVec 32} {bs : List UInt8} (h : anyB turn A bs.length 32 = true) : bBytes v (runB turn A bs.length bs 32) ≠ bBytes v bs := by
  rw [runB_state _ _ _ _ _ (Nat.le_refl _)]
  intro e
  have : bBits (8 * bs.length - A) (hitsV turn A bs.length 32) = 0#32 := by
    have := congrArg (fun x => bBytes v bs ^^^ x) e
    simpa [xor_cc] using this
  exact hitsV_ne (Nat.le_refl _) h (bBits_zero this)

theorem bBit_shl (b : BitVec 32) (h : b.toNat < 2 ^ 31) : bBit (b <<< 1) = b := by
  unfold bBit
  have h0 : (b <<< 1).getLsbD 0 = false := by rw [BitVec.getLsbD_shiftLeft]; simp
  rw [h0]
  simp only [Bool.false_eq_true, if_false, BitVec.xor_zero]
  apply BitVec.eq_of_toNat_eq
  rw [BitVec.toNat_ushiftRight, BitVec.toNat_shiftLeft, Nat.shiftRight_eq_div_pow, Nat.shiftLeft_eq]
  omega
theorem bBits_shl (n : Nat) (b : BitVec 32) (hn : n ≤ 32) (h : b.toNat < 2 ^ (32 - n)) : bBits n (b <<< n) = b := by
  induction n with
  | zero => rw [bBits, BitVec.shiftLeft_zero]
  | succ n ih =>
    rw [bBits_add n 1]
    show bBits n (bBit (b <<< (n + 1))) = b
    rw [BitVec.shiftLeft_add, bBit_shl]
    · refine ih (by omega) (Nat.lt_of_lt_of_le h (Nat.pow_le_pow_right (by omega) (by omega)))
    · rw [BitVec.toNat_shiftLeft, Nat.shiftLeft_eq]
      have h2 : b.toNat * 2 ^ n < 2 ^ (32 - (n + 1)) * 2 ^ n := Nat.mul_lt_mul_of_pos_right h (Nat.pow_pos (by omega))
      rw [← Nat.pow_add, show 32 - (n + 1) + n = 31 by omega] at h2
      omega
theorem bits_in (n m : Nat) (a b : BitVec 32) (hn : n ≤ 32) (h : b.toNat < 2 ^ (32 - n)) : bBits n a ^^^ b = bBits n (a ^^^ b <<< n) := by
  rw [bBits_xor, bBits_shl n b hn h]
/-- A word's byte. -/
def byteN (y : BitVec 32) (i : Nat) : UInt8 := UInt8.ofNat (y.toNat / 2 ^ (8 * i))
theorem cV_byte (y : BitVec 32) (i : Nat) : cV (byteN y i) = (y >>> (8 * i)) &&& 0xff#32 := by
  unfold cV byteN
  apply BitVec.eq_of_toNat_eq
  rw [BitVec.toNat_ofNat, BitVec.toNat_and, BitVec.toNat_ushiftRight, Nat.shiftRight_eq_div_pow, UInt8.toNat_ofNat']
  have e : (0xff#32).toNat = 2 ^ 8 - 1 := by decide
  rw [e, Nat.and_two_pow_sub_one_eq_mod]
  omega
theorem cV_lt (c : UInt8) : (cV c).toNat < 2 ^ 8 := by
  unfold cV
  rw [BitVec.toNat_ofNat]
  have := c.toNat_lt
  omega
theorem four_join (y : BitVec 32) : cV (byteN y 0) ^^^ (cV (byteN y 1) <<< 8) ^^^ (cV (byteN y 2) <<< 16) ^^^ (cV (byteN y 3) <<< 24) = y := by
  simp only [cV_byte]
  apply BitVec.eq_of_getLsbD_eq
  intro i hi
  simp only [BitVec.getLsbD_xor, BitVec.getLsbD_shiftLeft, BitVec.getLsbD_and, BitVec.getLsbD_ushiftRight]
  have hff : ∀ j, (0xff#32).getLsbD j = decide (j < 8) := by
    intro j
    by_cases hj : j < 8
    · have : ∀ j : Fin 8, (0xff#32).getLsbD j.val = true := by decide
      rw [this ⟨j, hj⟩, decide_eq_true hj]
    · rw [decide_eq_false hj]
      by_cases hj2 : j < 32
      · have : ∀ j : Fin 24, (0xff#32).getLsbD (j.val + 8) = false := by decide
        have := this ⟨j - 8, by omega⟩
        simpa [show j - 8 + 8 = j by omega] using this
      · exact BitVec.getLsbD_of_ge _ _ (by omega)
  simp only [hff]
  by_cases h1 : i < 8
  · simp [h1, show i < 16 by omega, show i < 24 by omega, hi]
  · by_cases h2 : i < 16
    · simp [h1, h2, show i < 24 by omega, show i - 8 < 8 by omega, hi, show 8 + (i - 8) = i by omega]
    · by_cases h3 : i < 24
      · simp [h1, h2, h3, show ¬ i - 8 < 8 by omega, show i - 16 < 8 by omega, hi, show 16 + (i - 16) = i by omega]
      · simp [h1, h2, h3, show ¬ i - 8 < 8 by omega, show ¬ i - 16 < 8 by omega, show i - 24 < 8 by omega, hi, show 24 + (i - 24) = i by omega]
theorem four (x y : BitVec 32) : bBytes x [byteN y 0, byteN y 1, byteN y 2, byteN y 3] = bBits 32 (x ^^^ y) := by
  have l0 := cV_lt (byteN y 0)
  have l1 := cV_lt (byteN y 1)
  have l2 := cV_lt (byteN y 2)
  have l3 := cV_lt (byteN y 3)
  have e := four_join y
  show bBits 8 (bBits 8 (bBits 8 (bBits 8 (x ^^^ cV (byteN y 0)) ^^^ cV (byteN y 1)) ^^^ cV (byteN y 2)) ^^^ cV (byteN y 3)) = _
  rw [bits_in 8 0 _ (cV (byteN y 1)) (by omega) (by omega), ← bBits_add 8 8, bits_in 16 0 _ (cV (byteN y 2)) (by omega) (by omega), ← bBits_add 8 16, bits_in 24 0 _ (cV (byteN y 3)) (by omega) (by omega), ← bBits_add 8 24]
  refine congrArg (bBits 32) (Eq.trans ?_ (congrArg (fun z => x ^^^ z) e))
  simp only [BitVec.xor_assoc]
theorem tail4_toI (y : BitVec 32) : (tail4 (toI y)).data.toList = [byteN y 0, byteN y 1, byteN y 2, byteN y 3] := by
  unfold tail4 byteN toI
  rw [strOfNums_data]
  simp only [List.map_cons, List.map_nil, List.cons.injEq, and_true]
  have h : ∀ a b : Nat, a % 256 = b % 256 → UInt8.ofNat a = UInt8.ofNat b := by
    intro a b h
    apply UInt8.toNat_inj.1
    rw [UInt8.toNat_ofNat', UInt8.toNat_ofNat']
    exact h
  refine ⟨h _ _ ?_, h _ _ ?_, h _ _ ?_, h _ _ ?_⟩ <;> omega
def bState (v : BitVec 32) (s : ByteArray) : BitVec 32 := bBytes v s.data.toList
theorem crcSum_one (s : ByteArray) : crcSum [s] = toI (ones ^^^ bState ones s) := by rw [crcSum_toI]; rfl
/-- Sealed bytes leave always the same state. -/
theorem state_seal (s : ByteArray) : bState ones (sealB s) = bBits 32 ones := by
  unfold bState sealB
  rw [ByteArray.data_append, Array.toList_append, crcSum_one, tail4_toI]
  unfold bBytes
  rw [List.foldl_append]
  show bBytes (bState ones s) _ = _
  rw [four, BitVec.xor_comm ones, xor_cc]
theorem crcSum_seal (s : ByteArray) : crcSum [sealB s] = toI (ones ^^^ bBits 32 ones) := by rw [crcSum_one, state_seal]
theorem data_of {s t : ByteArray} (h : s.toList = t.toList) : s.data.toList = t.data.toList := by rwa [ByteArray.toList_eq, ByteArray.toList_eq] at h
/-- Bytes whose state isn't that of sealed ones are refused. -/
theorem open_bad {s : ByteArray} (h4 : 4 ≤ s.size) (h : s.size ≤ 4611686018427387904) (hb : bState ones s ≠ bBits 32 ones) : crc_Open.f s = some (⟨#[]⟩, 8) := by
  rw [open_long h4 h]
  rw [if_neg]
  intro e
  apply hb
  rw [← state_seal (s.extract 0 (s.size - 4))]
  unfold bState
  rw [data_of e]
/-- Turned bits of sealed bytes are seen. -/
theorem open_turned {s : ByteArray} (hs : s.size ≤ 4000) {turn : Int} {A : Nat} (h : anyB turn A (sealB s).size 32 = true) :
    crc_Open.f ⟨(runB turn A (sealB s).size (sealB s).data.toList 32).toArray⟩ = some (⟨#[]⟩, 8) := by
  have hl : (sealB s).data.toList.length = (sealB s).size := rfl
  have hz : (⟨(runB turn A (sealB s).size (sealB s).data.toList 32).toArray⟩ : ByteArray).size = s.size + 4 := by
    show (runB turn A (sealB s).size (sealB s).data.toList 32).toArray.size = _
    rw [List.size_toArray, runB_length, hl, sealB_size]
  refine open_bad (by omega) (by omega) ?_
  rw [← state_seal s]
  unfold bState
  rw [← hl] at h ⊢
  exact runB_turned h
theorem open_unturned {s : ByteArray} (hs : s.size ≤ 4000) {turn : Int} {A : Nat} (h : anyB turn A (sealB s).size 32 = false) :
    crc_Open.f ⟨(runB turn A (sealB s).size (sealB s).data.toList 32).toArray⟩ = some (s, 0) := by
  rw [runB_none h]
  exact open_seal (by omega)
end Go.Proofs.Ytimamhklcglljaa.Pure
