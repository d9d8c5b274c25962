/- The sum's step as a map of words of 32 bits: it is linear and loses nothing; and how it goes bit by bit. No condition. -/
import Derived.Test.YtimamhklcglljaaQx4
namespace Go.Proofs.Ytimamhklcglljaa.Pure
set_option linter.unusedVariables false
set_option linter.unusedSimpArgs false
open Go.RowKit Go.Proofs.Ytimamhklcglljaa.Q Go.Proofs.YtimamhklcglljaaW.PrintWords Go.Proofs.YtimamhklcglljaaW.PrintLast
def toI (v : BitVec 32) : Int := (v.toNat : Int)
theorem toI_lt (v : BitVec 32) : toI v < 4294967296 := by unfold toI; have := v.isLt; omega
theorem toI_nn (v : BitVec 32) : 0 ≤ toI v := by unfold toI; omega
theorem toI_inj {a b : BitVec 32} (h : toI a = toI b) : a = b := by
  unfold toI at h
  exact BitVec.eq_of_toNat_eq (by omega)
theorem ofInt_toI (v : BitVec 32) : BitVec.ofInt 32 (toI v) = v := by
  unfold toI
  rw [BitVec.ofInt_natCast, BitVec.ofNat_toNat, BitVec.setWidth_eq]
theorem wrap_toI (v : BitVec 32) : IntKind.u32.wrap (v.toNat : Int) = toI v := by
  rw [IntKind.wrap_u32]; have := v.isLt; unfold toI; omega
theorem xor_toI (a b : BitVec 32) : bits .xor .u32 (toI a) (toI b) = toI (a ^^^ b) := by
  show IntKind.u32.wrap ((BitVec.ofInt 32 (toI a) ^^^ BitVec.ofInt 32 (toI b)).toNat : Int) = _
  rw [ofInt_toI, ofInt_toI, wrap_toI]
theorem and_toI (a b : BitVec 32) : bits .and .u32 (toI a) (toI b) = toI (a &&& b) := by
  show IntKind.u32.wrap ((BitVec.ofInt 32 (toI a) &&& BitVec.ofInt 32 (toI b)).toNat : Int) = _
  rw [ofInt_toI, ofInt_toI, wrap_toI]
theorem half_toI (a : BitVec 32) : toI a / (2 : Int) = toI (a >>> 1) := by
  unfold toI
  rw [BitVec.toNat_ushiftRight, Nat.shiftRight_eq_div_pow]
  omega
def polyV : BitVec 32 := 0x82f63b78#32
theorem poly_toI : (2197175160 : Int) = toI polyV := by decide
def bBit (v : BitVec 32) : BitVec 32 := (v >>> 1) ^^^ (if v.getLsbD 0 then polyV else 0#32)
def bBits : Nat → BitVec 32 → BitVec 32
  | 0, v => v
  | n + 1, v => bBit (bBits n v)
theorem and_one (v : BitVec 32) : v &&& 1#32 = if v.getLsbD 0 then 1#32 else 0#32 := by
  apply BitVec.eq_of_getLsbD_eq
  intro i hi
  rw [BitVec.getLsbD_and]
  cases h : v.getLsbD 0 <;> cases i <;> simp_all [BitVec.getLsbD_one]
theorem crcBit_toI (v : BitVec 32) : crcBit (toI v) = toI (bBit v) := by
  unfold crcBit
  rw [half_toI, show (1 : Int) = toI 1#32 from by decide, and_toI, and_one]
  unfold bBit
  cases v.getLsbD 0
  · show bits .xor .u32 _ (2197175160 * toI 0#32 % 4294967296) = _
    rw [show (2197175160 * toI 0#32 % 4294967296 : Int) = toI 0#32 from by decide, xor_toI]
    rfl
  · show bits .xor .u32 _ (2197175160 * toI 1#32 % 4294967296) = _
    rw [show (2197175160 * toI 1#32 % 4294967296 : Int) = toI polyV from by decide, xor_toI]
    rfl
theorem crcBits_toI (n : Nat) (v : BitVec 32) : crcBits n (toI v) = toI (bBits n v) := by
  induction n with
  | zero => rfl
  | succ n ih => rw [crcBits, ih, crcBit_toI]; rfl
def cV (c : UInt8) : BitVec 32 := BitVec.ofNat 32 c.toNat
theorem cV_toI (c : UInt8) : (c.toNat : Int) = toI (cV c) := by
  unfold toI cV
  rw [BitVec.toNat_ofNat]
  have := c.toNat_lt
  omega
theorem cV_mod (c : UInt8) : (c.toNat : Int) % 4294967296 = toI (cV c) := by
  rw [← cV_toI]
  have := c.toNat_lt
  omega
def bByte (v : BitVec 32) (c : UInt8) : BitVec 32 := bBits 8 (v ^^^ cV c)
theorem crcByte_toI (v : BitVec 32) (c : UInt8) : crcByte (toI v) c = toI (bByte v c) := by
  unfold crcByte
  rw [cV_mod, xor_toI, crcBits_toI]
  rfl
def bBytes (v : BitVec 32) (s : List UInt8) : BitVec 32 := s.foldl bByte v
theorem crcBytes_toI (v : BitVec 32) (s : List UInt8) : crcBytes (toI v) s = toI (bBytes v s) := by
  induction s generalizing v with
  | nil => rfl
  | cons c s ih => exact (congrArg (fun x => crcBytes x s) (crcByte_toI v c)).trans (ih _)
def bParts (v : BitVec 32) (l : List ByteArray) : BitVec 32 := l.foldl (fun x s => bBytes x s.data.toList) v
theorem crcParts_toI (v : BitVec 32) (l : List ByteArray) : crcParts (toI v) l = toI (bParts v l) := by
  induction l generalizing v with
  | nil => rfl
  | cons c s ih => exact (congrArg (fun x => crcParts x s) (crcBytes_toI v c.data.toList)).trans (ih _)
def ones : BitVec 32 := 0xffffffff#32
theorem ones_toI : (4294967295 : Int) = toI ones := by decide
theorem crcSum_toI (l : List ByteArray) : crcSum l = toI (ones ^^^ bParts ones l) := by
  unfold crcSum
  rw [ones_toI, crcParts_toI, xor_toI]
theorem xor_lc (a b c : BitVec 32) : a ^^^ (b ^^^ c) = b ^^^ (a ^^^ c) := by rw [← BitVec.xor_assoc, BitVec.xor_comm a b, BitVec.xor_assoc]
theorem xor_cc (a b : BitVec 32) : a ^^^ (a ^^^ b) = b := by rw [← BitVec.xor_assoc, BitVec.xor_self, BitVec.zero_xor]
theorem bBit_xor (a b : BitVec 32) : bBit (a ^^^ b) = bBit a ^^^ bBit b := by
  unfold bBit
  rw [BitVec.ushiftRight_xor_distrib, BitVec.getLsbD_xor]
  cases a.getLsbD 0 <;> cases b.getLsbD 0 <;> simp [BitVec.xor_assoc, xor_lc _ polyV, xor_cc]
  · rw [BitVec.xor_comm _ polyV, xor_lc]
  · rw [BitVec.xor_comm (b >>> 1), xor_lc _ polyV, xor_cc]
theorem bBits_xor (n : Nat) (a b : BitVec 32) : bBits n (a ^^^ b) = bBits n a ^^^ bBits n b := by
  induction n with
  | zero => rfl
  | succ n ih => rw [bBits, ih, bBit_xor]; rfl
theorem bBit_zero {a : BitVec 32} (h : bBit a = 0#32) : a = 0#32 := by
  have h31 := congrArg (fun v => v.getLsbD 31) h
  unfold bBit at h h31
  cases hl : a.getLsbD 0 with
  | true =>
    rw [hl] at h31
    simp [polyV] at h31
  | false =>
    rw [hl] at h
    simp at h
    apply BitVec.eq_of_getLsbD_eq
    intro i hi
    cases i with
    | zero => rw [hl]; rfl
    | succ i =>
      have := congrArg (fun v => v.getLsbD i) h
      simpa [Nat.add_comm] using this
theorem bBits_zero {n : Nat} {a : BitVec 32} (h : bBits n a = 0#32) : a = 0#32 := by
  induction n with
  | zero => exact h
  | succ n ih => exact ih (bBit_zero h)
theorem bBits_inj {n : Nat} {a b : BitVec 32} (h : bBits n a = bBits n b) : a = b := by
  have : bBits n (a ^^^ b) = 0#32 := by rw [bBits_xor, h, BitVec.xor_self]
  have := bBits_zero this
  exact BitVec.xor_eq_zero_iff.1 this
theorem bBits_add (m n : Nat) (a : BitVec 32) : bBits (m + n) a = bBits m (bBits n a) := by
  induction m with
  | zero => simp [bBits]
  | succ m ih => rw [Nat.succ_add, bBits, ih]; rfl
end Go.Proofs.Ytimamhklcglljaa.Pure
