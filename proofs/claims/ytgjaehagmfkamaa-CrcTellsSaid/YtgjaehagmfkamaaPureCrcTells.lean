/- Any texts have just the document's sum, and any bytes are sealed, and opened or not, just so: for every row of texts and every text. No condition. -/
import Derived.Test.YtgjaehagmfkamaaQx2
import Derived.Test.YtgjaehagmfkamaaLem
import Derived.Test.YtgjaehagmfkamaaBits
namespace Go.Proofs.Ytgjaehagmfkamaa.Pure
set_option linter.unusedVariables false
set_option linter.unusedSimpArgs false
open Go.RowKit Go.Proofs.Ytgjaehagmfkamaa.Q Go.Proofs.YtgjaehagmfkamaaW.PrintWords Go.Proofs.YtgjaehagmfkamaaW.PrintLast Go.Proofs.YtgjaehagmfkamaaW.PrintMore
def rBit (v : BitVec 32) (b : Bool) : BitVec 32 := if v.getLsbD 0 = b then v >>> 1 else (v >>> 1) ^^^ polyV
def rBits (c : BitVec 32) : Nat → BitVec 32 → BitVec 32
  | 0, v => v
  | n + 1, v => rBit (rBits c n v) (c.getLsbD n)
theorem rBit_eq (v c : BitVec 32) (n : Nat) : rBit v (c.getLsbD n) ^^^ (c >>> (n + 1)) = bBit (v ^^^ (c >>> n)) := by
  unfold rBit bBit
  rw [BitVec.ushiftRight_xor_distrib, BitVec.getLsbD_xor, BitVec.getLsbD_ushiftRight, Nat.add_zero, BitVec.shiftRight_add]
  cases v.getLsbD 0 <;> cases c.getLsbD n <;> simp [BitVec.xor_assoc]
  · rw [BitVec.xor_comm polyV]
  · rw [BitVec.xor_comm polyV]
theorem rBits_eq (c v : BitVec 32) (n : Nat) : rBits c n v ^^^ (c >>> n) = bBits n (v ^^^ c) := by
  induction n with
  | zero => simp [rBits, bBits]
  | succ n ih => rw [rBits, rBit_eq, ih]; rfl
theorem rByte_eq (v : BitVec 32) (c : UInt8) : rBits (cV c) 8 v = bByte v c := by
  unfold bByte
  rw [← rBits_eq]
  have : cV c >>> 8 = 0#32 := by
    apply BitVec.eq_of_toNat_eq
    rw [BitVec.toNat_ushiftRight, Nat.shiftRight_eq_div_pow]
    unfold cV
    rw [BitVec.toNat_ofNat]
    have := c.toNat_lt
    rw [Nat.mod_eq_of_lt (by omega)]
    simp
    omega
  rw [this, BitVec.xor_zero]
theorem low_toI (v : BitVec 32) : Int.tmod (toI v) 2 = if v.getLsbD 0 then 1 else 0 := by
  rw [Int.tmod_eq_emod_of_nonneg (toI_nn v)]
  unfold toI
  rw [BitVec.getLsbD, Nat.testBit_zero]
  by_cases h : v.toNat % 2 = 1
  · simp [h]; omega
  · simp [h]; omega
theorem bit_toI (c : UInt8) (n : Nat) (hn : n < 8) : ((shr .u8 (c.toNat : Int) (IntKind.u64.wrap (n : Int))) % 4294967296) % 2 = if (cV c).getLsbD n then 1 else 0 := by
  have hw : IntKind.u64.wrap (n : Int) = n := by simp [IntKind.wrap, IntKind.bits, IntKind.signed]; omega
  rw [hw]
  unfold shr
  have hb : IntKind.u8.bits = 8 := rfl
  rw [hb, Int.toNat_natCast, Nat.min_eq_left (by omega)]
  have hc := c.toNat_lt
  have e : (cV c).getLsbD n = c.toNat.testBit n := by
    unfold cV
    rw [BitVec.getLsbD_ofNat]
    simp; omega
  rw [e, Nat.testBit_eq_decide_div_mod_eq]
  have h2 : ((c.toNat : Int) / 2 ^ n) = ((c.toNat / 2 ^ n : Nat) : Int) := by norm_cast
  rw [h2]
  have h3 : c.toNat / 2 ^ n ≤ c.toNat := Nat.div_le_self _ _
  generalize c.toNat / 2 ^ n = q at *
  by_cases h : q % 2 = 1
  · simp [h]; omega
  · simp [h]; omega
theorem bt_at (s : ByteArray) (j : Nat) (h : j < s.size) : bt s (j : Int) = (s[j].toNat : Int) := by
  unfold bt
  rw [dif_pos (by simpa using h)]
  rfl
theorem halfr_toI (v : BitVec 32) : (Int.tdiv (toI v) (2 : Int)) % (4294967296 : Int) = toI (v >>> 1) := by
  rw [Int.tdiv_eq_ediv_of_nonneg (toI_nn v), half_toI]
  have := toI_lt (v >>> 1); have := toI_nn (v >>> 1)
  omega
theorem bBytes_snoc (x : BitVec 32) (s : ByteArray) (j : Nat) (h : j < s.size) : bBytes x (s.data.toList.take (j + 1)) = bByte (bBytes x (s.data.toList.take j)) s[j] := by
  unfold bBytes
  rw [List.take_succ_eq_append_getElem (by simpa using h), List.foldl_append]; rfl
theorem bParts_snoc (x : BitVec 32) (l : List ByteArray) (i : Nat) (h : i < l.length) : bParts x (l.take (i + 1)) = bBytes (bParts x (l.take i)) (rdOf ByteArray.empty l (i : Int)).data.toList := by
  unfold bParts
  rw [List.take_succ_eq_append_getElem h, List.foldl_append]
  simp [rdOf, List.getD, h]
section
variable {l : List ByteArray}
theorem l2_step (k : Nat) (v : BitVec 32) (i j n : Nat) (hi : i < l.length) (hj : j < (rdOf ByteArray.empty l (i : Int)).size) (hn : n < 8) :
    snapferryref02_Sum.l2 (k + 1) l (toI v) i j n = snapferryref02_Sum.l2 k l (toI (rBit v ((cV (rdOf ByteArray.empty l (i : Int))[j]).getLsbD n))) i j ((n + 1 : Nat) : Int) := by
  simp only [snapferryref02_Sum.l2]
  have hw : IntKind.u64.wrap (n : Int) = n := by simp [IntKind.wrap, IntKind.bits, IntKind.signed]; omega
  have hw2 : wrap64 ((n : Int) + 1) = ((n + 1 : Nat) : Int) := by unfold wrap64; omega
  rw [if_pos (by omega), if_pos (by omega), if_pos (by omega), if_pos (by omega), if_pos (by omega), if_pos (by rw [hw]; omega), bt_at _ _ hj, bit_toI _ _ hn, low_toI, halfr_toI, hw2]
  unfold rBit
  rw [show (2197175160 : Int) = toI polyV from poly_toI, xor_toI]
  cases v.getLsbD 0 <;> cases (cV (rdOf ByteArray.empty l (i : Int))[j]).getLsbD n <;> simp
theorem l2_end (k : Nat) (x : Int) (i j : Nat) (hj : j < 9223372036854775807) : snapferryref02_Sum.l2 (k + 1) l x i j 8 = snapferryref02_Sum.l1 k l x i ((j + 1 : Nat) : Int) := by
  simp only [snapferryref02_Sum.l2]
  rw [if_neg (by omega), show wrap64 ((j : Int) + 1) = ((j + 1 : Nat) : Int) by unfold wrap64; omega]
theorem l2_ev (v : BitVec 32) (i j : Nat) (hi : i < l.length) (hj : j < (rdOf ByteArray.empty l (i : Int)).size) (hjm : j < 9223372036854775807) (r : Int)
    (h : Ev (fun k => snapferryref02_Sum.l1 k l (toI (bByte v (rdOf ByteArray.empty l (i : Int))[j])) i ((j + 1 : Nat) : Int)) r) :
    ∀ d n, n + d = 8 → Ev (fun k => snapferryref02_Sum.l2 k l (toI (rBits (cV (rdOf ByteArray.empty l (i : Int))[j]) n v)) i j (n : Int)) r := by
  intro d
  induction d with
  | zero =>
    intro n hn
    obtain rfl : n = 8 := by omega
    rw [rByte_eq]
    exact Ev.step (fun k => l2_end k _ i j hjm) h
  | succ d ih => intro n hn; exact Ev.step (fun k => l2_step k _ i j n hi hj (by omega)) (ih (n + 1) (by omega))
theorem l1_ev (i : Nat) (hi : i < l.length) (him : i < 9223372036854775807) (hs : (rdOf ByteArray.empty l (i : Int)).size ≤ 9223372036854775807) (v : BitVec 32) (r : Int)
    (h : Ev (fun k => snapferryref02_Sum.l0 k l (toI (bBytes v (rdOf ByteArray.empty l (i : Int)).data.toList)) ((i + 1 : Nat) : Int)) r) :
    ∀ d j, j + d = (rdOf ByteArray.empty l (i : Int)).size → Ev (fun k => snapferryref02_Sum.l1 k l (toI (bBytes v ((rdOf ByteArray.empty l (i : Int)).data.toList.take j))) i (j : Int)) r := by
  intro d
  induction d with
  | zero =>
    intro j hj
    refine Ev.step (fun k => ?_) h
    simp only [snapferryref02_Sum.l1]
    rw [if_pos (by omega), if_pos (by omega), if_neg (by omega), show wrap64 ((i : Int) + 1) = ((i + 1 : Nat) : Int) by unfold wrap64; omega, List.take_of_length_le (by simp; omega)]
  | succ d ih =>
    intro j hj
    have hjs : j < (rdOf ByteArray.empty l (i : Int)).size := by omega
    refine Ev.step (fun k => ?_) (l2_ev (bBytes v ((rdOf ByteArray.empty l (i : Int)).data.toList.take j)) i j hi hjs (by omega) r ?_ 8 0 rfl)
    · simp only [snapferryref02_Sum.l1]
      rw [if_pos (by omega), if_pos (by omega), if_pos (by omega)]
      rfl
    · have := ih (j + 1) (by omega)
      rw [bBytes_snoc _ _ _ hjs] at this
      exact this
theorem l0_ev (hl : l.length ≤ 9223372036854775807) (hs : ∀ i : Nat, i < l.length → (rdOf ByteArray.empty l (i : Int)).size ≤ 9223372036854775807) :
    ∀ d i, i + d = l.length → Ev (fun k => snapferryref02_Sum.l0 k l (toI (bParts ones (l.take i))) (i : Int)) (crcSum l) := by
  intro d
  induction d with
  | zero =>
    intro i hi
    refine Ev.step (fun k => ?_) (Ev.now _)
    simp only [snapferryref02_Sum.l0]
    rw [if_neg (by omega), List.take_of_length_le (by omega), crcSum_toI]
    generalize bParts ones l = v
    have h1 : ones ^^^ v = ~~~v := by unfold ones; rw [show (0xffffffff#32) = BitVec.allOnes 32 by decide, BitVec.allOnes_xor]
    rw [h1]
    unfold toI
    rw [BitVec.toNat_not]
    have := v.isLt
    have e : ((2 ^ 32 - 1 - v.toNat : Nat) : Int) = 4294967295 - (v.toNat : Int) := by omega
    rw [e, Int.emod_eq_of_lt (by omega) (by omega)]
  | succ d ih =>
    intro i hi
    refine Ev.step (fun k => ?_) (l1_ev i (by omega) (by omega) (hs i (by omega)) (bParts ones (l.take i)) _ ?_ _ 0 (by rw [Nat.zero_add]))
    · simp only [snapferryref02_Sum.l0]
      rw [if_pos (by omega)]
      rfl
    · have := ih (i + 1) (by omega)
      rw [bParts_snoc _ _ _ (by omega)] at this
      exact this
theorem refSum (h : crcOk l = true) : Ev (fun k => snapferryref02_Sum.f k l) (crcSum l) := by
  have := l0_ev (crcOk_len h) (crcOk_at h) l.length 0 (Nat.zero_add _)
  exact this
end
def openR (s : ByteArray) : ByteArray × Int := if s.size < 4 then (⟨#[]⟩, 2) else if (sealB (s.extract 0 (s.size - 4))).toList = s.toList then (s.extract 0 (s.size - 4), 0) else (⟨#[]⟩, 8)
theorem open_R {s : ByteArray} (h : s.size ≤ 4611686018427387904) : crc_Open.f s = some (openR s) := by
  unfold openR
  by_cases h4 : s.size < 4
  · rw [open_short h4, if_pos h4]
  · rw [open_long (by omega) h, if_neg h4]
    split <;> rfl
theorem ok_one {s : ByteArray} (h : s.size ≤ 9223372036854775807) : crcOk [s] = true := by simp [crcOk, h]
theorem refSeal {s : ByteArray} (h : s.size ≤ 4611686018427387904) : Ev (fun k => snapferryref02_Seal.f k s) (sealB s) := by
  unfold snapferryref02_Seal.f
  refine Ev.bind (refSum (ok_one (by omega))) ?_
  simp only [Option.bind_some]
  rw [if_pos (by have := tail4_size (crcSum [s]); unfold tail4 at this; omega)]
  exact Ev.now _
theorem refOpen {s : ByteArray} (h : s.size ≤ 4611686018427387904) : Ev (fun k => snapferryref02_Open.f k s) (openR s) := by
  unfold snapferryref02_Open.f openR
  have e : wrap64 ((s.size : Int) - 4) = (s.size : Int) - 4 := by unfold wrap64; omega
  have e2 : ((s.size : Int) - 4).toNat = s.size - 4 := by omega
  by_cases h4 : s.size < 4
  · rw [if_pos h4]; simp only [if_pos (show (s.size : Int) < 4 by omega)]; exact Ev.now _
  · rw [if_neg h4]
    simp only [if_neg (show ¬ (s.size : Int) < 4 by omega)]
    rw [e, e2]
    simp only [if_pos (show (0 : Int) ≤ (s.size : Int) - 4 by omega), if_pos (show (s.size : Int) - 4 ≤ (s.size : Int) by omega)]
    refine Ev.bind (refSeal (by rw [ByteArray.size_extract]; omega)) ?_
    split <;> exact Ev.now _
theorem tells_loop {l : List ByteArray} {s : ByteArray} (hs : s.size ≤ 4611686018427387904) (hl : l.length ≤ 30) (ho : crcOk l = true) :
    ∀ d i, i + d = l.length → Ev (fun k => snapferrylaw02_CrcTells.l0 k l s (i : Int)) true := by
  intro d
  induction d with
  | zero =>
    intro i hi
    refine Ev.step (fun k => by simp only [snapferrylaw02_CrcTells.l0]; rw [if_neg (by omega)]) ?_
    rw [open_R hs]
    simp only [Option.bind_some]
    refine Ev.bind (refOpen hs) ?_
    have hc : ([] : List ByteArray).length + l.length < 8796093022208 := by simp; omega
    have hsum : crc_Sum.f l = some (crcSum l) := by unfold crc_Sum.f; rw [if_pos ho]
    simp only [if_pos hc, List.nil_append, hsum, Option.bind_some]
    refine Ev.bind (refSum ho) ?_
    simp only [if_true]
    rw [seal_eq hs]
    simp only [Option.bind_some]
    refine Ev.bind (refSeal hs) ?_
    simp only [if_true, beq_self_eq_true]
    exact Ev.now _
  | succ d ih =>
    intro i hi
    by_cases h5 : ((rdOf ByteArray.empty l (i : Int)).size : Int) > 500
    · refine Ev.step (fun k => by simp only [snapferrylaw02_CrcTells.l0]; rw [if_pos (by omega), if_pos (by omega), if_pos h5]) (Ev.now _)
    · refine Ev.step (fun k => ?_) (ih (i + 1) (by omega))
      simp only [snapferrylaw02_CrcTells.l0]
      rw [if_pos (by omega), if_pos (by omega), if_neg h5, show wrap64 ((i : Int) + 1) = ((i + 1 : Nat) : Int) by unfold wrap64; omega]
theorem tells (l : List ByteArray) (s : ByteArray) (hs : s.size ≤ 4611686018427387904) (ho : crcOk l = true) : ∃ k, snapferrylaw02_CrcTells.f k l s = some true := by
  apply Ev.rounds
  unfold snapferrylaw02_CrcTells.f
  rw [awake_true]
  simp only [Option.bind_some, if_true]
  by_cases h : (l.length : Int) > 30
  · simp only [if_pos h]
    exact Ev.step (fun k => by simp only [snapferrylaw02_CrcTells.j0, if_true]) (Ev.now _)
  · simp only [if_neg h]
    by_cases h2 : (s.size : Int) > 2000
    · exact Ev.step (fun k => by simp only [snapferrylaw02_CrcTells.j0, decide_eq_true h2, if_true]) (Ev.now _)
    · refine Ev.step (fun k => ?_) (tells_loop hs (by omega) ho l.length 0 (Nat.zero_add _))
      simp only [snapferrylaw02_CrcTells.j0]
      rw [if_neg (by simp; omega)]
      rfl
end Go.Proofs.Ytgjaehagmfkamaa.Pure
