/- Plain facts about the sum, the sealing and the opening of bytes, as the functions of this claim have them. No condition. -/
import Derived.Test.YtimamhklcglljaaQx4
namespace Go.Proofs.Ytimamhklcglljaa.Pure
open Go.RowKit Go.Proofs.Ytimamhklcglljaa.Q Go.Proofs.YtimamhklcglljaaW.PrintWords Go.Proofs.YtimamhklcglljaaW.PrintLast
theorem sum_one {s : ByteArray} (h : s.size ≤ 9223372036854775807) : crc_Sum.f [s] = some (crcSum [s]) := by
  unfold crc_Sum.f crcOk
  rw [if_pos (by simp [h])]
theorem sum_two {s t : ByteArray} (h : s.size ≤ 9223372036854775807) (h' : t.size ≤ 9223372036854775807) : crc_Sum.f [s, t] = some (crcSum [s, t]) := by
  unfold crc_Sum.f crcOk
  rw [if_pos (by simp [h, h'])]
/-- A sum's four bytes. -/
def tail4 (t : Int) : ByteArray := strOfNums [t % 256, (t / 256) % 256, (t / 65536) % 256, (t / 16777216) % 256]
def sealB (s : ByteArray) : ByteArray := s ++ tail4 (crcSum [s])
theorem tail4_size (t : Int) : (tail4 t).size = 4 := rfl
theorem sealB_size (s : ByteArray) : (sealB s).size = s.size + 4 := by unfold sealB; rw [ByteArray.size_append, tail4_size]
theorem seal_eq {s : ByteArray} (h : s.size ≤ 4611686018427387904) : crc_Seal.f s = some (sealB s) := by
  unfold crc_Seal.f
  rw [sum_one (by omega)]
  simp only [Option.bind_some]
  rw [if_pos (by have := tail4_size (crcSum [s]); unfold tail4 at this; omega)]
  rfl
theorem open_short {s : ByteArray} (h : s.size < 4) : crc_Open.f s = some (⟨#[]⟩, 2) := by
  unfold crc_Open.f
  have e : wrap64 ((s.size : Int) - 4) = (s.size : Int) - 4 := by unfold wrap64; omega
  rw [e, if_pos (by omega)]
theorem open_long {s : ByteArray} (h4 : 4 ≤ s.size) (h : s.size ≤ 4611686018427387904) :
    crc_Open.f s = if (sealB (s.extract 0 (s.size - 4))).toList = s.toList then some (s.extract 0 (s.size - 4), 0) else some (⟨#[]⟩, 8) := by
  unfold crc_Open.f
  have e : wrap64 ((s.size : Int) - 4) = (s.size : Int) - 4 := by unfold wrap64; omega
  have e2 : ((s.size : Int) - 4).toNat = s.size - 4 := by omega
  rw [e, e2, if_neg (by omega), if_pos (by omega), if_pos (by omega), seal_eq (by rw [ByteArray.size_extract]; omega)]
  simp only [Option.bind_some]
theorem extract_sealB (s : ByteArray) : (sealB s).extract 0 ((sealB s).size - 4) = s := by
  rw [sealB_size, Nat.add_sub_cancel]
  unfold sealB
  apply ByteArray.ext
  simp [ByteArray.data_extract, ByteArray.data_append]
theorem open_seal {s : ByteArray} (h : s.size ≤ 4000000000000000000) : crc_Open.f (sealB s) = some (s, 0) := by
  rw [open_long (by rw [sealB_size]; omega) (by rw [sealB_size]; omega), extract_sealB, if_pos rfl]
theorem parts_cut (x : Int) (s : ByteArray) (k : Nat) : crcParts x [s.extract 0 k, s.extract k s.size] = crcParts x [s] := by
  unfold crcParts
  simp only [List.foldl_cons, List.foldl_nil]
  unfold crcBytes
  rw [← List.foldl_append]
  congr 1
  simp only [ByteArray.data_extract, Array.toList_extract, List.extract_eq_take_drop]
  have : s.data.toList.length = s.size := rfl
  rw [List.drop_zero, Nat.sub_zero, List.take_of_length_le (l := List.drop k s.data.toList) (by rw [List.length_drop]; omega), List.take_append_drop]
theorem sum_cut (s : ByteArray) (k : Nat) : crcSum [s.extract 0 k, s.extract k s.size] = crcSum [s] := by
  unfold crcSum; rw [parts_cut]
end Go.Proofs.Ytimamhklcglljaa.Pure
