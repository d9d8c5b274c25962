/- Bytes that '[]byte(s)' made: a block that bears a mark behind its last cell; what is read of it, written to it, and made a text again. No condition. -/
import Derived.Test.YtimamhklcglljaaQx4
namespace Go.Proofs.Ytimamhklcglljaa.MB
set_option linter.unusedVariables false
set_option linter.unusedSimpArgs false
open Go.RowKit Go.Proofs.YtimamhklcglljaaW.PrintWords
def cellsB (bs : List UInt8) : Array Value := (bs.map fun b => Value.int .u8 (b.toNat : Int)).toArray
theorem cellsB_size (bs : List UInt8) : (cellsB bs).size = bs.length := by simp [cellsB]
/-- Block g holds these bytes first, and is marked behind its end. -/
def MB (e : TypeId) (w : World) (g : Nat) (bs : List UInt8) : Prop := ∃ zs : Array Value, w.heap[g]? = some (.cells (cellsB bs ++ zs) e (bs.length + zs.size, bs.length + zs.size + 1))
theorem made (w : World) (e : TypeId) (s : ByteArray) : MB e (Lib.bytesWorld w e s) w.heap.size s.data.toList := by
  refine ⟨Array.replicate (grownCap w s.size 0 e - s.size) (.int .u8 0), ?_⟩
  rw [Lib.bytesWorld_at_new]
  have h : Lib.bytesCells w e s = cellsB s.data.toList ++ Array.replicate (grownCap w s.size 0 e - s.size) (.int .u8 0) := by
    unfold Lib.bytesCells cellsB
    congr 1
    rw [← Array.toList_inj]
    simp
  rw [h]
  simp only [Array.size_append, cellsB_size]
theorem cell {e : TypeId} {w : World} {g : Nat} {bs : List UInt8} (h : MB e w g bs) (j : Nat) (hj : j < bs.length) : w.cell? ⟨g, j, none⟩ = some (.int .u8 (bs[j].toNat : Int)) := by
  obtain ⟨zs, h⟩ := h
  unfold World.cell?
  rw [h]
  show (if (none : Option _).isSome then none else (cellsB bs ++ zs)[j]?) = _
  rw [if_neg (by simp), Array.getElem?_append_left (by rw [cellsB_size]; exact hj)]
  unfold cellsB
  simp [hj]
theorem free {e : TypeId} {w : World} {g : Nat} {bs : List UInt8} (h : MB e w g bs) (j : Nat) (hj : j < bs.length) : w.frozen? ⟨g, j, none⟩ = false := by
  obtain ⟨zs, h⟩ := h
  unfold World.frozen?
  rw [h]
  simp
  omega
theorem lt {e : TypeId} {w : World} {g : Nat} {bs : List UInt8} (h : MB e w g bs) : g < w.heap.size := by
  obtain ⟨zs, h⟩ := h
  exact (Array.getElem?_eq_some_iff.1 h).1
theorem set {e : TypeId} {w : World} {g : Nat} {bs : List UInt8} (h : MB e w g bs) (j : Nat) (hj : j < bs.length) (b : UInt8) : MB e (w.setCell ⟨g, j, none⟩ (.int .u8 (b.toNat : Int))) g (bs.set j b) := by
  obtain ⟨zs, h⟩ := h
  refine ⟨zs, ?_⟩
  unfold World.setCell
  rw [Array.getElem?_modify, if_pos rfl, h]
  show some _ = some _
  congr 1
  have e1 : (cellsB bs ++ zs).setIfInBounds j (.int .u8 (b.toNat : Int)) = cellsB (bs.set j b) ++ zs := by
    rw [← Array.toList_inj]
    unfold cellsB
    simp [List.map_set, List.set_append, hj]
  rw [List.length_set]
  show Obj.cells (if (none : Option _).isSome then _ else _) _ _ = _
  rw [if_neg (by simp), e1]
theorem move {e : TypeId} {w w' : World} {g : Nat} {bs : List UInt8} (h : MB e w g bs) (hm : w'.heap[g]? = w.heap[g]?) : MB e w' g bs := by
  obtain ⟨zs, h⟩ := h
  exact ⟨zs, hm.trans h⟩
theorem conv {P : Program} {e src dst : TypeId} {w : World} {g : Nat} {bs : List UInt8} (h : MB e w g bs) (cap : Nat) (hs : P.underlying src = some (.slice e)) (he : P.underlying e = some (.int .u8)) (hd : P.underlying dst = some .string) :
    (convert src dst (.slice (some ⟨g, 0, none⟩) bs.length cap)).run P w = .ok (.string ⟨bs.toArray⟩) w := by
  have h2 := run_convert_bytes_arg (P := P) w src e hs he g 0 bs.length cap (bs.map fun b => (b.toNat : Int)) (by simp) (fun i hi => by
    rw [Nat.zero_add, cell h i hi]
    simp [List.getD, hi]) dst hd
  rw [h2]
  congr 2
  apply ByteArray.ext
  unfold strOfNums
  simp [Function.comp_def]
end Go.Proofs.Ytimamhklcglljaa.MB
