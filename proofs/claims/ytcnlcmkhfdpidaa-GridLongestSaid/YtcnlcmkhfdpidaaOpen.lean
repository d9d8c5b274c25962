/- A row of texts that came in, as the contracts want it: its texts, and how long each may be. No condition. -/
import Derived.Test.YtcnlcmkhfdpidaaWWords
import Derived.SliceStrings
import Derived.SizedLaws
import Derived.ProofKit
import Derived.OpenShut
namespace Go.Proofs.Ytcnlcmkhfdpidaa.Open
set_option linter.unusedVariables false
set_option linter.unusedSimpArgs false
open Go.ChangeShapes Go.Proofs.YtcnlcmkhfdpidaaW.PrintWords
theorem mem_weightsAll {H : Type} {P : Program} {e : TypeId} {n : Nat} {d : DataW H} : ∀ {l : List (DataW H)}, d ∈ l → n ∈ d.weights P e → n ∈ DataW.weightsAll P e l
  | x :: l, hm, hn => by
    simp only [DataW.weightsAll, List.mem_append]
    rcases List.mem_cons.1 hm with rfl | h
    · exact .inl hn
    · exact .inr (mem_weightsAll h hn)
theorem strs_open {H : Type} {enc : TypeId × Value → H} {P : Program} {W : World} {base : Nat} {spare : Nat → Bool} {held : Bool} {a : Option Addr} {len cap : Nat} {d : DataW H} {ps : List MemPlace} {t e : TypeId}
    (ht : P.underlying t = some (.slice e)) (he : P.underlying e = some .string) (hc : P.cellsOf e = 1) (h : DataW.Trod enc P W base spare held t (.slice a len cap) d ps)
    {ts : List TypeId} {ds : List (DataW H)} {j : Nat} (hsz : (DataW.weightsEach P ts ds).all (· ≤ reachBytes) = true) (hj : ts[j]? = some t) (hd : ds[j]? = some d) :
    ∃ l : List ByteArray, len = l.length ∧ l.length ≤ cap ∧ Kd.C Kd.string W a l.length l ∧ l.length ≤ 9223372036854775807 ∧ (∀ s ∈ l, s.size ≤ 140737488351232) := by
  obtain ⟨fuel, hf⟩ := h
  rcases open_strings ht he hc hf with ⟨hcs, _⟩ | ⟨x, n, c, ss, hcs, _, hl, hm, hz, hx, hcell, hw⟩
  · simp [Value.cells] at hcs
    obtain ⟨rfl, rfl, rfl⟩ := hcs
    exact ⟨[], rfl, Nat.zero_le _, ⟨rfl, Nat.zero_le _, fun h => absurd h (by simp)⟩, Nat.zero_le _, by simp⟩
  · simp [Value.cells] at hcs
    obtain ⟨rfl, rfl, rfl⟩ := hcs
    have hlen : len ≤ ss.length := by rw [hz]; split <;> omega
    have htl : (ss.take len).length = len := by simp; omega
    unfold maxLen at hm hw
    refine ⟨ss.take len, htl.symm, by omega, ?_, by omega, ?_⟩
    · refine ⟨rfl, by omega, fun _ => ⟨x, rfl, fun j p hj => ⟨[.string p], rfl, rfl, fun i u hu => ?_⟩⟩⟩
      have hjl : j < len := by have := (List.getElem?_eq_some_iff.1 hj).1; omega
      cases i with
      | succ i => simp at hu
      | zero =>
        obtain rfl : .string p = u := by simpa using hu
        have hp : ss.getD j ByteArray.empty = p := by
          rw [List.getElem?_take, if_pos hjl] at hj
          rw [List.getD_eq_getElem?_getD, hj]; rfl
        rw [show Kd.string.sz = 1 from rfl, Nat.mul_one, Nat.add_zero, hcell j (by omega), hp]
    · intro s hs
      have hdd : d = .slice (strs (ss.take len)) (strs (ss.drop len)) := by have := congrArg Prod.fst hx; exact this
      have hmem : s.data.toList.length ∈ d.weights P t := by
        rw [hdd]
        simp only [DataW.weights, ht, List.mem_cons, List.mem_append]
        refine .inr (.inl (mem_weightsAll (d := .lit (.string s.data.toList)) ?_ (by simp [DataW.weights])))
        unfold strs
        exact List.mem_map.2 ⟨s, hs, rfl⟩
      have := List.all_eq_true.1 hsz _ (DataW.weights_mem_each hj hd _ hmem)
      have h2 : s.data.toList.length ≤ reachBytes := of_decide_eq_true this
      rw [Array.length_toList] at h2
      exact h2
theorem u8s_open {H : Type} {enc : TypeId × Value → H} {P : Program} {W : World} {base : Nat} {spare : Nat → Bool} {held : Bool} {a : Option Addr} {len cap : Nat} {d : DataW H} {ps : List MemPlace} {t e : TypeId}
    (ht : P.underlying t = some (.slice e)) (he : P.underlying e = some (.int .u8)) (hc : P.cellsOf e = 1) (h : DataW.Trod enc P W base spare held t (.slice a len cap) d ps) :
    ∃ l : List Int, len = l.length ∧ l.length ≤ cap ∧ (Kd.C (Kd.int .u8) W a l.length l ∧ ∀ i, 0 ≤ rd l i ∧ rd l i < 256) := by
  obtain ⟨fuel, hf⟩ := h
  rcases open_ints ht he hc hf with ⟨hcs, _⟩ | ⟨x, n, c, ss, hcs, _, hl, hm, hz, hx, hcell, hw⟩
  · simp [Value.cells] at hcs
    obtain ⟨rfl, rfl, rfl⟩ := hcs
    exact ⟨[], rfl, Nat.zero_le _, ⟨rfl, Nat.zero_le _, fun h => absurd h (by simp)⟩, fun i => by unfold rd; simp⟩
  · simp [Value.cells] at hcs
    obtain ⟨rfl, rfl, rfl⟩ := hcs
    have hlen : len ≤ ss.length := by rw [hz]; split <;> omega
    have htl : (ss.take len).length = len := by simp; omega
    unfold maxLen at hm
    refine ⟨ss.take len, htl.symm, by omega, ?_, ?_⟩
    · refine ⟨rfl, by omega, fun _ => ⟨x, rfl, fun j p hj => ⟨[.int .u8 p], rfl, rfl, fun i u hu => ?_⟩⟩⟩
      have hjl : j < len := by have := (List.getElem?_eq_some_iff.1 hj).1; omega
      cases i with
      | succ i => simp at hu
      | zero =>
        obtain rfl : .int .u8 p = u := by simpa using hu
        have hp : ss.getD j 0 = p := by
          rw [List.getElem?_take, if_pos hjl] at hj
          rw [List.getD_eq_getElem?_getD, hj]; rfl
        rw [show (Kd.int .u8).sz = 1 from rfl, Nat.mul_one, Nat.add_zero, hcell j (by omega), hp]
    · intro i
      unfold rd
      rw [List.getD_eq_getElem?_getD]
      cases hk : (ss.take len)[i.toNat]? with
      | none => simp
      | some v =>
        have hmem : v ∈ ss := List.mem_of_mem_take (List.mem_of_getElem? hk)
        have := bounds_u8 (hw v hmem)
        exact ⟨this.1, by have := this.2; show v < 256; omega⟩
end Go.Proofs.Ytcnlcmkhfdpidaa.Open
