/- Records that are printed one behind the other are read back; cut off anywhere the first ones are; with a byte of one turned, but for its length, just those ahead of it. Plain laws over the functions of this claim. No condition. -/
import Derived.Test.YtimamhklcglljaaReader
import Derived.Test.YtimamhklcglljaaPlain
namespace Go.Proofs.Ytimamhklcglljaa.Pure
set_option linter.unusedVariables false
set_option linter.unusedSimpArgs false
open Go.RowKit Go.Proofs.Ytimamhklcglljaa.Q Go.Proofs.YtimamhklcglljaaW.PrintWords Go.Proofs.YtimamhklcglljaaW.PrintMore
section
variable (kinds : List Int) (texts : List ByteArray)
def kOf (i : Nat) : Int := 1 + rd kinds i % 255
def pOf (i : Nat) : ByteArray := rdOf ByteArray.empty texts i
def rOf (i : Nat) : S29 := ⟨kOf kinds i, i, pOf texts i⟩
def bOf (i : Nat) : ByteArray := recB (kOf kinds i) i (pOf texts i)
/-- The first records' bytes. -/
def allTo : Nat → ByteArray
  | 0 => ⟨#[]⟩
  | i + 1 => allTo i ++ bOf kinds texts i
def wantTo : Nat → List S29
  | 0 => []
  | i + 1 => wantTo i ++ [rOf kinds texts i]
def endsTo : Nat → List Int
  | 0 => []
  | i + 1 => endsTo i ++ [((allTo kinds texts (i + 1)).size : Int)]
/-- All of the first m records may be. -/
def OkTo (m : Nat) : Prop := ∀ i, i < m → Right (kOf kinds i) i (pOf texts i)
variable {kinds texts}
theorem wantTo_length (m : Nat) : (wantTo kinds texts m).length = m := by
  induction m with
  | zero => rfl
  | succ m ih => rw [wantTo, List.length_append, ih]; rfl
theorem endsTo_length (m : Nat) : (endsTo kinds texts m).length = m := by
  induction m with
  | zero => rfl
  | succ m ih => rw [endsTo, List.length_append, ih]; rfl
theorem endsTo_at {m j : Nat} (h : j < m) : rd (endsTo kinds texts m) j = ((allTo kinds texts (j + 1)).size : Int) := by
  induction m with
  | zero => omega
  | succ m ih =>
    unfold rd at ih ⊢
    rw [Int.toNat_natCast] at ih ⊢
    rw [endsTo]
    by_cases hj : j < m
    · rw [List.getD_eq_getElem?_getD, List.getElem?_append_left (by rw [endsTo_length]; exact hj), ← List.getD_eq_getElem?_getD]
      exact ih hj
    · obtain rfl : j = m := by omega
      rw [List.getD_eq_getElem?_getD, List.getElem?_append_right (by rw [endsTo_length]; exact Nat.le_refl _), endsTo_length, Nat.sub_self]
      rfl
theorem wantTo_take {m n : Nat} (h : n ≤ m) : (wantTo kinds texts m).take n = wantTo kinds texts n := by
  induction m with
  | zero => (obtain rfl : n = 0 := by omega); rfl
  | succ m ih =>
    by_cases hn : n ≤ m
    · rw [wantTo, List.take_append_of_le_length (by rw [wantTo_length]; exact hn)]
      exact ih hn
    · obtain rfl : n = m + 1 := by omega
      exact List.take_of_length_le (by rw [wantTo_length]; exact Nat.le_refl _)
theorem allTo_size (m : Nat) : (allTo kinds texts (m + 1)).size = (allTo kinds texts m).size + (pOf texts m).size + 11 := by
  rw [allTo, ByteArray.size_append]
  unfold bOf
  rw [recB_size]
  omega
theorem allTo_mono {m n : Nat} (h : n ≤ m) : (allTo kinds texts n).size ≤ (allTo kinds texts m).size := by
  induction m with
  | zero => (obtain rfl : n = 0 := by omega); exact Nat.le_refl _
  | succ m ih =>
    by_cases hn : n ≤ m
    · have := ih hn; rw [allTo_size]; omega
    · obtain rfl : n = m + 1 := by omega
      exact Nat.le_refl _
theorem app_empty (s : ByteArray) : s ++ (⟨#[]⟩ : ByteArray) = s := by
  apply ByteArray.ext
  simp [ByteArray.data_append]
theorem empty_app (s : ByteArray) : (⟨#[]⟩ : ByteArray) ++ s = s := by
  apply ByteArray.ext
  simp [ByteArray.data_append]
theorem app_assoc (a b c : ByteArray) : a ++ b ++ c = a ++ (b ++ c) := by
  apply ByteArray.ext
  simp only [ByteArray.data_append, Array.append_assoc]
theorem wait_empty (next : Int) : Run ⟨#[]⟩ next [] 0 ⟨#[]⟩ next := .wait rfl
theorem parseV_rec {K S : Int} {P : ByteArray} (h : Right K S P) {t : ByteArray} (ht : t.size ≤ 4000000000) : parseV (recB K S P ++ t) = (K, S, P, t, 0) := by
  have h1 := parse_rec h (more := t) (by omega)
  rw [parse_V (by rw [ByteArray.size_append, recB_size]; have := h.2.2.2.2; omega)] at h1
  exact Option.some.inj h1
theorem run_one {K S : Int} {P : ByteArray} (h : Right K S P) : Run (recB K S P) S [⟨K, S, P⟩] 0 ⟨#[]⟩ (S + 1) := by
  have hv := parseV_rec h (t := ⟨#[]⟩) (by decide)
  rw [app_empty] at hv
  have := Run.step (s := recB K S P) (next := S) (by rw [hv]; show (0 : Int) ≠ 4; decide) (by rw [hv]; unfold errOf; simp) (by rw [hv]; exact wait_empty (S + 1))
  rw [hv] at this
  exact this
theorem run_all {m : Nat} (h : OkTo kinds texts m) : Run (allTo kinds texts m) 0 (wantTo kinds texts m) 0 ⟨#[]⟩ m := by
  induction m with
  | zero => exact wait_empty 0
  | succ m ih =>
    have h1 := ih (fun i hi => h i (by omega))
    have h2 := run_one (h m (Nat.lt_succ_self m))
    have := run_wait h1 rfl (bOf kinds texts m) (by rw [empty_app]; exact h2)
    rw [show ((m : Int) + 1) = ((m + 1 : Nat) : Int) from rfl] at this
    exact this
theorem allTo_split {m n : Nat} (h : n ≤ m) : ∃ t, allTo kinds texts m = allTo kinds texts n ++ t := by
  induction m with
  | zero => (obtain rfl : n = 0 := by omega); exact ⟨⟨#[]⟩, (app_empty _).symm⟩
  | succ m ih =>
    by_cases hn : n ≤ m
    · obtain ⟨t, ht⟩ := ih hn
      exact ⟨t ++ bOf kinds texts m, by rw [allTo, ht, app_assoc]⟩
    · obtain rfl : n = m + 1 := by omega
      exact ⟨⟨#[]⟩, (app_empty _).symm⟩
theorem list_of (a b : ByteArray) : (a ++ b).data.toList = a.data.toList ++ b.data.toList := by rw [ByteArray.data_append, Array.toList_append]
theorem ext_list {a b : ByteArray} (h : a.data.toList = b.data.toList) : a = b := by
  apply ByteArray.ext
  rw [← Array.toList_inj]
  exact h
theorem extract_list (s : ByteArray) (k : Nat) : (s.extract 0 k).data.toList = s.data.toList.take k := by
  rw [ByteArray.data_extract, Array.toList_extract, List.extract_eq_take_drop, List.drop_zero, Nat.sub_zero]
/-- Cut off anywhere, the first ones are read. -/
theorem run_cut {m n k : Nat} (h : OkTo kinds texts m) (hn : n < m) (h1 : (allTo kinds texts n).size ≤ k) (h2 : k < (allTo kinds texts (n + 1)).size) :
    ∃ r, Run ((allTo kinds texts m).extract 0 k) 0 (wantTo kinds texts n) 0 r n := by
  obtain ⟨t, ht⟩ := allTo_split (kinds := kinds) (texts := texts) (show n + 1 ≤ m from hn)
  have hb : (bOf kinds texts n).size = (pOf texts n).size + 11 := by unfold bOf; rw [recB_size]
  have hs := allTo_size (kinds := kinds) (texts := texts) n
  have e : (allTo kinds texts m).extract 0 k = allTo kinds texts n ++ (bOf kinds texts n).extract 0 (k - (allTo kinds texts n).size) := by
    rw [ht, extract_left _ _ _ (by omega), allTo]
    apply ext_list
    rw [extract_list, list_of, list_of, extract_list, List.take_append, size_list, List.take_of_length_le (by rw [size_list]; exact h1)]
  rw [e]
  have h3 := parse_cut (h n hn) (k := k - (allTo kinds texts n).size) (by rw [recB_size]; omega)
  have hz : ((bOf kinds texts n).extract 0 (k - (allTo kinds texts n).size)).size ≤ 9000 := by
    have := (h n hn).2.2.2.2
    rw [ByteArray.size_extract]
    omega
  rw [show recB (kOf kinds n) n (pOf texts n) = bOf kinds texts n from rfl, parse_V (by omega)] at h3
  have h4 : (parseV ((bOf kinds texts n).extract 0 (k - (allTo kinds texts n).size))).2.2.2.2 = 4 := by rw [Option.some.inj h3]
  have := run_wait (run_all (fun i hi => h i (by omega) : OkTo kinds texts n)) rfl ((bOf kinds texts n).extract 0 (k - (allTo kinds texts n).size)) (by rw [empty_app]; exact .wait h4)
  rw [List.append_nil] at this
  exact ⟨_, this⟩
/-- A record's bytes with one turned, but for its length, are none. -/
theorem bad_rec {K S : Int} {P : ByteArray} (h : Right K S P) {j : Nat} (hj : j < (recB K S P).size) (h5 : j ≠ 5) (h6 : j ≠ 6) {x : UInt8} (hx : x ≠ 0) (t : ByteArray) (ht : t.size ≤ 4000000000) (next : Int) :
    ∃ e, e ≠ 0 ∧ Run ((⟨((recB K S P).data.toList.set j ((recB K S P).data.toList.getD j 0 ^^^ x)).toArray⟩ : ByteArray) ++ t) next [] e ⟨#[]⟩ next := by
  obtain ⟨b, hb⟩ : ∃ b : ByteArray, b = (⟨((recB K S P).data.toList.set j ((recB K S P).data.toList.getD j 0 ^^^ x)).toArray⟩ : ByteArray) := ⟨_, rfl⟩
  rw [← hb]
  have hbl : b.data.toList = (recB K S P).data.toList.set j ((recB K S P).data.toList.getD j 0 ^^^ x) := by rw [hb]
  have hbz : b.size = P.size + 11 := by
    rw [← size_list, hbl, List.length_set, size_list, recB_size]
  have hp := h.2.2.2.2
  have hbt : ∀ i : Nat, i < b.size → i ≠ j → bt b (i : Int) = bt (recB K S P) (i : Int) := by
    intro i hi hij
    unfold bt
    have hi2 : i < (recB K S P).size := by rw [recB_size]; omega
    rw [dif_pos (by simpa using hi), dif_pos (by simpa using hi2)]
    congr 2
    have e1 : b[i] = b.data.toList[i]'(by rw [size_list]; exact hi) := rfl
    have e2 : (recB K S P)[i] = (recB K S P).data.toList[i]'(by rw [size_list]; exact hi2) := rfl
    show b[i] = (recB K S P)[i]
    rw [e1, e2]
    simp only [hbl]
    rw [List.getElem_set_ne (by omega)]
  have hlen : lenOf (b ++ t) = P.size := by
    rw [lenOf_app b t (by omega)]
    have hl := len_rec h ⟨#[]⟩
    rw [app_empty] at hl
    rw [← hl]
    unfold lenOf
    have e5 := hbt 5 (by omega) (by omega)
    have e6 := hbt 6 (by omega) (by omega)
    rw [show ((5 : Nat) : Int) = 5 from rfl] at e5
    rw [show ((6 : Nat) : Int) = 6 from rfl] at e6
    rw [e5, e6]
  have hst : bState ones b ≠ bBits 32 ones := by
    unfold bState
    rw [hbl, bBytes_set _ _ _ (by rw [size_list]; exact hj)]
    have hs := state_seal (bodyB K S P)
    unfold bState at hs
    rw [show sealB (bodyB K S P) = recB K S P from rfl] at hs
    rw [hs]
    intro e
    have h0 : bBits (8 * ((recB K S P).data.toList.length - j)) (cV x) = 0#32 := by
      have := congrArg (fun v => bBits 32 ones ^^^ v) e
      simpa [xor_cc] using this
    have h1 := bBits_zero h0
    apply hx
    have h2 := congrArg BitVec.toNat h1
    unfold cV at h2
    rw [BitVec.toNat_ofNat] at h2
    have h3 := x.toNat_lt
    apply UInt8.toNat_inj.1
    have : (0#32).toNat = 0 := rfl
    rw [this] at h2
    show x.toNat = 0
    omega
  have hn : (lenOf (b ++ t) + 11).toNat = b.size := by rw [hlen]; omega
  have ho : crc_Open.f ((b ++ t).extract 0 (lenOf (b ++ t) + 11).toNat) = some (⟨#[]⟩, 8) := by
    rw [hn, extract_app]
    exact open_bad (by omega) (by omega) hst
  have hz : (b ++ t).size = b.size + t.size := ByteArray.size_append
  have hpa := parse_all (s := b ++ t) (by omega) (by omega) (by omega) (by omega) ho (fun h => absurd h (by decide))
  rw [if_neg (by decide), parse_V (by omega)] at hpa
  have hv := Option.some.inj hpa
  have := Run.bad (s := b ++ t) (next := next) (by rw [hv]; decide) (by rw [hv]; unfold errOf; simp)
  rw [hv] at this
  exact ⟨_, by unfold errOf; simp, this⟩
/-- With a byte of one turned, but for its length, just those ahead of it are read. -/
theorem run_turned {m n k : Nat} (h : OkTo kinds texts m) (hz : (allTo kinds texts m).size ≤ 4000000000) (hn : n < m) (h1 : (allTo kinds texts n).size ≤ k) (h2 : k < (allTo kinds texts (n + 1)).size)
    (h5 : k - (allTo kinds texts n).size ≠ 5) (h6 : k - (allTo kinds texts n).size ≠ 6) {x : UInt8} (hx : x ≠ 0) :
    ∃ e r nx, e ≠ 0 ∧ Run (⟨((allTo kinds texts m).data.toList.set k ((allTo kinds texts m).data.toList.getD k 0 ^^^ x)).toArray⟩ : ByteArray) 0 (wantTo kinds texts n) e r nx := by
  obtain ⟨t, ht⟩ := allTo_split (kinds := kinds) (texts := texts) (show n + 1 ≤ m from hn)
  have hb : (bOf kinds texts n).size = (pOf texts n).size + 11 := by unfold bOf; rw [recB_size]
  have hs := allTo_size (kinds := kinds) (texts := texts) n
  have htz : t.size ≤ 4000000000 := by rw [ht, ByteArray.size_append] at hz; omega
  obtain ⟨j, hj⟩ : ∃ j, k = (allTo kinds texts n).size + j := ⟨k - (allTo kinds texts n).size, by omega⟩
  have e : (⟨((allTo kinds texts m).data.toList.set k ((allTo kinds texts m).data.toList.getD k 0 ^^^ x)).toArray⟩ : ByteArray) =
      allTo kinds texts n ++ ((⟨((bOf kinds texts n).data.toList.set j ((bOf kinds texts n).data.toList.getD j 0 ^^^ x)).toArray⟩ : ByteArray) ++ t) := by
    apply ext_list
    rw [list_of, list_of]
    show (allTo kinds texts m).data.toList.set k ((allTo kinds texts m).data.toList.getD k 0 ^^^ x) = (allTo kinds texts n).data.toList ++ ((bOf kinds texts n).data.toList.set j ((bOf kinds texts n).data.toList.getD j 0 ^^^ x) ++ t.data.toList)
    have e1 : (allTo kinds texts m).data.toList = (allTo kinds texts n).data.toList ++ ((bOf kinds texts n).data.toList ++ t.data.toList) := by
      rw [ht, list_of, allTo, list_of, List.append_assoc]
    have hjb : j < (bOf kinds texts n).data.toList.length := by rw [size_list]; omega
    have e2 : (allTo kinds texts m).data.toList.getD k 0 = (bOf kinds texts n).data.toList.getD j 0 := by
      rw [e1, List.getD_eq_getElem?_getD, List.getD_eq_getElem?_getD, List.getElem?_append_right (by rw [size_list]; omega), size_list, List.getElem?_append_left (by omega)]
      congr 2
      omega
    rw [e2, e1, List.set_append_right _ _ (by rw [size_list]; omega), List.set_append_left _ _ (by rw [size_list]; omega), size_list]
    congr 3
    omega
  rw [e]
  obtain ⟨er, her, hrun⟩ := bad_rec (h n hn) (j := j) (by rw [recB_size]; omega) (by omega) (by omega) hx t htz (n : Int)
  have := run_wait (run_all (fun i hi => h i (by omega) : OkTo kinds texts n)) rfl _ (by rw [empty_app]; exact hrun)
  rw [List.append_nil] at this
  exact ⟨er, _, _, her, this⟩
end
end Go.Proofs.Ytimamhklcglljaa.Pure
