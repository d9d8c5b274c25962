/- A reader of records, plainly: what it tells of bytes hangs on the bytes alone, not on the pieces in which they come. Laws over the functions of this claim. No condition. -/
import Derived.Test.YtimamhklcglljaaTlv
namespace Go.Proofs.Ytimamhklcglljaa.Pure
set_option linter.unusedVariables false
set_option linter.unusedSimpArgs false
open Go.RowKit Go.Proofs.Ytimamhklcglljaa.Q Go.Proofs.YtimamhklcglljaaW.PrintWords Go.Proofs.YtimamhklcglljaaW.PrintLast Go.Proofs.YtimamhklcglljaaW.PrintMore
/-- What a text is parsed to. -/
def parseV (s : ByteArray) : Int × Int × ByteArray × ByteArray × Int :=
  if s.size < 7 then (0, 0, ⟨#[]⟩, ⟨#[]⟩, 4)
  else if 8192 < lenOf s then (0, 0, ⟨#[]⟩, ⟨#[]⟩, 3)
  else if (s.size : Int) < lenOf s + 11 then (0, 0, ⟨#[]⟩, ⟨#[]⟩, 4)
  else if (sealB ((s.extract 0 (lenOf s + 11).toNat).extract 0 (lenOf s + 7).toNat)).toList = (s.extract 0 (lenOf s + 11).toNat).toList then
    (if bt ((s.extract 0 (lenOf s + 11).toNat).extract 0 (lenOf s + 7).toNat) 0 = 0 then (0, 0, ⟨#[]⟩, ⟨#[]⟩, 16)
     else if seqOf ((s.extract 0 (lenOf s + 11).toNat).extract 0 (lenOf s + 7).toNat) > 2147483647 then (0, 0, ⟨#[]⟩, ⟨#[]⟩, 1)
     else (bt ((s.extract 0 (lenOf s + 11).toNat).extract 0 (lenOf s + 7).toNat) 0, seqOf ((s.extract 0 (lenOf s + 11).toNat).extract 0 (lenOf s + 7).toNat),
        ((s.extract 0 (lenOf s + 11).toNat).extract 0 (lenOf s + 7).toNat).extract 7 ((s.extract 0 (lenOf s + 11).toNat).extract 0 (lenOf s + 7).toNat).size, s.extract (lenOf s + 11).toNat s.size, 0))
  else (0, 0, ⟨#[]⟩, ⟨#[]⟩, 8)
theorem parse_V {s : ByteArray} (hz : s.size ≤ 4611686018427387904) : tlv_Parse.f s = some (parseV s) := by
  unfold parseV
  by_cases h7 : s.size < 7
  · rw [if_pos h7, parse_short h7]
  rw [if_neg h7]
  by_cases hl : 8192 < lenOf s
  · rw [if_pos hl, parse_long (by omega) hl]
  rw [if_neg hl]
  by_cases ha : (s.size : Int) < lenOf s + 11
  · rw [if_pos ha, parse_none (by omega) hz (by omega) ha]
  rw [if_neg ha]
  obtain ⟨l0, l1⟩ := lenOf_nn s
  have hes : (s.extract 0 (lenOf s + 11).toNat).size = (lenOf s + 11).toNat := by rw [ByteArray.size_extract]; omega
  have e4 : (s.extract 0 (lenOf s + 11).toNat).size - 4 = (lenOf s + 7).toNat := by rw [hes]; omega
  have ho := open_long (s := s.extract 0 (lenOf s + 11).toNat) (by omega) (by omega)
  rw [e4] at ho
  by_cases hs : (sealB ((s.extract 0 (lenOf s + 11).toNat).extract 0 (lenOf s + 7).toNat)).toList = (s.extract 0 (lenOf s + 11).toNat).toList
  · rw [if_pos hs] at ho ⊢
    rw [parse_all (by omega) hz (by omega) (by omega) ho (fun _ => by rw [ByteArray.size_extract]; omega), if_pos rfl]
    split
    · rfl
    · split <;> rfl
  · rw [if_neg hs] at ho ⊢
    rw [parse_all (by omega) hz (by omega) (by omega) ho (fun h => absurd h (by decide)), if_neg (by decide)]
theorem extract_left (s t : ByteArray) (n : Nat) (h : n ≤ s.size) : (s ++ t).extract 0 n = s.extract 0 n := by
  apply ByteArray.ext
  rw [← Array.toList_inj, ByteArray.data_extract, ByteArray.data_extract, ByteArray.data_append, Array.toList_extract, Array.toList_extract, Array.toList_append, List.extract_eq_take_drop, List.extract_eq_take_drop, List.drop_zero, List.drop_zero, Nat.sub_zero, List.take_append_of_le_length (by rw [size_list]; exact h)]
theorem extract_right (s t : ByteArray) (n : Nat) (h : n ≤ s.size) : (s ++ t).extract n (s ++ t).size = s.extract n s.size ++ t := by
  apply ByteArray.ext
  rw [← Array.toList_inj, ByteArray.data_append, ByteArray.data_extract, ByteArray.data_extract, ByteArray.data_append, Array.toList_append, Array.toList_extract, Array.toList_extract, Array.toList_append, List.extract_eq_take_drop, List.extract_eq_take_drop, ByteArray.size_append,
    List.drop_append_of_le_length (by rw [size_list]; exact h), List.take_of_length_le (by rw [List.length_append, List.length_drop, size_list, size_list]; omega), List.take_of_length_le (by rw [List.length_drop, size_list]; omega)]
theorem lenOf_app (s t : ByteArray) (h : 7 ≤ s.size) : lenOf (s ++ t) = lenOf s := by
  unfold lenOf
  have e5 := bt_app (a := s) (b := t) (i := 5) (by omega)
  have e6 := bt_app (a := s) (b := t) (i := 6) (by omega)
  rw [show ((5 : Nat) : Int) = 5 from rfl] at e5
  rw [show ((6 : Nat) : Int) = 6 from rfl] at e6
  rw [e5, e6]
/-- A text that is told of stays so, whatever comes behind. -/
theorem parse_app {s t : ByteArray} (h : (parseV s).2.2.2.2 ≠ 4) : parseV (s ++ t) = ((parseV s).1, (parseV s).2.1, (parseV s).2.2.1, if (parseV s).2.2.2.2 = 0 then (parseV s).2.2.2.1 ++ t else (parseV s).2.2.2.1, (parseV s).2.2.2.2) := by
  unfold parseV at h ⊢
  by_cases h7 : s.size < 7
  · rw [if_pos h7] at h; exact absurd rfl h
  have h7' : ¬ (s ++ t).size < 7 := by rw [ByteArray.size_append]; omega
  rw [if_neg h7] at h ⊢
  rw [if_neg h7', lenOf_app s t (by omega)]
  by_cases hl : 8192 < lenOf s
  · rw [if_pos hl, if_pos hl]; rfl
  rw [if_neg hl] at h ⊢
  rw [if_neg hl]
  by_cases ha : (s.size : Int) < lenOf s + 11
  · rw [if_pos ha] at h; exact absurd rfl h
  have ha' : ¬ ((s ++ t).size : Int) < lenOf s + 11 := by rw [ByteArray.size_append]; omega
  obtain ⟨l0, l1⟩ := lenOf_nn s
  rw [if_neg ha] at h ⊢
  rw [if_neg ha', extract_left s t _ (by omega), extract_right s t _ (by omega)]
  by_cases hs : (sealB ((s.extract 0 (lenOf s + 11).toNat).extract 0 (lenOf s + 7).toNat)).toList = (s.extract 0 (lenOf s + 11).toNat).toList
  · rw [if_pos hs] at h ⊢
    rw [if_pos hs]
    by_cases hk : bt ((s.extract 0 (lenOf s + 11).toNat).extract 0 (lenOf s + 7).toNat) 0 = 0
    · rw [if_pos hk, if_pos hk]; rfl
    · rw [if_neg hk, if_neg hk]
      by_cases hq : seqOf ((s.extract 0 (lenOf s + 11).toNat).extract 0 (lenOf s + 7).toNat) > 2147483647
      · rw [if_pos hq, if_pos hq]; rfl
      · rw [if_neg hq, if_neg hq]; rfl
  · rw [if_neg hs, if_neg hs]; rfl
theorem parse_rest {s : ByteArray} (h : (parseV s).2.2.2.2 = 0) : 11 ≤ s.size ∧ (parseV s).2.2.2.1.size + 11 ≤ s.size := by
  unfold parseV at h ⊢
  by_cases h7 : s.size < 7
  · rw [if_pos h7] at h; simp at h
  rw [if_neg h7] at h ⊢
  by_cases hl : 8192 < lenOf s
  · rw [if_pos hl] at h; simp at h
  rw [if_neg hl] at h ⊢
  by_cases ha : (s.size : Int) < lenOf s + 11
  · rw [if_pos ha] at h; simp at h
  rw [if_neg ha] at h ⊢
  obtain ⟨l0, l1⟩ := lenOf_nn s
  by_cases hs : (sealB ((s.extract 0 (lenOf s + 11).toNat).extract 0 (lenOf s + 7).toNat)).toList = (s.extract 0 (lenOf s + 11).toNat).toList
  · rw [if_pos hs] at h ⊢
    by_cases hk : bt ((s.extract 0 (lenOf s + 11).toNat).extract 0 (lenOf s + 7).toNat) 0 = 0
    · rw [if_pos hk] at h; simp at h
    · rw [if_neg hk] at h ⊢
      by_cases hq : seqOf ((s.extract 0 (lenOf s + 11).toNat).extract 0 (lenOf s + 7).toNat) > 2147483647
      · rw [if_pos hq] at h; simp at h
      · rw [if_neg hq]
        refine ⟨by omega, ?_⟩
        show (s.extract (lenOf s + 11).toNat s.size).size + 11 ≤ s.size
        rw [ByteArray.size_extract]
        omega
  · rw [if_neg hs] at h; simp at h
/-- The error that a reader tells. -/
def errOf (v : Int × Int × ByteArray × ByteArray × Int) (next : Int) : Int := if v.2.2.2.2 = 1 then 18 else if v.2.2.2.2 = 0 then (if v.2.1 = next then 0 else 18) else v.2.2.2.2
def recOf (v : Int × Int × ByteArray × ByteArray × Int) : S29 := ⟨v.1, v.2.1, v.2.2.1⟩
/-- What a reader makes of bytes: the records, the error, what waits, the next number. -/
inductive Run : ByteArray → Int → List S29 → Int → ByteArray → Int → Prop
  | wait {s next} : (parseV s).2.2.2.2 = 4 → Run s next [] 0 s next
  | bad {s next} : (parseV s).2.2.2.2 ≠ 4 → errOf (parseV s) next ≠ 0 → Run s next [] (errOf (parseV s) next) ⟨#[]⟩ next
  | step {s next out e r nx} : (parseV s).2.2.2.2 ≠ 4 → errOf (parseV s) next = 0 → Run (parseV s).2.2.2.1 (next + 1) out e r nx → Run s next (recOf (parseV s) :: out) e r nx
theorem err_zero {v : Int × Int × ByteArray × ByteArray × Int} {next : Int} (h : errOf v next = 0) : v.2.2.2.2 = 0 ∧ v.2.1 = next := by
  unfold errOf at h
  split at h
  · omega
  · split at h
    · split at h
      · constructor <;> assumption
      · omega
    · contradiction
theorem run_det {s : ByteArray} {next : Int} {o1 o2 : List S29} {e1 e2 : Int} {r1 r2 : ByteArray} {n1 n2 : Int} (h1 : Run s next o1 e1 r1 n1) (h2 : Run s next o2 e2 r2 n2) : o1 = o2 ∧ e1 = e2 ∧ r1 = r2 ∧ n1 = n2 := by
  induction h1 generalizing o2 e2 r2 n2 with
  | wait h =>
    cases h2 with
    | wait _ => exact ⟨rfl, rfl, rfl, rfl⟩
    | bad h' _ => exact absurd h h'
    | step h' _ _ => exact absurd h h'
  | bad h he =>
    cases h2 with
    | wait h' => exact absurd h' h
    | bad _ _ => exact ⟨rfl, rfl, rfl, rfl⟩
    | step _ he' _ => exact absurd he' he
  | step h he _ ih =>
    cases h2 with
    | wait h' => exact absurd h' h
    | bad _ he' => exact absurd he he'
    | step _ _ hr => obtain ⟨rfl, rfl, rfl, rfl⟩ := ih hr; exact ⟨rfl, rfl, rfl, rfl⟩
theorem run_total (d : Nat) : ∀ (s : ByteArray) (next : Int), s.size ≤ d → ∃ out e r nx, Run s next out e r nx ∧ out.length * 11 + r.size ≤ s.size ∧ nx = next + out.length := by
  induction d with
  | zero =>
    intro s next h
    exact ⟨[], 0, s, next, .wait (by unfold parseV; rw [if_pos (by omega)]), by simp, by simp⟩
  | succ d ih =>
    intro s next h
    by_cases h4 : (parseV s).2.2.2.2 = 4
    · exact ⟨[], 0, s, next, .wait h4, by simp, by simp⟩
    · by_cases he : errOf (parseV s) next = 0
      · have hr := parse_rest (err_zero he).1
        obtain ⟨out, e, r, nx, hrun, hl, hn⟩ := ih (parseV s).2.2.2.1 (next + 1) (by omega)
        exact ⟨_, e, r, nx, .step h4 he hrun, by simp; omega, by simp; omega⟩
      · exact ⟨[], _, ⟨#[]⟩, next, .bad h4 he, by simp; exact Nat.zero_le _, by simp⟩
theorem run_nil {s : ByteArray} {next : Int} {out : List S29} {e : Int} {r : ByteArray} {nx : Int} (h : Run s next out e r nx) : e ≠ 0 → r = ⟨#[]⟩ := by
  induction h with
  | wait _ => intro h; exact absurd rfl h
  | bad _ _ => intro _; rfl
  | step _ _ _ ih => exact ih
theorem run_wait {s : ByteArray} {next : Int} {out : List S29} {e : Int} {r : ByteArray} {nx : Int} (h : Run s next out e r nx) (he : e = 0) (t : ByteArray) {out2 : List S29} {e2 : Int} {r2 : ByteArray} {nx2 : Int} (h2 : Run (r ++ t) nx out2 e2 r2 nx2) : Run (s ++ t) next (out ++ out2) e2 r2 nx2 := by
  induction h with
  | wait _ => exact h2
  | bad _ h => exact absurd he h
  | step h4 he0 _ ih =>
    have hp := parse_app (t := t) h4
    have e0 := (err_zero he0).1
    rw [if_pos e0] at hp
    have h3 := ih he h2
    have h := Run.step (s := _ ++ t) (by rw [hp]; exact h4) (by rw [hp]; exact he0) (by rw [hp]; exact h3)
    have hrec : ∀ v v' : Int × Int × ByteArray × ByteArray × Int, v.1 = v'.1 → v.2.1 = v'.2.1 → v.2.2.1 = v'.2.2.1 → recOf v = recOf v' := by
      intro v v' a b c; unfold recOf; rw [a, b, c]
    rw [hrec _ _ (by rw [hp]) (by rw [hp]) (by rw [hp])] at h
    exact h
theorem run_err {s : ByteArray} {next : Int} {out : List S29} {e : Int} {r : ByteArray} {nx : Int} (h : Run s next out e r nx) (he : e ≠ 0) (t : ByteArray) : Run (s ++ t) next out e r nx := by
  induction h with
  | wait _ => exact absurd rfl he
  | bad h4 hb =>
    rename_i s next
    have hp := parse_app (t := t) h4
    have e1 : errOf (parseV (s ++ t)) next = errOf (parseV s) next := by rw [hp]; rfl
    rw [← e1]
    exact Run.bad (by rw [hp]; exact h4) (by rw [e1]; exact hb)
  | step h4 he0 _ ih =>
    have hp := parse_app (t := t) h4
    have e0 := (err_zero he0).1
    rw [if_pos e0] at hp
    have h := Run.step (s := _ ++ t) (by rw [hp]; exact h4) (by rw [hp]; exact he0) (by rw [hp]; exact ih he)
    have hrec : ∀ v v' : Int × Int × ByteArray × ByteArray × Int, v.1 = v'.1 → v.2.1 = v'.2.1 → v.2.2.1 = v'.2.2.1 → recOf v = recOf v' := by
      intro v v' a b c; unfold recOf; rw [a, b, c]
    rw [hrec _ _ (by rw [hp]) (by rw [hp]) (by rw [hp])] at h
    exact h
theorem run_feed {s : ByteArray} {next : Int} {out : List S29} {e : Int} {r : ByteArray} {nx : Int} (h : Run s next out e r nx) : s.size ≤ 4000000000 → 0 ≤ next → next + s.size ≤ 4000000000000 → ∀ acc : List S29, acc.length + s.size ≤ 4000000000000 → Ev (fun k => feedLoop k s next acc) (acc ++ out, e, r, nx, e) := by
  induction h with
  | wait h4 =>
    intro hz _ _ acc _
    refine Ev.step (fun k => ?_) (Ev.now _)
    simp only [feedLoop]
    rw [parse_V (by omega)]
    simp only [Option.bind_some]
    rw [if_pos h4, List.append_nil]
  | bad h4 he =>
    rename_i s next
    intro hz _ _ acc _
    refine Ev.step (fun k => ?_) (Ev.now _)
    simp only [feedLoop]
    rw [parse_V (by omega)]
    simp only [Option.bind_some]
    rw [if_neg h4, List.append_nil]
    unfold errOf at he ⊢
    by_cases h1 : (parseV s).2.2.2.2 = 1
    · rw [if_pos h1, if_pos h1]
    · rw [if_neg h1] at he ⊢
      rw [if_neg h1]
      by_cases h0 : (parseV s).2.2.2.2 = 0
      · rw [if_pos h0] at he ⊢
        rw [if_pos h0]
        by_cases hn : (parseV s).2.1 = next
        · rw [if_pos hn] at he; exact absurd rfl he
        · rw [if_neg hn, if_neg hn]
      · rw [if_neg h0, if_neg h0]
  | step h4 he hr ih =>
    rename_i s next out e r nx
    intro hz h0 hn acc ha
    obtain ⟨e0, en⟩ := err_zero he
    have hrs := parse_rest e0
    have := ih (by omega) (by omega) (by omega) (acc ++ [recOf (parseV s)]) (by simp; omega)
    rw [List.append_assoc] at this
    refine Ev.step (fun k => ?_) this
    simp only [feedLoop]
    rw [parse_V (by omega)]
    simp only [Option.bind_some]
    rw [if_neg h4, if_neg (by omega), if_pos e0, if_pos en, if_pos (by omega), show wrap64 (next + 1) = next + 1 by unfold wrap64; omega]
    rfl
/-- One piece more. -/
theorem feed_piece {p : ByteArray} {x : List S29} {e : Int} {r : ByteArray} {n : Int} (h : Run p 0 x e r n) (t : ByteArray) (hz : p.size + t.size ≤ 1000000000) :
    ∃ out e' r' n', Ev (fun k => tlv_Reader_Feed.f k r n e t) (out, e', r', n', e') ∧ Run (p ++ t) 0 (x ++ out) e' r' n' ∧ out.length ≤ p.size + t.size := by
  obtain ⟨x', e1, r1, n1, h1, hl, hn⟩ := run_total p.size p 0 (Nat.le_refl _)
  obtain ⟨rfl, rfl, rfl, rfl⟩ := run_det h h1
  unfold tlv_Reader_Feed.f
  by_cases he : e = 0
  · subst he
    obtain ⟨out, e', r', n', h2, hl2, hn2⟩ := run_total (r ++ t).size (r ++ t) n (Nat.le_refl _)
    have hrs : (r ++ t).size = r.size + t.size := ByteArray.size_append
    have hf := run_feed h2 (by omega) (by omega) (by omega) [] (by simp; omega)
    refine ⟨out, e', r', n', ?_, run_wait h rfl t h2, by omega⟩
    simp only [if_true, if_pos (show r.size + t.size ≤ 9223372036854775807 by omega)]
    exact hf
  · refine ⟨[], e, r, n, ?_, by rw [List.append_nil]; exact run_err h he t, Nat.zero_le _⟩
    simp only [if_neg he]
    exact Ev.now _
theorem run_len {p : ByteArray} {x : List S29} {e : Int} {r : ByteArray} {n : Int} (h : Run p 0 x e r n) : x.length ≤ p.size := by
  obtain ⟨x', e1, r1, n1, h1, hl, hn⟩ := run_total p.size p 0 (Nat.le_refl _)
  obtain ⟨rfl, rfl, rfl, rfl⟩ := run_det h h1
  omega
/-! ### the law's own helpers -/
def conv49 (x : S29) : S49 := ⟨x.f0, x.f1, x.f2⟩
theorem of_ev (l : List S29) (hl : l.length ≤ 1000000000) : Ev (fun k => snapferrylaw04_of.f k l) (l.map conv49) := by
  unfold snapferrylaw04_of.f
  have key : ∀ d i, i + d = l.length → Ev (fun k => snapferrylaw04_of.l0 k l ((l.take i).map conv49) (i : Int)) (l.map conv49) := by
    intro d
    induction d with
    | zero =>
      intro i hi
      refine Ev.step (fun k => ?_) (Ev.now _)
      simp only [snapferrylaw04_of.l0]
      rw [if_neg (by omega), List.take_of_length_le (by omega)]
    | succ d ih =>
      intro i hi
      refine Ev.step (fun k => ?_) (ih (i + 1) (by omega))
      simp only [snapferrylaw04_of.l0]
      rw [if_pos (by omega), if_pos (by omega), if_pos (by simp; omega), show wrap64 ((i : Int) + 1) = ((i + 1 : Nat) : Int) by unfold wrap64; omega, List.take_succ_eq_append_getElem (by omega), List.map_append]
      congr 1
      simp [rd_T29, List.getD, show i < l.length by omega, conv49]
  exact key l.length 0 (Nat.zero_add _)
theorem same_ev (l : List S49) (hl : l.length ≤ 1000000000) : Ev (fun k => snapferryref04_Same.f k l l) true := by
  unfold snapferryref04_Same.f
  simp only [if_true]
  have key : ∀ d i, i + d = l.length → Ev (fun k => snapferryref04_Same.l0 k l l (i : Int)) true := by
    intro d
    induction d with
    | zero =>
      intro i hi
      refine Ev.step (fun k => ?_) (Ev.now _)
      simp only [snapferryref04_Same.l0]
      rw [if_neg (by omega)]
    | succ d ih =>
      intro i hi
      refine Ev.step (fun k => ?_) (ih (i + 1) (by omega))
      simp only [snapferryref04_Same.l0]
      rw [if_pos (by omega), if_pos (by omega), if_pos (by omega), if_neg (by simp), show wrap64 ((i : Int) + 1) = ((i + 1 : Nat) : Int) by unfold wrap64; omega]
  exact key l.length 0 (Nat.zero_add _)
/-- All pieces' bytes. -/
def sizes (l : List ByteArray) : Nat := (l.map ByteArray.size).sum
theorem few_ev (l : List ByteArray) (hs : ∀ s ∈ l, s.size ≤ 9000000000000000000) : (Ev (fun k => snapferrylaw04_few.f k l) true ∧ l.length ≤ 100 ∧ sizes l ≤ 12000) ∨ Ev (fun k => snapferrylaw04_few.f k l) false := by
  unfold snapferrylaw04_few.f
  have key : ∀ d i, i + d = l.length → sizes (l.take i) ≤ 12000 → i ≤ 100 → (Ev (fun k => snapferrylaw04_few.l0 k l (sizes (l.take i) : Int) (i : Int)) true ∧ l.length ≤ 100 ∧ sizes l ≤ 12000) ∨ Ev (fun k => snapferrylaw04_few.l0 k l (sizes (l.take i) : Int) (i : Int)) false := by
    intro d
    induction d with
    | zero =>
      intro i hi hn h100
      rw [List.take_of_length_le (by omega)] at hn ⊢
      refine .inl ⟨Ev.step (fun k => ?_) (Ev.now _), by omega, hn⟩
      simp only [snapferrylaw04_few.l0]
      rw [if_neg (by omega)]
    | succ d ih =>
      intro i hi hn h100
      have hil : i < l.length := by omega
      have hrd : rdOf ByteArray.empty l (i : Int) = l[i] := by simp [rdOf, List.getD, hil]
      have hsi := hs l[i] (List.getElem_mem hil)
      have hsum : sizes (l.take (i + 1)) = sizes (l.take i) + l[i].size := by
        unfold sizes
        rw [List.take_succ_eq_append_getElem hil, List.map_append, List.sum_append]
        simp
      have hw : wrap64 ((sizes (l.take i) : Int) + ((rdOf ByteArray.empty l (i : Int)).size : Int)) = ((sizes (l.take (i + 1)) : Nat) : Int) := by
        rw [hrd, hsum]; unfold wrap64; omega
      by_cases hc : (i : Int) ≥ 100
      · right
        refine Ev.step (fun k => ?_) (Ev.now _)
        simp only [snapferrylaw04_few.l0]
        rw [if_pos (by omega), if_pos (by omega), if_pos hc]
      · by_cases hb : sizes (l.take (i + 1)) ≤ 12000
        · have hst : ∀ k, snapferrylaw04_few.l0 (k + 1) l (sizes (l.take i) : Int) (i : Int) = snapferrylaw04_few.l0 k l (sizes (l.take (i + 1)) : Int) ((i + 1 : Nat) : Int) := by
            intro k
            simp only [snapferrylaw04_few.l0]
            rw [hw, if_pos (by omega), if_pos (by omega), if_neg hc, if_neg (by omega), show wrap64 ((i : Int) + 1) = ((i + 1 : Nat) : Int) by unfold wrap64; omega]
          rcases ih (i + 1) (by omega) hb (by omega) with ⟨h, hh⟩ | h
          · exact .inl ⟨Ev.step hst h, hh⟩
          · exact .inr (Ev.step hst h)
        · right
          refine Ev.step (fun k => ?_) (Ev.now _)
          simp only [snapferrylaw04_few.l0]
          rw [hw, if_pos (by omega), if_pos (by omega), if_neg hc, if_pos (by omega)]
  exact key l.length 0 (Nat.zero_add _) (by simp [sizes]) (by omega)
end Go.Proofs.Ytimamhklcglljaa.Pure
