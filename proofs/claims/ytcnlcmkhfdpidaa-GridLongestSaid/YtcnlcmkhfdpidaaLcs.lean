/- How many texts of two rows may stay, and the best path: plain laws. No condition. -/
import Derived.Test.YtcnlcmkhfdpidaaQx1
namespace Go.Proofs.Ytcnlcmkhfdpidaa.Grid
set_option linter.unusedVariables false
set_option linter.unusedSimpArgs false
abbrev T := ByteArray
def eqB (x y : T) : Bool := x.toList == y.toList
theorem toList_inj {x y : ByteArray} (h : x.toList = y.toList) : x = y := by
  rw [ByteArray.toList_eq, ByteArray.toList_eq] at h
  exact ByteArray.ext (Array.toList_inj.1 h)
theorem eqB_iff {x y : T} : eqB x y = true ↔ x = y := by
  unfold eqB
  rw [beq_iff_eq]
  exact ⟨toList_inj, fun h => by rw [h]⟩
theorem eqB_self (x : T) : eqB x x = true := eqB_iff.2 rfl
theorem eqB_comm (x y : T) : eqB x y = eqB y x := by
  rw [Bool.eq_iff_iff, eqB_iff, eqB_iff]
  exact eq_comm
/-- A row of the table out of the row behind it. -/
def Gr (x : T) (f : List T → Nat) : List T → Nat
  | [] => 0
  | y :: ys => if eqB x y then f ys + 1 else max (f (y :: ys)) (Gr x f ys)
/-- How many may stay. -/
def G : List T → List T → Nat
  | [] => fun _ => 0
  | x :: xs => Gr x (G xs)
theorem G_nil (b : List T) : G [] b = 0 := rfl
theorem G_nil' (a : List T) : G a [] = 0 := by cases a <;> rfl
theorem G_cons (x y : T) (xs ys : List T) : G (x :: xs) (y :: ys) = if eqB x y then G xs ys + 1 else max (G xs (y :: ys)) (G (x :: xs) ys) := rfl
/-- As many may stay as there are texts in some row that stands in both. -/
theorem G_some : ∀ n (a b : List T), a.length + b.length ≤ n → ∃ c : List T, c.Sublist a ∧ c.Sublist b ∧ c.length = G a b
  | _, [], b, _ => ⟨[], List.Sublist.refl _, List.nil_sublist _, rfl⟩
  | _, x :: xs, [], _ => ⟨[], List.nil_sublist _, List.Sublist.refl _, rfl⟩
  | 0, x :: xs, y :: ys, h => absurd h (by simp)
  | n + 1, x :: xs, y :: ys, h => by
    simp only [List.length_cons] at h
    rw [G_cons]
    by_cases e : eqB x y = true
    · rw [if_pos e]
      obtain ⟨c, h1, h2, h3⟩ := G_some n xs ys (by omega)
      have := eqB_iff.1 e
      subst this
      exact ⟨x :: c, h1.cons_cons x, h2.cons_cons x, by rw [List.length_cons, h3]⟩
    · rw [if_neg e]
      obtain ⟨c, h1, h2, h3⟩ := G_some n xs (y :: ys) (by simp only [List.length_cons]; omega)
      obtain ⟨d, k1, k2, k3⟩ := G_some n (x :: xs) ys (by simp only [List.length_cons]; omega)
      by_cases m : G (x :: xs) ys ≤ G xs (y :: ys)
      · exact ⟨c, h1.cons x, h2, by rw [h3]; omega⟩
      · exact ⟨d, k1, k2.cons y, by rw [k3]; omega⟩
theorem sub_ne {z x : T} {c xs : List T} (h : (z :: c).Sublist (x :: xs)) (hne : z ≠ x) : (z :: c).Sublist xs := by
  cases h with
  | cons _ h => exact h
  | cons_cons _ _ => exact absurd rfl hne
theorem G_most : ∀ n (a b c : List T), a.length + b.length ≤ n → c.Sublist a → c.Sublist b → c.length ≤ G a b
  | _, [], b, c, _, h1, _ => by rw [List.sublist_nil.1 h1]; exact Nat.zero_le _
  | _, x :: xs, [], c, _, _, h2 => by rw [List.sublist_nil.1 h2]; exact Nat.zero_le _
  | 0, x :: xs, y :: ys, c, h, _, _ => absurd h (by simp)
  | n + 1, x :: xs, y :: ys, c, h, h1, h2 => by
    simp only [List.length_cons] at h
    rw [G_cons]
    by_cases e : eqB x y = true
    · rw [if_pos e]
      have := G_most n xs ys c.tail (by omega) h1.tail h2.tail
      rw [List.length_tail] at this
      omega
    · rw [if_neg e]
      cases c with
      | nil => exact Nat.zero_le _
      | cons z c =>
        by_cases hz : z = x
        · subst hz
          have := G_most n (z :: xs) ys (z :: c) (by simp only [List.length_cons]; omega) h1 (sub_ne h2 (fun q => e (by rw [q]; exact eqB_self y)))
          omega
        · have := G_most n xs (y :: ys) (z :: c) (by simp only [List.length_cons]; omega) (sub_ne h1 hz) h2
          omega
theorem G_le {a b c : List T} (h1 : c.Sublist a) (h2 : c.Sublist b) : c.length ≤ G a b := G_most _ a b c (Nat.le_refl _) h1 h2
theorem G_get (a b : List T) : ∃ c : List T, c.Sublist a ∧ c.Sublist b ∧ c.length = G a b := G_some _ a b (Nat.le_refl _)
theorem G_mono {a b a' b' : List T} (h1 : a.Sublist a') (h2 : b.Sublist b') : G a b ≤ G a' b' := by
  obtain ⟨c, k1, k2, k3⟩ := G_get a b
  rw [← k3]
  exact G_le (k1.trans h1) (k2.trans h2)
theorem G_comm (a b : List T) : G a b = G b a := by
  have h : ∀ a b : List T, G a b ≤ G b a := fun a b => by
    obtain ⟨c, k1, k2, k3⟩ := G_get a b
    rw [← k3]
    exact G_le k2 k1
  exact Nat.le_antisymm (h a b) (h b a)
theorem G_left (a b : List T) : G a b ≤ a.length := by
  obtain ⟨c, k1, k2, k3⟩ := G_get a b
  rw [← k3]
  exact k1.length_le
theorem G_right (a b : List T) : G a b ≤ b.length := by
  obtain ⟨c, k1, k2, k3⟩ := G_get a b
  rw [← k3]
  exact k2.length_le
theorem G_self (a : List T) : G a a = a.length := Nat.le_antisymm (G_left a a) (G_le (List.Sublist.refl _) (List.Sublist.refl _))
theorem G_pos {a b : List T} : 0 < G a b ↔ ∃ x ∈ a, x ∈ b := by
  constructor
  · intro h
    obtain ⟨c, k1, k2, k3⟩ := G_get a b
    cases c with
    | nil => rw [← k3] at h; exact absurd h (by decide)
    | cons z c => exact ⟨z, k1.subset List.mem_cons_self, k2.subset List.mem_cons_self⟩
  · rintro ⟨x, h1, h2⟩
    exact G_le (c := [x]) (List.singleton_sublist.2 h1) (List.singleton_sublist.2 h2)
theorem drop_last {c a : List T} {s : T} (h : c.Sublist (a ++ [s])) : c.dropLast.Sublist a := by
  have h1 := h.reverse.tail
  rw [List.reverse_append] at h1
  have h2 : c.reverse.tail.Sublist a.reverse := h1
  have h3 := h2.reverse
  rw [List.reverse_reverse, List.tail_reverse, List.reverse_reverse] at h3
  exact h3
theorem len_drop (c : List T) : c.length ≤ c.dropLast.length + 1 := by
  rw [List.length_dropLast]
  omega
/-- One text more at the end of both stays. -/
theorem G_both (a b : List T) (s : T) : G (a ++ [s]) (b ++ [s]) = G a b + 1 := by
  apply Nat.le_antisymm
  · obtain ⟨c, k1, k2, k3⟩ := G_get (a ++ [s]) (b ++ [s])
    rw [← k3]
    have := G_le (drop_last k1) (drop_last k2)
    have := len_drop c
    omega
  · obtain ⟨c, k1, k2, k3⟩ := G_get a b
    have := G_le (k1.append (List.Sublist.refl [s])) (k2.append (List.Sublist.refl [s]))
    rw [List.length_append, List.length_singleton, k3] at this
    exact this
theorem G_one (a b : List T) (s : T) : G a b ≤ G (a ++ [s]) b ∧ G (a ++ [s]) b ≤ G a b + 1 := by
  constructor
  · exact G_mono (List.sublist_append_left a [s]) (List.Sublist.refl _)
  · obtain ⟨c, k1, k2, k3⟩ := G_get (a ++ [s]) b
    rw [← k3]
    have := G_le (drop_last k1) ((List.dropLast_sublist c).trans k2)
    have := len_drop c
    omega
/-! ### the path -/
abbrev Stp := Nat × Nat
def P : Nat → List T → List T → List Stp
  | 0, _, _ => []
  | _ + 1, [], [] => []
  | n + 1, [], _ :: ys => (0, 1) :: P n [] ys
  | n + 1, _ :: xs, [] => (1, 0) :: P n xs []
  | n + 1, x :: xs, y :: ys => if eqB x y then (1, 1) :: P n xs ys else if G (x :: xs) (y :: ys) = G xs (y :: ys) then (1, 0) :: P n xs (y :: ys) else (0, 1) :: P n (x :: xs) ys
def path (a b : List T) : List Stp := P (a.length + b.length) a b
/-- How many stay. -/
def same (p : List Stp) : Nat := (p.filter fun s => decide (s = (1, 1))).length
theorem same_nil : same [] = 0 := rfl
theorem same_stay (p : List Stp) : same ((1, 1) :: p) = same p + 1 := rfl
theorem same_goes (p : List Stp) : same ((1, 0) :: p) = same p := rfl
theorem same_come (p : List Stp) : same ((0, 1) :: p) = same p := rfl
theorem P_same : ∀ n (a b : List T), a.length + b.length ≤ n → same (P n a b) = G a b ∧ (P n a b).length + same (P n a b) = a.length + b.length
  | 0, a, b, h => by
    have h1 : a = [] := List.length_eq_zero_iff.1 (by omega)
    have h2 : b = [] := List.length_eq_zero_iff.1 (by omega)
    subst h1 h2
    exact ⟨rfl, rfl⟩
  | n + 1, [], [], _ => ⟨rfl, rfl⟩
  | n + 1, [], y :: ys, h => by
    simp only [List.length_cons, List.length_nil] at h
    obtain ⟨h1, h2⟩ := P_same n [] ys (by simp only [List.length_nil]; omega)
    simp only [P]
    refine ⟨by rw [same_come, h1]; rfl, ?_⟩
    rw [same_come, List.length_cons, List.length_cons, List.length_nil]
    rw [List.length_nil] at h2
    omega
  | n + 1, x :: xs, [], h => by
    simp only [List.length_cons, List.length_nil] at h
    obtain ⟨h1, h2⟩ := P_same n xs [] (by simp only [List.length_nil]; omega)
    simp only [P]
    refine ⟨by rw [same_goes, h1, G_nil', G_nil'], ?_⟩
    rw [same_goes, List.length_cons, List.length_cons, List.length_nil]
    rw [List.length_nil] at h2
    omega
  | n + 1, x :: xs, y :: ys, h => by
    simp only [List.length_cons] at h
    simp only [P]
    rw [G_cons]
    by_cases e : eqB x y = true
    · obtain ⟨h1, h2⟩ := P_same n xs ys (by omega)
      rw [if_pos e, if_pos e]
      refine ⟨by rw [same_stay, h1], ?_⟩
      rw [same_stay, List.length_cons, List.length_cons, List.length_cons]
      omega
    · rw [if_neg e, if_neg e]
      by_cases g : max (G xs (y :: ys)) (G (x :: xs) ys) = G xs (y :: ys)
      · obtain ⟨h1, h2⟩ := P_same n xs (y :: ys) (by simp only [List.length_cons]; omega)
        rw [if_pos g]
        refine ⟨by rw [same_goes, h1, g], ?_⟩
        rw [same_goes, List.length_cons, List.length_cons (a := x)]
        omega
      · obtain ⟨h1, h2⟩ := P_same n (x :: xs) ys (by simp only [List.length_cons]; omega)
        rw [if_neg g]
        refine ⟨by rw [same_come, h1]; omega, ?_⟩
        rw [same_come, List.length_cons, List.length_cons (a := y)]
        omega
theorem path_same (a b : List T) : same (path a b) = G a b := (P_same _ a b (Nat.le_refl _)).1
theorem path_length (a b : List T) : (path a b).length + G a b = a.length + b.length := by
  have h := (P_same _ a b (Nat.le_refl _)).2
  have h1 := path_same a b
  unfold path at h1 ⊢
  omega
/-! ### at places of the rows -/
open Go.Proofs.YtcnlcmkhfdpidaaW.PrintWords in
/-- The text at a place. -/
def rt (l : List T) (i : Nat) : T := rdOf ByteArray.empty l (i : Int)
theorem rt_get {l : List T} {i : Nat} (h : i < l.length) : rt l i = l[i] := by
  unfold rt Go.Proofs.YtcnlcmkhfdpidaaW.PrintWords.rdOf
  rw [List.getD_eq_getElem?_getD, Int.toNat_natCast, List.getElem?_eq_getElem h]
  rfl
theorem drop_at {l : List T} {i : Nat} (h : i < l.length) : l.drop i = rt l i :: l.drop (i + 1) := by
  rw [rt_get h]
  exact List.drop_eq_getElem_cons h
theorem drop_out {l : List T} {i : Nat} (h : ¬ i < l.length) : l.drop i = [] := List.drop_eq_nil_of_le (by omega)
section
variable {a b : List T} {x y m : Nat}
theorem G_at (hx : x < a.length) (hy : y < b.length) : G (a.drop x) (b.drop y) = if eqB (rt a x) (rt b y) then G (a.drop (x + 1)) (b.drop (y + 1)) + 1 else max (G (a.drop (x + 1)) (b.drop y)) (G (a.drop x) (b.drop (y + 1))) := by
  rw [drop_at hx, drop_at hy, G_cons]
theorem G_out (h : ¬ x < a.length) : G (a.drop x) (b.drop y) = 0 := by rw [drop_out h]; rfl
theorem G_out' (h : ¬ y < b.length) : G (a.drop x) (b.drop y) = 0 := by rw [drop_out h]; exact G_nil' _
theorem P_stay (hx : x < a.length) (hy : y < b.length) (e : eqB (rt a x) (rt b y) = true) : P (m + 1) (a.drop x) (b.drop y) = (1, 1) :: P m (a.drop (x + 1)) (b.drop (y + 1)) := by
  rw [drop_at hx, drop_at hy]
  simp only [P]
  rw [if_pos e]
theorem P_goes (hx : x < a.length) (e : ¬ (y < b.length ∧ eqB (rt a x) (rt b y) = true)) (g : G (a.drop x) (b.drop y) = G (a.drop (x + 1)) (b.drop y)) : P (m + 1) (a.drop x) (b.drop y) = (1, 0) :: P m (a.drop (x + 1)) (b.drop y) := by
  by_cases hy : y < b.length
  · rw [drop_at hx, drop_at hy] at g ⊢
    simp only [P]
    rw [if_neg (fun q => e ⟨hy, q⟩), if_pos g]
  · rw [drop_at hx, drop_out hy]
    rfl
theorem P_come (hy : y < b.length) (e : ¬ (x < a.length ∧ eqB (rt a x) (rt b y) = true)) (g : ¬ (x < a.length ∧ G (a.drop x) (b.drop y) = G (a.drop (x + 1)) (b.drop y))) : P (m + 1) (a.drop x) (b.drop y) = (0, 1) :: P m (a.drop x) (b.drop (y + 1)) := by
  by_cases hx : x < a.length
  · have g' : ¬ G (a.drop x) (b.drop y) = G (a.drop (x + 1)) (b.drop y) := fun q => g ⟨hx, q⟩
    rw [drop_at hx, drop_at hy] at g' ⊢
    simp only [P]
    rw [if_neg (fun q => e ⟨hx, q⟩), if_neg g']
  · rw [drop_at hy, drop_out hx]
    rfl
theorem P_done (hx : ¬ x < a.length) (hy : ¬ y < b.length) : P m (a.drop x) (b.drop y) = [] := by
  rw [drop_out hx, drop_out hy]
  cases m <;> rfl
end
/-- A step is one of three. -/
def IsStep (s : Stp) : Prop := s = (1, 1) ∨ s = (1, 0) ∨ s = (0, 1)
theorem IsStep.le {s : Stp} (h : IsStep s) : s.1 ≤ 1 ∧ s.2 ≤ 1 := by
  rcases h with rfl | rfl | rfl <;> decide
theorem P_steps : ∀ n (a b : List T), ∀ s ∈ P n a b, IsStep s
  | 0, _, _, s, h => by simp [P] at h
  | n + 1, [], [], s, h => by simp [P] at h
  | n + 1, [], y :: ys, s, h => by
    simp only [P] at h
    rcases List.mem_cons.1 h with h | h
    · exact .inr (.inr h)
    · exact P_steps n [] ys s h
  | n + 1, x :: xs, [], s, h => by
    simp only [P] at h
    rcases List.mem_cons.1 h with h | h
    · exact .inr (.inl h)
    · exact P_steps n xs [] s h
  | n + 1, x :: xs, y :: ys, s, h => by
    simp only [P] at h
    split at h
    · rcases List.mem_cons.1 h with h | h
      · exact .inl h
      · exact P_steps n xs ys s h
    · split at h
      · rcases List.mem_cons.1 h with h | h
        · exact .inr (.inl h)
        · exact P_steps n xs (y :: ys) s h
      · rcases List.mem_cons.1 h with h | h
        · exact .inr (.inr h)
        · exact P_steps n (x :: xs) ys s h
theorem path_steps (a b : List T) : ∀ s ∈ path a b, IsStep s := P_steps _ a b
/-- Where a path comes to. -/
def px (p : List Stp) (i : Nat) : Nat := ((p.take i).map Prod.fst).sum
def py (p : List Stp) (i : Nat) : Nat := ((p.take i).map Prod.snd).sum
theorem px_cons (s : Stp) (p : List Stp) (i : Nat) : px (s :: p) (i + 1) = s.1 + px p i := by simp [px]
theorem py_cons (s : Stp) (p : List Stp) (i : Nat) : py (s :: p) (i + 1) = s.2 + py p i := by simp [py]
/-- A path of these rows. -/
def Fits (a b : List T) : Nat → Nat → List Stp → Prop
  | x, y, [] => x = a.length ∧ y = b.length
  | x, y, s :: p => (s = (1, 1) → x < a.length ∧ y < b.length ∧ eqB (rt a x) (rt b y) = true) ∧ x + s.1 ≤ a.length ∧ y + s.2 ≤ b.length ∧ Fits a b (x + s.1) (y + s.2) p
theorem P_fits (a b : List T) : ∀ n x y, x ≤ a.length → y ≤ b.length → (a.length - x) + (b.length - y) ≤ n → Fits a b x y (P n (a.drop x) (b.drop y))
  | 0, x, y, hx, hy, h => ⟨by omega, by omega⟩
  | n + 1, x, y, hx, hy, h => by
    by_cases ax : x < a.length
    · by_cases e : y < b.length ∧ eqB (rt a x) (rt b y) = true
      · rw [P_stay ax e.1 e.2]
        exact ⟨fun _ => ⟨ax, e.1, e.2⟩, by omega, by omega, P_fits a b n (x + 1) (y + 1) (by omega) (by omega) (by omega)⟩
      · by_cases g : G (a.drop x) (b.drop y) = G (a.drop (x + 1)) (b.drop y)
        · rw [P_goes ax e g]
          exact ⟨fun q => absurd q (by decide), by omega, by omega, P_fits a b n (x + 1) y (by omega) (by omega) (by omega)⟩
        · have hy2 : y < b.length := by
            rcases Nat.lt_or_ge y b.length with q | q
            · exact q
            · rw [G_out' (by omega), G_out' (by omega)] at g
              exact absurd rfl g
          rw [P_come hy2 (fun q => e ⟨hy2, q.2⟩) (fun q => g q.2)]
          exact ⟨fun q => absurd q (by decide), by omega, by omega, P_fits a b n x (y + 1) (by omega) (by omega) (by omega)⟩
    · by_cases ay : y < b.length
      · rw [P_come ay (fun q => ax q.1) (fun q => ax q.1)]
        exact ⟨fun q => absurd q (by decide), by omega, by omega, P_fits a b n x (y + 1) (by omega) (by omega) (by omega)⟩
      · rw [P_done ax ay]
        exact ⟨by omega, by omega⟩
theorem path_fits (a b : List T) : Fits a b 0 0 (path a b) := P_fits a b _ 0 0 (Nat.zero_le _) (Nat.zero_le _) (by omega)
theorem Fits.at_ {a b : List T} : ∀ {p : List Stp} {x y : Nat}, x ≤ a.length → y ≤ b.length → Fits a b x y p → ∀ i, i ≤ p.length → x + px p i ≤ a.length ∧ y + py p i ≤ b.length ∧ ∀ s, p[i]? = some s → s = (1, 1) → x + px p i < a.length ∧ y + py p i < b.length ∧ eqB (rt a (x + px p i)) (rt b (y + py p i)) = true
  | [], x, y, hx, hy, h, i, hi => by
    have : i = 0 := by simpa using hi
    subst this
    exact ⟨hx, hy, fun s hs => by simp at hs⟩
  | s :: p, x, y, hx, hy, h, 0, hi => ⟨hx, hy, fun s' hs e => by
      simp at hs
      subst hs
      exact h.1 e⟩
  | s :: p, x, y, hx, hy, h, i + 1, hi => by
    have ih := Fits.at_ h.2.1 h.2.2.1 h.2.2.2 i (by simpa using hi)
    rw [px_cons, py_cons, ← Nat.add_assoc, ← Nat.add_assoc]
    exact ⟨ih.1, ih.2.1, fun s' hs e => ih.2.2 s' (by simpa using hs) e⟩
theorem Fits.end_ {a b : List T} : ∀ {p : List Stp} {x y : Nat}, Fits a b x y p → x + px p p.length = a.length ∧ y + py p p.length = b.length
  | [], x, y, h => h
  | s :: p, x, y, h => by
    have ih := Fits.end_ h.2.2.2
    rw [List.length_cons, px_cons, py_cons, ← Nat.add_assoc, ← Nat.add_assoc]
    exact ih
/-! ### what comes; what it makes -/
def app : List T → List Stp → List T → Option (List T)
  | a, [], c => if a.length + c.length > 0 then none else some []
  | a, s :: p, c => if s = (1, 1) ∧ 0 < a.length then (app a.tail p c).map (fun r => rt a 0 :: r) else if s = (1, 0) ∧ 0 < a.length then app a.tail p c else if s = (0, 1) ∧ 0 < c.length then (app a p c.tail).map (fun r => rt c 0 :: r) else none
def cms (b : List T) : Nat → List Stp → List T
  | _, [] => []
  | y, s :: p => if s = (0, 1) ∧ y < b.length then rt b y :: cms b (y + s.2) p else cms b (y + s.2) p
theorem drop_tail (l : List T) (x : Nat) : (l.drop x).tail = l.drop (x + 1) := by rw [List.tail_drop]
theorem rt_drop {l : List T} {x : Nat} (h : x < l.length) : rt (l.drop x) 0 = rt l x := by
  rw [rt_get (by rw [List.length_drop]; omega), rt_get h]
  simp
theorem app_stay {a c : List T} {p : List Stp} (h : 0 < a.length) : app a ((1, 1) :: p) c = (app a.tail p c).map (fun r => rt a 0 :: r) := if_pos ⟨rfl, h⟩
theorem app_goes {a c : List T} {p : List Stp} (h : 0 < a.length) : app a ((1, 0) :: p) c = app a.tail p c := by
  have q : ¬ (((1, 0) : Stp) = (1, 1) ∧ 0 < a.length) := fun q => absurd q.1 (by decide)
  exact (if_neg q).trans (if_pos ⟨rfl, h⟩)
theorem app_come {a c : List T} {p : List Stp} (h : 0 < c.length) : app a ((0, 1) :: p) c = (app a p c.tail).map (fun r => rt c 0 :: r) := by
  have q : ¬ (((0, 1) : Stp) = (1, 1) ∧ 0 < a.length) := fun q => absurd q.1 (by decide)
  have q2 : ¬ (((0, 1) : Stp) = (1, 0) ∧ 0 < a.length) := fun q => absurd q.1 (by decide)
  exact (if_neg q).trans ((if_neg q2).trans (if_pos ⟨rfl, h⟩))
theorem cms_come {b : List T} {y : Nat} {p : List Stp} (h : y < b.length) : cms b y ((0, 1) :: p) = rt b y :: cms b (y + 1) p := if_pos ⟨rfl, h⟩
theorem cms_stay {b : List T} {y : Nat} {p : List Stp} : cms b y ((1, 1) :: p) = cms b (y + 1) p := if_neg (fun q => absurd q.1 (by decide))
theorem cms_goes {b : List T} {y : Nat} {p : List Stp} : cms b y ((1, 0) :: p) = cms b y p := if_neg (fun q => absurd q.1 (by decide))
theorem P_makes (a b : List T) : ∀ (p : List Stp) x y, (∀ s ∈ p, IsStep s) → x ≤ a.length → y ≤ b.length → Fits a b x y p → app (a.drop x) p (cms b y p) = some (b.drop y) ∧ (cms b y p).length + same p = b.length - y
  | [], x, y, _, hx, hy, h => by
    obtain ⟨h1, h2⟩ := h
    subst h1 h2
    rw [drop_out (Nat.lt_irrefl _), drop_out (Nat.lt_irrefl _), Nat.sub_self]
    exact ⟨rfl, rfl⟩
  | s :: p, x, y, hs, hx, hy, h => by
    obtain ⟨h1, h2, h3, h4⟩ := h
    obtain ⟨ih1, ih2⟩ := P_makes a b p (x + s.1) (y + s.2) (fun t ht => hs t (List.mem_cons_of_mem _ ht)) h2 h3 h4
    rcases hs s List.mem_cons_self with rfl | rfl | rfl
    · obtain ⟨k1, k2, k3⟩ := h1 rfl
      have ih1' : app (a.drop (x + 1)) p (cms b (y + 1) p) = some (b.drop (y + 1)) := ih1
      have ih2' : (cms b (y + 1) p).length + same p = b.length - (y + 1) := ih2
      rw [cms_stay, app_stay (by rw [List.length_drop]; omega), drop_tail, same_stay, rt_drop k1, eqB_iff.1 k3, ih1', drop_at k2]
      exact ⟨rfl, by omega⟩
    · have h2' : x + 1 ≤ a.length := h2
      rw [cms_goes, app_goes (by rw [List.length_drop]; omega), drop_tail, same_goes]
      exact ⟨ih1, ih2⟩
    · have h3' : y + 1 ≤ b.length := h3
      have ih1' : app (a.drop x) p (cms b (y + 1) p) = some (b.drop (y + 1)) := ih1
      have ih2' : (cms b (y + 1) p).length + same p = b.length - (y + 1) := ih2
      rw [cms_come (by omega), app_come (by rw [List.length_cons]; omega), List.tail_cons, ih1', same_come, drop_at (show y < b.length by omega), List.length_cons]
      exact ⟨rfl, by omega⟩
theorem path_makes (a b : List T) : app a (path a b) (cms b 0 (path a b)) = some b ∧ (cms b 0 (path a b)).length + G a b = b.length := by
  have h := P_makes a b (path a b) 0 0 (path_steps a b) (Nat.zero_le _) (Nat.zero_le _) (path_fits a b)
  rw [path_same] at h
  exact h
end Go.Proofs.Ytcnlcmkhfdpidaa.Grid
