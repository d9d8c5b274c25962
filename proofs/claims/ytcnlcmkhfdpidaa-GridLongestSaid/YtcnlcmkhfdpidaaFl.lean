/- Small whole numbers as floats, and the complex numbers that they make: sums, comparisons, conversions. No condition. -/
import Derived.Test.YtcnlcmkhfdpidaaQx1
import Derived.Laws.ComplexArith
namespace Go.Proofs.Ytcnlcmkhfdpidaa.Grid
set_option linter.unusedVariables false
set_option linter.unusedSimpArgs false
open Go.RowKit
/-- The float of a whole number. -/
def fl (n : Nat) : Nat := FloatKind.f64.nearest (n : Int)
def NN : Nat := 70
def addB (n : Nat) : Bool := (floatBits .add .f64 (fl n) (fl 1) == some (fl (n + 1))) && (floatBits .add .f64 (fl n) (fl 0) == some (fl n)) && (floatBits .sub .f64 (fl (n + 1)) (fl n) == some (fl 1)) && (floatBits .sub .f64 (fl n) (fl n) == some (fl 0))
def ordB (n m : Nat) : Bool := FloatKind.f64.format.order (fl n) (fl m) == some (compare n m)
def intB (n : Nat) : Bool := (FloatKind.f64.decode (fl n)).toInt .zero == some (n : Int)
theorem add_tab : (List.range 70).all addB = true := by kernel_rfl
theorem ord_tab : (List.range 70).all (fun n => (List.range 70).all (ordB n)) = true := by kernel_rfl
theorem int_tab : (List.range 70).all intB = true := by kernel_rfl
theorem fl_zero : fl 0 = 0 := by kernel_rfl
theorem fl_one : fl 1 = 4607182418800017408 := by kernel_rfl
theorem all_at {p : Nat → Bool} {n : Nat} (h : (List.range n).all p = true) (i : Nat) (hi : i < n) : p i = true := List.all_eq_true.1 h i (List.mem_range.2 hi)
theorem add_one {n : Nat} (h : n < 70) : floatBits .add .f64 (fl n) (fl 1) = some (fl (n + 1)) := by
  have h1 := all_at add_tab n h
  simp only [addB, Bool.and_eq_true, beq_iff_eq] at h1
  exact h1.1.1.1
theorem add_nil {n : Nat} (h : n < 70) : floatBits .add .f64 (fl n) (fl 0) = some (fl n) := by
  have h1 := all_at add_tab n h
  simp only [addB, Bool.and_eq_true, beq_iff_eq] at h1
  exact h1.1.1.2
theorem sub_one {n : Nat} (h : n < 70) : floatBits .sub .f64 (fl (n + 1)) (fl n) = some (fl 1) := by
  have h1 := all_at add_tab n h
  simp only [addB, Bool.and_eq_true, beq_iff_eq] at h1
  exact h1.1.2
theorem sub_nil {n : Nat} (h : n < 70) : floatBits .sub .f64 (fl n) (fl n) = some (fl 0) := by
  have h1 := all_at add_tab n h
  simp only [addB, Bool.and_eq_true, beq_iff_eq] at h1
  exact h1.2
theorem order_at {n m : Nat} (h : n < 70) (h' : m < 70) : FloatKind.f64.format.order (fl n) (fl m) = some (compare n m) := by
  have h1 := all_at (all_at ord_tab n h) m h'
  simpa [ordB] using h1
theorem toInt_at {n : Nat} (h : n < 70) : (FloatKind.f64.decode (fl n)).toInt .zero = some (n : Int) := by
  have h1 := all_at int_tab n h
  simpa [intB] using h1
/-- A step's part. -/
theorem add_part {n a : Nat} (h : n < 70) (ha : a ≤ 1) : floatBits .add .f64 (fl n) (fl a) = some (fl (n + a)) := by
  match a, ha with
  | 0, _ => exact add_nil h
  | 1, _ => exact add_one h
theorem sub_part {n a : Nat} (h : n < 70) (ha : a ≤ 1) : floatBits .sub .f64 (fl (n + a)) (fl n) = some (fl a) := by
  match a, ha with
  | 0, _ => exact sub_nil h
  | 1, _ => exact sub_one h
theorem run_add {x y a b : Nat} (hx : x < 70) (hy : y < 70) (ha : a ≤ 1) (hb : b ≤ 1) (t : TypeId) (w : World) :
    (binOp .add t (.complex .f64 (fl x) (fl y)) (.complex .f64 (fl a) (fl b))).run Try.prog w = .ok (.complex .f64 (fl (x + a)) (fl (y + b))) w :=
  run_complex_sum w .add (.inl rfl) t .f64 _ _ _ _ _ _ (by unfold cSumBits; rw [add_part hx ha, add_part hy hb]; rfl)
theorem run_sub {x y a b : Nat} (hx : x < 70) (hy : y < 70) (ha : a ≤ 1) (hb : b ≤ 1) (t : TypeId) (w : World) :
    (binOp .sub t (.complex .f64 (fl (x + a)) (fl (y + b))) (.complex .f64 (fl x) (fl y))).run Try.prog w = .ok (.complex .f64 (fl a) (fl b)) w :=
  run_complex_sum w .sub (.inr rfl) t .f64 _ _ _ _ _ _ (by unfold cSumBits; rw [sub_part hx ha, sub_part hy hb]; rfl)
theorem cmp_eq (n m : Nat) : ((some (compare n m) : Option Ordering) == some .eq) = decide (n = m) := by
  rcases Nat.lt_trichotomy n m with h | h | h
  · rw [Nat.compare_eq_lt.2 h, decide_eq_false (by omega)]; rfl
  · rw [Nat.compare_eq_eq.2 h, decide_eq_true h]; rfl
  · rw [Nat.compare_eq_gt.2 h, decide_eq_false (by omega)]; rfl
theorem cmp_lt (n m : Nat) : ((some (compare n m) : Option Ordering) == some .lt) = decide (n < m) := by
  rcases Nat.lt_trichotomy n m with h | h | h
  · rw [Nat.compare_eq_lt.2 h, decide_eq_true h]; rfl
  · rw [Nat.compare_eq_eq.2 h, decide_eq_false (by omega)]; rfl
  · rw [Nat.compare_eq_gt.2 h, decide_eq_false (by omega)]; rfl
theorem cmp_lt' (n m : Nat) : (compare n m == Ordering.lt) = decide (n < m) := by
  rcases Nat.lt_trichotomy n m with h | h | h
  · rw [Nat.compare_eq_lt.2 h, decide_eq_true h]; rfl
  · rw [Nat.compare_eq_eq.2 h, decide_eq_false (by omega)]; rfl
  · rw [Nat.compare_eq_gt.2 h, decide_eq_false (by omega)]; rfl
theorem cmp_ge (n : Nat) : (((some (compare n 0) : Option Ordering) == some .gt) || ((some (compare n 0) : Option Ordering) == some .eq)) = true := by
  rcases Nat.lt_trichotomy n 0 with h | h | h
  · omega
  · rw [Nat.compare_eq_eq.2 h]; rfl
  · rw [Nat.compare_eq_gt.2 h]; rfl
def same2 (x y a b : Nat) : Bool := decide (x = a) && decide (y = b)
theorem run_eql {x y a b : Nat} (hx : x < 70) (hy : y < 70) (ha : a < 70) (hb : b < 70) (t : TypeId) (w : World) :
    (binOp .eql t (.complex .f64 (fl x) (fl y)) (.complex .f64 (fl a) (fl b))).run Try.prog w = .ok (.bool (same2 x y a b)) w := by
  rw [run_eql_complex, order_at hx ha, order_at hy hb, cmp_eq, cmp_eq]
  rfl
theorem run_neq {x y a b : Nat} (hx : x < 70) (hy : y < 70) (ha : a < 70) (hb : b < 70) (t : TypeId) (w : World) :
    (binOp .neq t (.complex .f64 (fl x) (fl y)) (.complex .f64 (fl a) (fl b))).run Try.prog w = .ok (.bool (!same2 x y a b)) w := by
  rw [run_neq_complex, order_at hx ha, order_at hy hb, cmp_eq, cmp_eq]
  rfl
theorem run_int {n : Nat} (h : n < 70) (w : World) : (convert 35 3 (.float .f64 (fl n))).run Try.prog w = .ok (.int .i64 (n : Int)) w := by
  have h1 := toInt_at h
  simp [convert, run_underlying Try.underlying35, run_underlying Try.underlying3, Conv.floatToInt, h1]
  intro h2
  have h3 : IntKind.i64.min ≤ (n : Int) := by show (-9223372036854775808 : Int) ≤ n; omega
  have := h2 h3
  omega
theorem run_float (n : Nat) (w : World) : (convert 3 35 (.int .i64 (n : Int))).run Try.prog w = .ok (.float .f64 (fl n)) w := by
  simp [convert, run_underlying Try.underlying35, run_underlying Try.underlying3, Conv.intToFloat, fl]
theorem run_geq {n : Nat} (h : n < 70) (t : TypeId) (w : World) : (binOp .geq t (.float .f64 (fl n)) (.float .f64 0)).run Try.prog w = .ok (.bool true) w := by
  have h1 := order_at h (show 0 < 70 by decide)
  rw [fl_zero] at h1
  have h2 := cmp_ge n
  simp [binOp, Op.floatCmp, h1]
  rcases Nat.eq_zero_or_pos n with h | h
  · exact .inr h
  · exact .inl (Nat.compare_eq_gt.2 h)
theorem run_lss {n m : Nat} (h : n < 70) (h' : m < 70) (t : TypeId) (w : World) : (binOp .lss t (.float .f64 (fl n)) (.float .f64 (fl m))).run Try.prog w = .ok (.bool (decide (n < m))) w := by
  have h1 := order_at h h'
  have h2 := cmp_lt n m
  simp [binOp, Op.floatCmp, h1]
  exact cmp_lt' n m
end Go.Proofs.Ytcnlcmkhfdpidaa.Grid
