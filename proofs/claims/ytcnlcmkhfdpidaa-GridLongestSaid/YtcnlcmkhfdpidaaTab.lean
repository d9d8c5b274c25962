/- The table of Path: 257 rows of 257 small numbers, as it is made. -/
import Derived.Test.YtcnlcmkhfdpidaaSteps
namespace Go.Proofs.Ytcnlcmkhfdpidaa.Grid
set_option linter.unusedVariables false
open Go.RowKit Go.Proofs.Ytcnlcmkhfdpidaa.Q Go.Proofs.YtcnlcmkhfdpidaaW.PrintWords Go.Proofs.YtcnlcmkhfdpidaaW.PrintMore
noncomputable def z43 : Value := ((Try.prog.info? 43).bind (·.zero)).getD undef
def isZ : Value → Bool
  | .int .i16 0 => true
  | _ => false
theorem isZ_eq {v : Value} (h : isZ v = true) : v = .int .i16 0 := by
  unfold isZ at h
  split at h
  · rfl
  · exact absurd h (by simp)
def allZ : Nat → List Value → Bool
  | 0, l => l.isEmpty
  | n + 1, [] => false
  | n + 1, v :: l => match isZ v with
    | true => allZ n l
    | false => false
theorem allZ_eq : ∀ n l, allZ n l = true → l = List.replicate n (.int .i16 0)
  | 0, [], _ => rfl
  | 0, _ :: _, h => by simp [allZ] at h
  | n + 1, [], h => by simp [allZ] at h
  | n + 1, v :: l, h => by
    cases hv : isZ v with
    | true =>
      simp only [allZ, hv] at h
      rw [isZ_eq hv, allZ_eq _ _ h]
      rfl
    | false => simp [allZ, hv] at h
set_option maxRecDepth 1000000 in
theorem z43_cells : z43.cells.toList = List.replicate 66049 (.int .i16 0) := allZ_eq _ _ (by kernel_rfl)
theorem z43_some : ∃ i, Try.prog.info? 43 = some i ∧ i.zero = some z43 := by
  have h1 : ((Try.prog.info? 43).bind (·.zero)).isSome = true := by kernel_rfl
  unfold z43
  cases h : Try.prog.info? 43 with
  | none => rw [h] at h1; exact absurd h1 (by decide)
  | some i =>
    rw [h] at h1
    refine ⟨i, rfl, ?_⟩
    cases h2 : i.zero with
    | none => rw [Option.bind_some, h2] at h1; exact absurd h1 (by decide)
    | some z => rw [Option.bind_some, h2]; rfl
theorem run_alloc_gen {P : Program} {t : TypeId} {i : TypeInfo} {z old : Value} (hi : P.info? t = some i) (hz : i.zero = some z) (w : World) : (Instr.alloc t true old).run P w = .ok (.pointer (some ⟨w.heap.size, 0, none⟩)) (w.alloc (.cells z.cells t)) := by
  simp [Instr.alloc, zeroValue, newVar, run_typeInfo, hi, hz]
  rfl
theorem alloc43 {ops : Array Oper} {rest : List Oper} {o : Oper} {a : Act} {Q : Exit → Act → World → Prop} {W : World} (hgd : o.guard = none) (ho : o.op = .alloc 43) (h : wpList Try.prog ops Q rest (a.put o.dst (.pointer (some ⟨W.heap.size, 0, none⟩))) (W.alloc (.cells z43.cells 43))) : wpList Try.prog ops Q (o :: rest) a W := by
  obtain ⟨i, hi, hz⟩ := z43_some
  refine Kd.event_run hgd ?_ h
  unfold execOp
  rw [ho]
  show ((Next.value <$> Instr.alloc 43 true (.tuple #[])) : Sem Next).run Try.prog W = _
  rw [Sem.run_map, run_alloc_gen hi hz]
  rfl
/-- The table in memory: place (x, y) holds F x y. -/
def Tab (w : World) (g : Nat) (F : Nat → Nat → Nat) : Prop := ∃ cells : Array Value, w.heap[g]? = some (.cells cells 43 (0, 0)) ∧ cells.size = 66049 ∧ ∀ x y, x < 257 → y < 257 → cells[x * 257 + y]? = some (.int .i16 (F x y))
theorem Tab.cell {w : World} {g : Nat} {F : Nat → Nat → Nat} (h : Tab w g F) {x y : Nat} (hx : x < 257) (hy : y < 257) : w.cell? ⟨g, x * 257 + y, none⟩ = some (.int .i16 (F x y)) := by
  obtain ⟨cells, h1, h2, h3⟩ := h
  unfold World.cell?
  rw [h1]
  exact h3 x y hx hy
theorem Tab.lt {w : World} {g : Nat} {F : Nat → Nat → Nat} (h : Tab w g F) : g < w.heap.size := by
  obtain ⟨cells, h1, _⟩ := h
  exact blk_lt h1
theorem Tab.frozen {w : World} {g : Nat} {F : Nat → Nat → Nat} (h : Tab w g F) (k : Nat) : w.frozen? ⟨g, k, none⟩ = false := by
  obtain ⟨cells, h1, _⟩ := h
  exact blk_frozen h1 k
theorem Tab.move {w w' : World} {g : Nat} {F : Nat → Nat → Nat} (h : Tab w g F) (hm : w'.heap[g]? = w.heap[g]?) : Tab w' g F := by
  obtain ⟨cells, h1, h2⟩ := h
  exact ⟨cells, hm.trans h1, h2⟩
theorem Tab.below {w w' : World} {g : Nat} {F : Nat → Nat → Nat} (h : Tab w g F) (hb : Below w.heap.size w w') : Tab w' g F := h.move (hb.block g h.lt)
theorem Tab.set {w : World} {g : Nat} {F : Nat → Nat → Nat} (h : Tab w g F) {x y : Nat} (hx : x < 257) (hy : y < 257) (v : Nat) : Tab (w.setCell ⟨g, x * 257 + y, none⟩ (.int .i16 v)) g (fun i j => if i = x ∧ j = y then v else F i j) := by
  obtain ⟨cells, h1, h2, h3⟩ := h
  refine ⟨cells.setIfInBounds (x * 257 + y) (.int .i16 v), blk_set h1 _ _, by rw [Array.size_setIfInBounds, h2], fun i j hi hj => ?_⟩
  rw [Array.getElem?_setIfInBounds]
  by_cases hk : x * 257 + y = i * 257 + j
  · rw [if_pos hk, if_pos (by omega)]
    show _ = some (Value.int .i16 ((if i = x ∧ j = y then v else F i j : Nat) : Int))
    rw [if_pos (by omega)]
  · rw [if_neg hk, h3 i j hi hj]
    show _ = some (Value.int .i16 ((if i = x ∧ j = y then v else F i j : Nat) : Int))
    rw [if_neg (by omega)]
theorem Tab.new (w : World) : Tab (w.alloc (.cells z43.cells 43)) w.heap.size (fun _ _ => 0) := by
  have hl : z43.cells.size = 66049 := by rw [← Array.length_toList, z43_cells, List.length_replicate]
  refine ⟨z43.cells, blk_new _ _, hl, fun x y hx hy => ?_⟩
  rw [← Array.getElem?_toList, z43_cells, List.getElem?_replicate, if_pos (by omega)]
  rfl
end Go.Proofs.Ytcnlcmkhfdpidaa.Grid
