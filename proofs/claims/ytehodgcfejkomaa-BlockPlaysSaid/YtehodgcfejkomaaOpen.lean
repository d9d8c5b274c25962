/- Rows of bools and of acts that came in, as the contracts want them. No condition. -/
import Derived.Test.YtehodgcfejkomaaQx0
import Derived.Deep.Grids
import Derived.SizedLaws
import Derived.ProofKit
import Derived.OpenShut
namespace Go.Proofs.Ytehodgcfejkomaa.Open
set_option linter.unusedVariables false
set_option linter.unusedSimpArgs false
open Go.ChangeShapes Go.WideShapes Go.Deep Go.Proofs.YtehodgcfejkomaaW.PrintWords Go.Proofs.Ytehodgcfejkomaa.Q
section
variable {H : Type} {enc : TypeId × Value → H} {W : World} {base : Nat} {held : Bool} {a : Option Addr} {len cap : Nat} {d : DataW H} {ps : List MemPlace}
theorem bools_open {P : Program} {t e : TypeId} (ht : P.underlying t = some (.slice e)) (he : P.underlying e = some .bool) (hc : P.cellsOf e = 1) (h : DataW.Trod enc P W base (fun _ => true) held t (.slice a len cap) d ps) :
    ∃ l : List Bool, len = l.length ∧ l.length ≤ cap ∧ Kd.C Kd.bool W a l.length l ∧ l.length ≤ 9223372036854775807 := by
  obtain ⟨fuel, hf⟩ := h
  rcases open_bools ht he hc hf with ⟨hcs, _⟩ | ⟨x, n, c, B, hcs, _, hl, hm, hx, hcell⟩
  · simp [Value.cells] at hcs
    obtain ⟨rfl, rfl, rfl⟩ := hcs
    exact ⟨[], rfl, Nat.zero_le _, ⟨rfl, Nat.zero_le _, fun h => absurd h (by simp)⟩, Nat.zero_le _⟩
  · simp [Value.cells] at hcs
    obtain ⟨rfl, rfl, rfl⟩ := hcs
    have htl : ((List.range len).map B).length = len := by simp
    unfold maxLen at hm
    refine ⟨(List.range len).map B, htl.symm, by omega, ?_, by omega⟩
    refine ⟨rfl, by omega, fun _ => ⟨x, rfl, fun j p hj => ⟨[.bool p], rfl, rfl, fun i u hu => ?_⟩⟩⟩
    have hjl : j < len := by have := (List.getElem?_eq_some_iff.1 hj).1; omega
    cases i with
    | succ i => simp at hu
    | zero =>
      obtain rfl : .bool p = u := by simpa using hu
      have hp : B j = p := by simpa [hjl] using hj
      rw [show Kd.bool.sz = 1 from rfl, Nat.mul_one, Nat.add_zero, hcell j (by omega), hp]
/-- An act's numbers are of their kinds. -/
structure ActOk (x : S33) : Prop where
  kind : (Lit.int .i64 x.f0).wf = true
  at_ : (Lit.int .i64 x.f1).wf = true
  ca : (Lit.int .i64 x.f3.f0).wf = true
  ck : (Lit.int .u64 x.f3.f1).wf = true
theorem act_open {spare : Nat → Bool} {n : Nat} {cs : List Value} {y : DataW H × List MemPlace} (h : DataW.trod enc Try.prog W base spare held n 33 cs = some y) :
    ∃ s : S33, cs = [.int .i64 s.f0, .int .i64 s.f1, .string s.f2, .int .i64 s.f3.f0, .int .u64 s.f3.f1] ∧ ActOk s := by
  obtain ⟨xs, n1, _, _, hl, hxl, hf⟩ := DataW.trod_struct Try.underlying33 h
  have c33 : Try.prog.cellsOf 33 = 5 := by kernel_rfl
  have c31 : Try.prog.cellsOf 31 = 2 := by kernel_rfl
  have c3 : Try.prog.cellsOf 3 = 1 := by kernel_rfl
  have c9 : Try.prog.cellsOf 9 = 1 := by kernel_rfl
  have c23 : Try.prog.cellsOf 23 = 1 := by kernel_rfl
  rw [c33] at hl
  match cs, hl with
  | [v0, v1, v2, v3, v4], _ =>
    match xs, hxl with
    | [y0, y1, y2, y3], _ =>
      have g0 : DataW.trod enc Try.prog W base spare held n1 3 [v0] = some y0 := by have := hf 0 _ rfl; simpa [c3] using this
      have g1 : DataW.trod enc Try.prog W base spare held n1 3 [v1] = some y1 := by have := hf 1 _ rfl; simpa [c3] using this
      have g2 : DataW.trod enc Try.prog W base spare held n1 9 [v2] = some y2 := by have := hf 2 _ rfl; simpa [c9] using this
      have g3 : DataW.trod enc Try.prog W base spare held n1 31 [v3, v4] = some y3 := by have := hf 3 _ rfl; simpa [c31] using this
      obtain ⟨a0, e0, _, w0⟩ := DataW.trod_int Try.underlying3 g0
      obtain ⟨a1, e1, _, w1⟩ := DataW.trod_int Try.underlying3 g1
      obtain ⟨a2, e2, _, _⟩ := DataW.trod_string Try.underlying9 g2
      obtain ⟨zs, n2, _, _, hl2, hzl, hk⟩ := DataW.trod_struct Try.underlying31 g3
      match zs, hzl with
      | [z0, z1], _ =>
        have k0 : DataW.trod enc Try.prog W base spare held n2 3 [v3] = some z0 := by have := hk 0 _ rfl; simpa [c3] using this
        have k1 : DataW.trod enc Try.prog W base spare held n2 23 [v4] = some z1 := by have := hk 1 _ rfl; simpa [c23] using this
        obtain ⟨a3, e3, _, w3⟩ := DataW.trod_int Try.underlying3 k0
        obtain ⟨a4, e4, _, w4⟩ := DataW.trod_int Try.underlying23 k1
        simp at e0 e1 e2 e3 e4
        subst e0 e1 e2 e3 e4
        exact ⟨⟨a0, a1, a2, ⟨a3, a4⟩⟩, rfl, w0, w1, w3, w4⟩
theorem acts_open (h : DataW.Trod enc Try.prog W base (fun _ => true) held 22 (.slice a len cap) d ps) :
    ∃ l : List S33, len = l.length ∧ l.length ≤ cap ∧ Kd.C k33 W a l.length l ∧ l.length ≤ 9223372036854775807 ∧ ∀ x ∈ l, ActOk x := by
  obtain ⟨fuel, hf⟩ := h
  have c33 : Try.prog.cellsOf 33 = 5 := by kernel_rfl
  rcases open_slice Try.underlying22 hf with ⟨hcs, _⟩ | ⟨x, n, c, m, k, D, Pl, hcs, _, hl, hm, hmm, hx, hi⟩
  · simp [Value.cells] at hcs
    obtain ⟨rfl, rfl, rfl⟩ := hcs
    exact ⟨[], rfl, Nat.zero_le _, ⟨rfl, Nat.zero_le _, fun h => absurd h (by simp)⟩, Nat.zero_le _, by simp⟩
  · simp [Value.cells] at hcs
    obtain ⟨rfl, rfl, rfl⟩ := hcs
    simp only [if_true] at hmm
    subst hmm
    rw [c33] at hi
    have hinh : Inhabited S33 := ⟨z33⟩
    obtain ⟨S, hS⟩ := choose_lt (α := S33) (n := len) (p := fun i s => (∀ j u, [Value.int .i64 s.f0, .int .i64 s.f1, .string s.f2, .int .i64 s.f3.f0, .int .u64 s.f3.f1][j]? = some u → W.cell? (x.add (i * 5 + j)) = some u) ∧ ActOk s) (fun i hi' => by
      obtain ⟨cs', hc, ht'⟩ := hi i (by omega)
      obtain ⟨s, rfl, hs⟩ := act_open ht'
      obtain ⟨_, hcl, hat⟩ := World.cells?_some hc
      refine ⟨s, fun j u hj => ?_, hs⟩
      have hjl : j < 5 := (List.getElem?_eq_some_iff.1 hj).1
      have hcell := hat j hjl
      rw [← Go.Deep.add_add, hcell, hj])
    have htl : ((List.range len).map S).length = len := by simp
    unfold maxLen at hm
    refine ⟨(List.range len).map S, htl.symm, by omega, ?_, by omega, ?_⟩
    · refine ⟨rfl, by omega, fun _ => ⟨x, rfl, fun j p hj => ⟨_, rfl, k33_mk W p, fun i u hu => ?_⟩⟩⟩
      have hjl : j < len := by have := (List.getElem?_eq_some_iff.1 hj).1; omega
      have hp : S j = p := by simpa [hjl] using hj
      rw [show k33.sz = 5 from rfl]
      exact (hS j hjl).1 i u (by rw [hp]; exact hu)
    · intro p hp
      obtain ⟨i, hi', rfl⟩ := List.mem_map.1 hp
      exact (hS i (List.mem_range.1 hi')).2
end
end Go.Proofs.Ytehodgcfejkomaa.Open
