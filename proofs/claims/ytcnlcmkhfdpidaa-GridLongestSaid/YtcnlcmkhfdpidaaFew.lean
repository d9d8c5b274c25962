/- Few texts; rows of texts compared: what the printed contracts come to. No condition. -/
import Derived.Test.YtcnlcmkhfdpidaaPath
namespace Go.Proofs.Ytcnlcmkhfdpidaa.Grid
set_option linter.unusedVariables false
set_option linter.unusedSimpArgs false
open Go.RowKit Go.Proofs.Ytcnlcmkhfdpidaa.Q Go.Proofs.YtcnlcmkhfdpidaaW.PrintWords
theorem few_from (l : List ByteArray) (hl : l.length ≤ 9223372036854775807) : ∀ d i, i + d = l.length → ∃ k r, snapferrylaw05_few.l0 k l (i : Int) = some r ∧ (r = true → i ≤ 60 → l.length ≤ 60)
  | 0, i, h => ⟨1, true, by simp only [snapferrylaw05_few.l0]; rw [if_neg (by omega)], fun _ _ => by omega⟩
  | d + 1, i, h => by
    by_cases h1 : (i : Int) ≥ 60
    · exact ⟨1, false, by simp only [snapferrylaw05_few.l0]; rw [if_pos (by omega), if_pos h1], fun h => absurd h (by decide)⟩
    · by_cases h2 : ((rdOf ByteArray.empty l (i : Int)).size : Int) > 100
      · exact ⟨1, false, by simp only [snapferrylaw05_few.l0]; rw [if_pos (by omega), if_neg h1, if_pos (by omega), if_pos h2], fun h => absurd h (by decide)⟩
      · obtain ⟨k, r, hk, hr⟩ := few_from l hl d (i + 1) (by omega)
        refine ⟨k + 1, r, ?_, fun e _ => hr e (by omega)⟩
        simp only [snapferrylaw05_few.l0]
        rw [if_pos (by omega), if_neg h1, if_pos (by omega), if_neg h2, show wrap64 ((i : Int) + 1) = ((i + 1 : Nat) : Int) by unfold wrap64; omega, hk]
theorem few_or (l : List ByteArray) (hl : l.length ≤ 9223372036854775807) : (∃ k, snapferrylaw05_few.f k l = some true ∧ l.length ≤ 60) ∨ ∃ k, snapferrylaw05_few.f k l = some false := by
  obtain ⟨k, r, hk, hr⟩ := few_from l hl l.length 0 (by omega)
  cases r with
  | true => exact .inl ⟨k, hk, hr rfl (by omega)⟩
  | false => exact .inr ⟨k, hk⟩
theorem texts_from (a b : List ByteArray) (hl : a.length ≤ 9223372036854775807) (he : a.length = b.length) : ∀ d i, i + d = a.length → ∃ k, snapferryref05_Texts.l0 k a b (i : Int) = some (decide (a.drop i = b.drop i))
  | 0, i, h => ⟨1, by simp only [snapferryref05_Texts.l0]; rw [if_neg (by omega), List.drop_eq_nil_of_le (by omega), List.drop_eq_nil_of_le (by omega)]; simp⟩
  | d + 1, i, h => by
    have ea := drop_at (l := a) (i := i) (by omega)
    have eb := drop_at (l := b) (i := i) (by omega)
    by_cases h2 : (rdOf ByteArray.empty a (i : Int)).toList = (rdOf ByteArray.empty b (i : Int)).toList
    · obtain ⟨k, hk⟩ := texts_from a b hl he d (i + 1) (by omega)
      refine ⟨k + 1, ?_⟩
      have h3 : rt a i = rt b i := toList_inj h2
      simp only [snapferryref05_Texts.l0]
      rw [if_pos (by omega), if_pos (by omega), if_pos (by omega), if_pos h2, show wrap64 ((i : Int) + 1) = ((i + 1 : Nat) : Int) by unfold wrap64; omega, hk, ea, eb, h3]
      simp
    · refine ⟨1, ?_⟩
      have h3 : ¬ rt a i = rt b i := fun e => h2 (by show (rt a i).toList = (rt b i).toList; rw [e])
      simp only [snapferryref05_Texts.l0]
      rw [if_pos (by omega), if_pos (by omega), if_pos (by omega), if_neg h2, ea, eb]
      simp [h3]
theorem texts_or (a b : List ByteArray) (hl : a.length ≤ 9223372036854775807) : ∃ k, snapferryref05_Texts.f k a b = some (decide (a = b)) := by
  by_cases he : a.length = b.length
  · obtain ⟨k, hk⟩ := texts_from a b hl he a.length 0 (by omega)
    refine ⟨k, ?_⟩
    unfold snapferryref05_Texts.f
    rw [if_pos (by omega)]
    exact hk
  · refine ⟨0, ?_⟩
    unfold snapferryref05_Texts.f
    rw [if_neg (by omega), decide_eq_false (fun e => he (by rw [e]))]
theorem Texts (A0 : Option Addr) (c0 : Nat) (l0 : List ByteArray) (A1 : Option Addr) (c1 : Nat) (l1 : List ByteArray) (w : World) (hr0 : Kd.C Kd.string w A0 l0.length l0) (hc0 : l0.length ≤ c0) (hr1 : Kd.C Kd.string w A1 l1.length l1) (hc1 : l1.length ≤ c1) :
    Calls Try.prog 14 #[.slice A0 l0.length c0, .slice A1 l1.length c1] w fun e w' => e = .returned (.bool (decide (l0 = l1))) ∧ Drawn0 w w' := by
  obtain ⟨k, hk⟩ := texts_or l0 l1 hr0.2.1
  exact snapferryref05_Texts.calls k A0 c0 l0 A1 c1 l1 _ w hr0 hc0 hr1 hc1 hk
end Go.Proofs.Ytcnlcmkhfdpidaa.Grid
