/- What was sealed is opened, and where a text is cut plays no part in its sum: for every text and every cut. No condition. -/
import Derived.Test.YtgjaehagmfkamaaQx3
import Derived.Test.YtgjaehagmfkamaaLem
namespace Go.Proofs.Ytgjaehagmfkamaa.Pure
open Go.RowKit Go.Proofs.Ytgjaehagmfkamaa.Q Go.Proofs.YtgjaehagmfkamaaW.PrintWords Go.Proofs.YtgjaehagmfkamaaW.PrintLast
theorem CrcBack : snapferrylaw02_CrcBack.Pure := by
  intro s cut hs _
  refine ⟨1, ?_⟩
  unfold snapferrylaw02_CrcBack.f
  rw [awake_true]
  simp only [Option.bind_some, if_true]
  split
  · simp [snapferrylaw02_CrcBack.j0]
  split
  · simp [snapferrylaw02_CrcBack.j0]
  simp only [snapferrylaw02_CrcBack.j0]
  split
  · rfl
  rename_i h1 h2 h3
  rw [decide_eq_true_eq] at h3
  have e : ((s.size : Int) + 4) = wrap64 ((s.size : Int) + 4) := by unfold wrap64; omega
  rw [seal_eq (by omega)]
  simp only [Option.bind_some]
  rw [open_seal (by omega)]
  simp only [Option.bind_some, if_true]
  rw [sum_one (by omega)]
  simp only [Option.bind_some]
  rw [if_pos (by omega), if_pos (by omega), sum_two (by rw [ByteArray.size_extract]; omega) (by rw [ByteArray.size_extract]; omega)]
  simp only [Option.bind_some]
  rw [sum_cut, if_pos rfl, ← e, sealB_size]
  simp
end Go.Proofs.Ytgjaehagmfkamaa.Pure
