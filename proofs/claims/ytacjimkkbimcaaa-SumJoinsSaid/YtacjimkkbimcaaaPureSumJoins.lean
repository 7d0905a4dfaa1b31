/-
  Joining hangs on no order, nor on brackets; with 0 a word stays. For every input.
-/
import Derived.Test.YtacjimkkbimcaaaPSumx2
import Derived.Test.YtacjimkkbimcaaaSumL
namespace Go.Proofs.Ytacjimkkbimcaaa.Pure
open Go.RowKit Go.Proofs.Ytacjimkkbimcaaa.PSum Go.Proofs.YtacjimkkbimcaaaW.PrintWords Go.Proofs.YtacjimkkbimcaaaW.PrintLast

theorem SumJoins : stolonlaw02_SumJoins.Pure := by
  intro x y z hx hy hz
  obtain ⟨x0, x1⟩ := wf_u16 hx
  obtain ⟨y0, y1⟩ := wf_u16 hy
  obtain ⟨z0, z1⟩ := wf_u16 hz
  have xy := joinW_range x0 x1 y0 y1
  have yz := joinW_range y0 y1 z0 z1
  unfold stolonlaw02_SumJoins.f
  rw [shown_some, join_some x0 x1 y0 y1, join_some y0 y1 x0 x1, join_some y0 y1 z0 z1, join_some x0 x1 (Int.le_refl 0) (by omega)]
  simp only [Option.bind_some, if_true]
  rw [join_some xy.1 xy.2 z0 z1, join_some x0 x1 yz.1 yz.2]
  simp only [Option.bind_some]
  have e1 : joinW x y = joinW y x := by unfold joinW; rw [Int.add_comm]
  have e2 : joinW (joinW x y) z = joinW x (joinW y z) := by
    unfold joinW
    repeat' split
    all_goals omega
  have e3 : joinW x 0 = x := by unfold joinW; rw [if_pos (by omega)]; omega
  rw [if_pos e1, if_pos e2, e3]
  simp

end Go.Proofs.Ytacjimkkbimcaaa.Pure
