/-
  Package slices, at bytes: Grow of nothing, Concat, Clone; package ip: joined.
-/
import Derived.Test.YtlaanmkangikbaaSumH
import Derived.Lib.AppendZeros
namespace Go.Proofs.Ytlaanmkangikbaa
open Go.RowKit Go.Shelf Go.Proofs.YtlaanmkangikbaaW.PrintWords
attribute [local go_sem] Oper.semAt_some

theorem grow_calls (n : Nat) (hn : n ≤ 1000000000) (w : World) : Calls Try.prog 37 #[.slice none 0 0, .int .i64 n] w fun e w' => ∃ A c, e = .returned (.slice A 0 c) ∧ w'.ownsRow w.heap.size 5 1 (.slice A 0 c) 0 [] ∧ Below w.heap.size w w' := by
  obtain ⟨i0, hi, iz0, iz1, iz2⟩ := info_parts Try.info5
  go_enter Try.func37, Try.ntmps37
  rcases Nat.eq_zero_or_pos n with rfl | hp
  · go_wp2
    go_ret
    exact ⟨none, 0, rfl, own_nil _ _ _ _, by repeat (first | exact Below.refl _ _ | apply Below.drew)⟩
  · have hap := fun W : World => Lib.run_append_nil_zeros (P := Try.prog) W 27 3 27 5 i0 (.int .u8 0) .i64 .i64 Try.underlying27 Try.underlying3 hi iz0 n hp (by omega) (by omega) (by rw [iz2]; omega)
    have hg1 := grownCap_ge w n 0 5
    have hg2 := grownCap_le_maxLen w n 0 5 (by simp [maxLen]; omega)
    obtain ⟨cp, hcp⟩ : ∃ cp, grownCap w n 0 5 = cp := ⟨_, rfl⟩
    have hap2 := hap w
    rw [hcp] at hap2 hg1 hg2
    clear hap
    go_wp2_with (refine Lib.wpList_append_run _ rfl (.tmp 20) (.tmp 21) 27 3 rfl (.slice none 0 0) (.int .i64 n) rfl rfl _ _ hap2 ?_)
    · go_ret
      refine ⟨_, _, rfl, ⟨by simp, .inr ⟨_, _, _, rfl, Nat.le_refl _, heap_alloc_new w.drew _, by omega, hg2, ?_, by simp⟩⟩, ?_⟩
      · simp [Builtin.zeroCells]
        omega
      · exact ((Below.refl _ _).drew).alloc (Nat.le_refl _) _
end Go.Proofs.Ytlaanmkangikbaa
