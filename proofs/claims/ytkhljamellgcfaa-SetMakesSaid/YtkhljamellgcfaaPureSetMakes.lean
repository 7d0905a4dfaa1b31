/- The set of a row has just what the row has. -/
import Derived.Test.YtkhljamellgcfaaSo0
import Derived.Test.YtkhljamellgcfaaPSetMa
namespace Go.Proofs.Ytkhljamellgcfaa.Pure
open Go.RowKit Go.Proofs.Ytkhljamellgcfaa.PSet Go.Proofs.YtkhljamellgcfaaW.PrintWords Go.Proofs.YtkhljamellgcfaaW.PrintLast
open Go.Proofs.Ytkhljamellgcfaa

theorem make_some {l : List Int} (h : l.length < 65536) : set_Make.f l = some (mk l) := by rw [set_Make.f, if_pos h]
theorem mk_mk (l : List Int) : mk (mk l) = mk l := rise_ext (mk_rise _) (mk_rise _) fun x => by rw [mk_mem]
theorem mk_join (a b : List Int) : mk (a ++ b) = uni (mk a) (mk b) := rise_ext (mk_rise _) (uni_rise (mk_rise _) (mk_rise _)) fun x => by
  rw [uni_mem (mk_rise _) (mk_rise _), mk_mem, mk_mem, mk_mem, List.mem_append]
theorem makes_end (l0 l1 : List Int) (x : Int) (h0 : l0.length ≤ 200) (h1 : l1.length ≤ 200) (k : Nat) (hk : 1000 ≤ k) :
    stolonlaw06_SetMakes.l0 (k + 1) l0 l1 x true (mk l0) (decide (x ∈ l0)) (l0.length : Int) = some true := by
  have m0 := mk_len l0
  have m1 := mk_len l1
  have mm := mk_len (l0 ++ l1)
  rw [List.length_append] at mm
  have hu := uni_len (mk l0) (mk l1)
  rw [stolonlaw06_SetMakes.l0, if_neg (by omega)]
  rw [Option.bind_some, if_pos (by rw [List.length_nil]; omega), Option.bind_some, List.nil_append, if_pos (by omega), make_some (by rw [List.length_append]; omega), Option.bind_some, if_pos rfl]
  rw [right_some _ (by omega) _ (by omega), decide_eq_true (mk_rise l0), Option.bind_some, if_pos rfl]
  rw [has_some _ (by omega) _ (mk_rise l0) _ (by omega), Option.bind_some]
  rw [if_pos (by rw [beq_iff_eq, decide_eq_decide, mk_mem])]
  rw [make_some (by omega), Option.bind_some, mk_mk, same_some _ _ (by omega) _ (by omega), decide_eq_true rfl, Option.bind_some, if_pos rfl]
  rw [make_some (by omega), Option.bind_some, uni_some (by omega) (by omega), Option.bind_some, mk_join, same_some _ _ (by omega) _ (by omega), decide_eq_true rfl, Option.bind_some, if_pos rfl]
  rw [decide_eq_true (by omega)]
theorem makes_loop (l0 l1 : List Int) (x : Int) (h0 : l0.length ≤ 200) (h1 : l1.length ≤ 200) : ∀ n k (j : Nat) (f : Bool), l0.length = j + n → n + 1001 < k → f = decide (x ∈ l0.take j) →
    stolonlaw06_SetMakes.l0 k l0 l1 x true (mk l0) f j = some true := by
  intro n
  induction n with
  | zero =>
    intro k j f h2 hk hf
    obtain ⟨k, rfl⟩ : ∃ k', k = k' + 1 := ⟨k - 1, by omega⟩
    obtain rfl : j = l0.length := by omega
    rw [List.take_length] at hf
    rw [hf]
    exact makes_end l0 l1 x h0 h1 k (by omega)
  | succ n ih =>
    intro k j f h2 hk hf
    obtain ⟨k, rfl⟩ : ∃ k', k = k' + 1 := ⟨k - 1, by omega⟩
    have hj : j < l0.length := by omega
    have ht : x ∈ l0.take (j + 1) ↔ x ∈ l0.take j ∨ l0[j] = x := by
      rw [List.take_add_one, List.mem_append, List.getElem?_eq_getElem hj]
      simp [eq_comm]
    rw [stolonlaw06_SetMakes.l0, if_pos (by omega), show wrap64 ((j : Int) + 1) = ((j + 1 : Nat) : Int) from by rw [w64 (by omega) (by omega)]; omega]
    by_cases hx : x ∈ l0.take j
    · rw [decide_eq_true hx] at hf
      rw [hf, if_pos rfl]
      exact ih k (j + 1) true (by omega) (by omega) (decide_eq_true (ht.2 (.inl hx))).symm
    · rw [decide_eq_false hx] at hf
      rw [hf, if_neg (by decide), if_pos (by omega), rd_eq, Int.toNat_natCast, getD_eq l0 j hj]
      refine ih k (j + 1) _ (by omega) (by omega) ?_
      rw [Bool.eq_iff_iff, beq_iff_eq, decide_eq_true_iff, ht]
      exact ⟨.inr, fun h => h.resolve_left hx⟩
theorem SetMakes : stolonlaw06_SetMakes.Pure := by
  intro l0 l1 a2 h1 h2 h3 h4 h5 h6 h7
  clear h1 h3 h4 h6 h7
  obtain ⟨K, hK⟩ : ∃ K : Nat, K = 3000 := ⟨_, rfl⟩
  refine ⟨K, ?_⟩
  have e0 : wrap64 ((l0.length : Int) + (l1.length : Int)) = (l0.length : Int) + (l1.length : Int) := w64 (by omega) (by omega)
  unfold stolonlaw06_SetMakes.f stolonlaw06_few.f
  rw [shown_big K (by omega), e0]
  simp only [Option.bind_some, decide_eq_true_eq]
  split
  · rename_i hf
    rw [make_some (by omega), Option.bind_some]
    exact makes_loop l0 l1 a2 (by omega) (by omega) l0.length K 0 false (by omega) (by omega) (by simp)
  · rfl
end Go.Proofs.Ytkhljamellgcfaa.Pure
