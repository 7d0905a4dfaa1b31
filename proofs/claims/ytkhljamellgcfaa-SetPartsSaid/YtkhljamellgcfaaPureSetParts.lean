/- What two sets have in common, and what each has alone: together what they have. -/
import Derived.Test.YtkhljamellgcfaaSetN
namespace Go.Proofs.Ytkhljamellgcfaa.Pure
open Go.RowKit Go.Proofs.Ytkhljamellgcfaa.PSet Go.Proofs.YtkhljamellgcfaaW.PrintWords Go.Proofs.YtkhljamellgcfaaW.PrintLast
open Go.Proofs.Ytkhljamellgcfaa

theorem SetParts : stolonlaw06_SetParts.Pure := by
  intro l0 l1 a2 h1 h2 h3 h4 h5 h6 h7
  clear h1 h3 h4 h6 h7
  obtain ⟨K, hK⟩ : ∃ K : Nat, K = 1000 := ⟨_, rfl⟩
  refine ⟨K + 1 + 1, ?_⟩
  have hs := shown_big (K + 1 + 1) (by omega)
  unfold stolonlaw06_SetParts.f stolonlaw06_few.f
  have e0 : wrap64 ((l0.length : Int) + (l1.length : Int)) = (l0.length : Int) + (l1.length : Int) := w64 (by omega) (by omega)
  rw [hs, e0]
  simp only [Option.bind_some, decide_eq_true_eq]
  have out : stolonlaw06_SetParts.j0 (K + 1 + 1) l0 l1 a2 true true = some true := by
    rw [stolonlaw06_SetParts.j0, if_pos rfl]
  split
  · rename_i hf
    have b0 : l0.length ≤ 200 := by omega
    have b1 : l1.length ≤ 200 := by omega
    clear h2 h5 e0 hf
    rw [right_some l0 (by omega) _ (by omega)]
    simp only [Option.bind_some, decide_eq_true_eq]
    split
    · rename_i r0
      rw [right_some l1 (by omega) _ (by omega)]
      simp only [Option.bind_some]
      by_cases r1 : Rise l1
      · rw [decide_eq_true r1]
        have u1 := uni_len l0 l1
        have u2 := int_len l0 l1
        have u3 := mns_len l0 l1
        have u4 := mns_len l1 l0
        have q1 := uni_rise r0 r1
        have q2 := int_rise r0 r1
        have q3 := mns_rise r0 r1
        have q4 := mns_rise r1 r0
        have hlen := parts_len r0 r1
        have m1 := uni_mem r0 r1 a2
        have m2 := int_mem r0 r1 a2
        have m3 := mns_mem r0 r1 a2
        have e1 : wrap64 ((wrap64 (((int l0 l1).length : Int) + ((mns l0 l1).length : Int))) + ((mns l1 l0).length : Int)) = ((int l0 l1).length : Int) + ((mns l0 l1).length : Int) + ((mns l1 l0).length : Int) := by
          rw [w64 (i := ((int l0 l1).length : Int) + ((mns l0 l1).length : Int)) (by omega) (by omega), w64 (by omega) (by omega)]
        have e2 : ((int l0 l1).length : Int) + ((mns l0 l1).length : Int) + ((mns l1 l0).length : Int) = ((uni l0 l1).length : Int) := by omega
        have k1 : l0.length < K + 1 := by omega
        have k2 : l1.length < K + 1 := by omega
        have k3 : (uni l0 l1).length < K + 1 := by omega
        have k4 : (int l0 l1).length < K + 1 := by omega
        have k5 : (mns l0 l1).length < K + 1 := by omega
        have k6 : (mns l1 l0).length < K + 1 := by omega
        have k1' : l0.length < K := by omega
        have k2' : l1.length < K := by omega
        have k3' : (uni l0 l1).length < K := by omega
        have k4' : (int l0 l1).length < K := by omega
        have k5' : (mns l0 l1).length < K := by omega
        have n1 : l0.length ≤ 1000000000 := by omega
        have n2 : l1.length ≤ 1000000000 := by omega
        have n3 : (uni l0 l1).length ≤ 1000000000 := by omega
        have n4 : (int l0 l1).length ≤ 1000000000 := by omega
        have n5 : (mns l0 l1).length ≤ 1000000000 := by omega
        have n6 : (mns l1 l0).length ≤ 1000000000 := by omega
        clear hK
        rw [stolonlaw06_SetParts.j0, if_neg (by decide), uni_some n1 n2, int_some n1 n2, mns_some n1 n2, mns_some n2 n1]
        simp only [Option.bind_some]
        rw [right_some _ n3 _ k3, right_some _ n4 _ k4, right_some _ n5 _ k5, right_some _ n6 _ k6]
        rw [decide_eq_true q1, decide_eq_true q2, decide_eq_true q3, decide_eq_true q4]
        rw [Option.bind_some, if_pos rfl, Option.bind_some, if_pos rfl, Option.bind_some, if_pos rfl, Option.bind_some]
        rw [stolonlaw06_SetParts.j1]
        rw [has_some _ n1 _ r0 _ k1', has_some _ n2 _ r1 _ k2', has_some _ n3 _ q1 _ k3', has_some _ n4 _ q2 _ k4', has_some _ n5 _ q3 _ k5']
        rw [Option.bind_some, Option.bind_some, if_pos rfl, if_pos rfl, e1, if_pos e2]
        simp only [Option.bind_some]
        by_cases c0 : a2 ∈ l0 <;> by_cases c1 : a2 ∈ l1 <;> simp [m1, m2, m3, c0, c1]
      · rw [decide_eq_false r1]
        exact out
    · exact out
  · exact out
end Go.Proofs.Ytkhljamellgcfaa.Pure
