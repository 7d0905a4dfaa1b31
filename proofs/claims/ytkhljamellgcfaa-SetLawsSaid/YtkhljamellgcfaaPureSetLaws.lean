/- Sets are joined in any order. -/
import Derived.Test.YtkhljamellgcfaaSetN
namespace Go.Proofs.Ytkhljamellgcfaa.Pure
open Go.RowKit Go.Proofs.Ytkhljamellgcfaa.PSet Go.Proofs.YtkhljamellgcfaaW.PrintWords Go.Proofs.YtkhljamellgcfaaW.PrintLast
open Go.Proofs.Ytkhljamellgcfaa

theorem SetLaws : stolonlaw06_SetLaws.Pure := by
  intro a b c h1 h2 h3 h4 h5 h6 h7 h8 h9
  clear h1 h3 h4 h6 h7 h9
  obtain ⟨K, hK⟩ : ∃ K : Nat, K = 1000 := ⟨_, rfl⟩
  refine ⟨K + 1 + 1 + 1, ?_⟩
  have hs := shown_big (K + 1 + 1 + 1) (by omega)
  unfold stolonlaw06_SetLaws.f
  have e0 : wrap64 ((wrap64 ((a.length : Int) + (b.length : Int))) + (c.length : Int)) = (a.length : Int) + (b.length : Int) + (c.length : Int) := by
    rw [w64 (i := (a.length : Int) + (b.length : Int)) (by omega) (by omega), w64 (by omega) (by omega)]
  rw [hs, e0, Option.bind_some]
  have out : stolonlaw06_SetLaws.j0 (K + 1 + 1 + 1) a b c true true = some true := by
    rw [stolonlaw06_SetLaws.j0, if_pos rfl]
  split
  · exact out
  · rename_i hf
    have b0 : a.length ≤ 200 := by omega
    have b1 : b.length ≤ 200 := by omega
    have b2 : c.length ≤ 200 := by omega
    clear h2 h5 h8 e0 hf
    have K0 : 1000 ≤ K := by omega
    clear hK
    rw [right_some a (by omega) _ (by omega), Option.bind_some]
    split
    · rename_i ra
      replace ra := of_decide_eq_true ra
      rw [right_some b (by omega) _ (by omega), Option.bind_some]
      split
      · rename_i rb
        replace rb := of_decide_eq_true rb
        rw [right_some c (by omega) _ (by omega), Option.bind_some]
        by_cases rc : Rise c
        · rw [decide_eq_true rc]
          have g : ∀ {x y : List Int}, x.length ≤ 200 → y.length ≤ 400 → x.length ≤ 1000000000 ∧ y.length ≤ 1000000000 := fun h h' => ⟨by omega, by omega⟩
          have mx : 1000 ≤ 1000000000 := by omega
          have lab := uni_len a b
          have lba := uni_len b a
          have lbc := uni_len b c
          have labc := uni_len (uni a b) c
          have labc' := uni_len a (uni b c)
          have iab := int_len a b
          have iba := int_len b a
          have iac := int_len a c
          have mab := mns_len a b
          have mmab := mns_len a (mns a b)
          have uaa := uni_len a a
          have iaa := int_len a a
          have maa := mns_len a a
          have ii := int_len a (uni b c)
          have uu := uni_len (int a b) (int a c)
          have E1 : uni a b = uni b a := rise_ext (uni_rise ra rb) (uni_rise rb ra) fun x => by rw [uni_mem ra rb, uni_mem rb ra]; exact Or.comm
          have E2 : uni (uni a b) c = uni a (uni b c) := rise_ext (uni_rise (uni_rise ra rb) rc) (uni_rise ra (uni_rise rb rc)) fun x => by
            rw [uni_mem (uni_rise ra rb) rc, uni_mem ra rb, uni_mem ra (uni_rise rb rc), uni_mem rb rc]; exact or_assoc
          have E3 : int a b = int b a := rise_ext (int_rise ra rb) (int_rise rb ra) fun x => by rw [int_mem ra rb, int_mem rb ra]; exact And.comm
          have E4 : int a b = mns a (mns a b) := rise_ext (int_rise ra rb) (mns_rise ra (mns_rise ra rb)) fun x => by
            rw [int_mem ra rb, mns_mem ra (mns_rise ra rb), mns_mem ra rb]
            exact ⟨fun h => ⟨h.1, fun h' => h'.2 h.2⟩, fun h => ⟨h.1, Classical.byContradiction fun h' => h.2 ⟨h.1, h'⟩⟩⟩
          have E5 : uni a a = a := rise_ext (uni_rise ra ra) ra fun x => by rw [uni_mem ra ra]; exact or_self_iff
          have E6 : int a a = a := rise_ext (int_rise ra ra) ra fun x => by rw [int_mem ra ra]; exact and_self_iff
          have E7 : mns a a = [] := rise_ext (mns_rise ra ra) List.Pairwise.nil fun x => by rw [mns_mem ra ra]; exact ⟨fun h => absurd h.1 h.2, fun h => by simp at h⟩
          have E8 : int a (uni b c) = uni (int a b) (int a c) := rise_ext (int_rise ra (uni_rise rb rc)) (uni_rise (int_rise ra rb) (int_rise ra rc)) fun x => by
            rw [int_mem ra (uni_rise rb rc), uni_mem rb rc, uni_mem (int_rise ra rb) (int_rise ra rc), int_mem ra rb, int_mem ra rc]
            exact and_or_left
          have big : ∀ {n : Nat}, n ≤ 900 → n ≤ 1000000000 := fun h => by omega
          rw [stolonlaw06_SetLaws.j0, if_neg (by decide), uni_some (big (by omega)) (big (by omega)), Option.bind_some, uni_some (big (by omega)) (big (by omega)), Option.bind_some]
          rw [same_some _ _ (big (by omega)) _ (by omega), decide_eq_true E1, Option.bind_some, if_pos rfl, Option.bind_some]
          rw [uni_some (big (by omega)) (big (by omega)), Option.bind_some, uni_some (big (by omega)) (big (by omega)), Option.bind_some, uni_some (big (by omega)) (big (by omega)), Option.bind_some]
          rw [same_some _ _ (big (by omega)) _ (by omega), decide_eq_true E2, Option.bind_some]
          rw [stolonlaw06_SetLaws.j1, int_some (big (by omega)) (big (by omega)), Option.bind_some, int_some (big (by omega)) (big (by omega)), Option.bind_some]
          rw [same_some _ _ (big (by omega)) _ (by omega), decide_eq_true E3, Option.bind_some, if_pos rfl, Option.bind_some, mns_some (big (by omega)) (big (by omega)), Option.bind_some, mns_some (big (by omega)) (big (by omega)), Option.bind_some]
          rw [same_some _ _ (big (by omega)) _ (by omega), decide_eq_true E4, Option.bind_some]
          rw [stolonlaw06_SetLaws.j2, if_pos rfl, if_pos rfl, if_pos rfl, uni_some (big (by omega)) (big (by omega)), Option.bind_some]
          rw [same_some _ _ (big (by omega)) _ (by omega), decide_eq_true E5, Option.bind_some, if_pos rfl, int_some (big (by omega)) (big (by omega)), Option.bind_some]
          rw [same_some _ _ (big (by omega)) _ (by omega), decide_eq_true E6, Option.bind_some, if_pos rfl, mns_some (big (by omega)) (big (by omega)), Option.bind_some, E7, if_pos (show (([] : List Int).length : Int) = 0 from rfl)]
          rw [uni_some (big (by omega)) (big (by omega)), Option.bind_some, int_some (big (by omega)) (big (by omega)), Option.bind_some, int_some (big (by omega)) (big (by omega)), Option.bind_some, int_some (big (by omega)) (big (by omega)), Option.bind_some, uni_some (big (by omega)) (big (by omega)), Option.bind_some]
          rw [same_some _ _ (big (by omega)) _ (by omega), decide_eq_true E8, Option.bind_some]
        · rw [decide_eq_false rc]
          exact out
      · exact out
    · exact out
end Go.Proofs.Ytkhljamellgcfaa.Pure
