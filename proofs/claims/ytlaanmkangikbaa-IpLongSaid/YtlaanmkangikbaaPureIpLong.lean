/-
  A frame is as long as its header and what is in it; above 1500 there is none.
-/
import Derived.Test.YtlaanmkangikbaaPIpxE
namespace Go.Proofs.Ytlaanmkangikbaa
open Go.RowKit Go.Proofs.YtlaanmkangikbaaW.PrintWords Go.Proofs.YtlaanmkangikbaaW.PrintLast Go.Proofs.YtlaanmkangikbaaW.PrintMore Go.Proofs.Ytlaanmkangikbaa.PIp
theorem ipLong_pure {s d p t i : Int} (hok : HOk s d p t i) (al : Bool) {n : Int} (hn : 0 ≤ n ∧ n < 65536) : ∃ k, stolonlaw04_IpLong.f k s d p t i al n = some true := by
  obtain ⟨K, hK⟩ : ∃ K : Nat, K = 3000 := ⟨_, rfl⟩
  refine ⟨K + 6 + 1, ?_⟩
  obtain ⟨many, hm⟩ := Int.eq_ofNat_of_zero_le (show 0 ≤ n % 2000 by omega)
  have hm2 : many < 2000 := by omega
  have e1 : Int.tmod (wrap64 n) 2000 = (many : Int) := by
    rw [wr64 (i := n) (by omega) (by omega), Int.tmod_eq_emod_of_nonneg hn.1, hm]
  have hh := hlen_range al
  have J : stolonlaw04_IpLong.j0 (K + 6 + 1) n true (hlen al : Int) s d p t i al = some true := by
    rw [stolonlaw04_IpLong.j0, e1, if_pos (by omega), Int.toNat_natCast, if_pos (by omega), encode_some hok al _ (by rw [List.length_replicate]; omega), Option.bind_some, wr64 (by omega) (by omega)]
    by_cases c : (hlen al : Int) + many > 1500
    · rw [show enc s d p t i al (List.replicate many 0) = ([], 7) from by unfold enc; rw [List.length_replicate, if_pos c], if_pos c, if_pos rfl, if_pos rfl]
      rfl
    · rw [enc_some _ _ _ _ _ _ _ (by rw [List.length_replicate]; omega), if_neg c, if_pos rfl, if_pos rfl, if_pos (by rw [List.length_append, hd_len, List.length_replicate]; omega), if_pos (by omega), if_pos (by rw [List.length_append, hd_len, List.length_replicate]; omega)]
      rw [Int.toNat_natCast, List.drop_left' (hd_len _ _ _ _ _ _ _), same_some _ _ (by rw [List.length_replicate]; omega) _ (by rw [List.length_replicate]; omega), beq_self_eq_true]
      rfl
  unfold stolonlaw04_IpLong.f stolonlaw04_shown.f
  rw [Option.bind_some]
  cases al with
  | true => rw [if_pos rfl]; exact J
  | false => rw [if_neg Bool.false_ne_true]; exact J
end Go.Proofs.Ytlaanmkangikbaa
