/-
  A frame one bit of whose header is changed is none.
-/
import Derived.Test.YtlaanmkangikbaaIpOne
namespace Go.Proofs.Ytlaanmkangikbaa
open Go.RowKit Go.Proofs.YtlaanmkangikbaaW.PrintWords Go.Proofs.YtlaanmkangikbaaW.PrintLast Go.Proofs.YtlaanmkangikbaaW.PrintMore Go.Proofs.Ytlaanmkangikbaa.PIp
theorem sum_change {l : List Int} (hb : Byt l) {a : Nat} (ha : a < l.length) {v : Int} (h0 : 0 ≤ v) (h1 : v < 256) (hv : v ≠ l.getD a 0) (hs : sumOf l = 0) : sumOf (l.set a v) ≠ 0 := by
  have hb2 : Byt (l.set a v) := set_byte hb h0 h1
  rw [sumOf_rep _ hb] at hs
  rw [sumOf_rep _ hb2, tot_set _ _ _ _ ha]
  have ht := tot_nonneg _ 0 hb
  have ht2 := tot_nonneg _ 0 hb2
  rw [tot_set _ _ _ _ ha] at ht2
  have hg := get_byte hb a
  unfold repW at hs ⊢
  unfold wt at ht2 ⊢
  split at hs
  · omega
  · split at ht2
    · split
      · omega
      · omega
    · split
      · omega
      · omega
theorem set_get_ne (l : List Int) (a n : Nat) (v : Int) (h : a ≠ n) : (l.set a v).getD n 0 = l.getD n 0 := by
  rw [List.getD_eq_getElem?_getD, List.getD_eq_getElem?_getD, List.getElem?_set_ne h]
theorem set_get_self (l : List Int) (a : Nat) (v : Int) (h : a < l.length) : (l.set a v).getD a 0 = v := by
  rw [List.getD_eq_getElem?_getD, List.getElem?_set_self h]
  rfl
theorem one_bad {s d p t i : Int} (hok : HOk s d p t i) {al : Bool} {b : List Int} (all : Int) {a : Nat} (ha : a < hlen al) {v : Int} (h0 : 0 ≤ v) (h1 : v < 256) (hv : v ≠ (hd s d p t i al all ++ b).getD a 0) (hz : a = 0 → v ≠ 69 ∧ v ≠ 70) :
    (dec ((hd s d p t i al all ++ b).set a v)).2.2.2.2.2.2.2 ≠ 0 := by
  intro h
  have hh := hlen_range al
  have hl : (hd s d p t i al all).length = hlen al := hd_len ..
  obtain ⟨_, k0, _, _, ks, _⟩ := dec_right h
  by_cases c : a = 0
  · subst c
    have e : rd ((hd s d p t i al all ++ b).set 0 v) 0 = v := set_get_self _ _ _ (by rw [List.length_append]; omega)
    rw [e] at k0
    have := hz rfl
    omega
  · have e : fAl ((hd s d p t i al all ++ b).set a v) = al := by
      unfold fAl
      rw [show rd ((hd s d p t i al all ++ b).set a v) 0 = rd (hd s d p t i al all ++ b) 0 from set_get_ne _ _ _ _ c, frame0]
      cases al <;> rfl
    rw [e, List.set_append_left _ _ (by omega), List.take_append_of_le_length (by rw [List.length_set]; omega), List.take_of_length_le (by rw [List.length_set]; omega)] at ks
    exact sum_change (hd_byt hok al all) (by omega) h0 h1 (by rw [getD_left _ _ _ (by omega)] at hv; exact hv) (frame_sum s d p t i al all hok) ks
theorem bit_vals (n : Int) : ∃ k : Nat, (n % 8).toNat = k ∧ k < 8 := ⟨(n % 8).toNat, rfl, by omega⟩
theorem ipOne_call {s d p t i : Int} {al : Bool} (hok : HOk s d p t i) {b : List Int} (hbb : Byt b) (hbl : b.length ≤ 140737488351232) (at0 : Int) {bit : Int} (hbit : 0 ≤ bit ∧ bit < 256) (A_b : Option Addr) (c_b : Nat) (w : World) (hr : Kd.C (Kd.int .u8) w A_b b.length b) (hc : b.length ≤ c_b) :
    Calls Try.prog 5 #[.agg #[.int .u32 s, .int .u32 d, .int .u8 p, .int .u8 t, .int .u16 i, .bool al, .slice A_b b.length c_b, .int .i64 at0, .int .u8 bit]] w fun e w' => e = .returned (.bool true) ∧ Below w.heap.size w w' := by
  have hh := hlen_range al
  have hx := enc_len hok al hbb
  refine ipOne_walk hok hbb (by omega) at0 bit hbit (x := (enc s d p t i al b).1) (e0 := (enc s d p t i al b).2) rfl (fun _ => .inr trivial) ?_ ?_ hx.1 hx.2 ?_ A_b c_b w hr hc
  · by_cases h : (hlen al : Int) + b.length > 1500
    · right; omega
    · left; unfold enc; rw [if_neg h]
  · intro h
    rw [enc_some _ _ _ _ _ _ _ (by omega)]
    exact ⟨rfl, by simp only [List.length_append, hd_len]; omega⟩
  · intro h h0 h1
    rw [enc_some _ _ _ _ _ _ _ (by omega)] at hx ⊢
    simp only at hx ⊢
    obtain ⟨k, hk, hk8⟩ := bit_vals bit
    rw [hk]
    have hy : 0 < (2 : Int) ^ k % 256 ∧ (2 : Int) ^ k % 256 < 256 := by
      rcases (show k = 0 ∨ k = 1 ∨ k = 2 ∨ k = 3 ∨ k = 4 ∨ k = 5 ∨ k = 6 ∨ k = 7 by omega) with rfl | rfl | rfl | rfl | rfl | rfl | rfl | rfl <;> decide
    have hg := get_byte hx.1 at0.toNat
    have hv := xor8 hg.1 hg.2 hy.1 hy.2
    rw [show ∀ l : List Int, rdOf 0 l at0 = l.getD at0.toNat 0 from fun _ => rfl]
    refine ⟨one_bad hok _ (by omega) hv.1 hv.2.1 hv.2.2 ?_, set_byte hx.1 hv.1 hv.2.1⟩
    intro ha
    rw [ha]
    have e := frame0 s d p t i al ((hlen al + b.length : Nat) : Int) b
    rw [show rd (hd s d p t i al ((hlen al + b.length : Nat) : Int) ++ b) 0 = (hd s d p t i al ((hlen al + b.length : Nat) : Int) ++ b).getD 0 0 from rfl] at e
    rw [e]
    rcases (show k = 0 ∨ k = 1 ∨ k = 2 ∨ k = 3 ∨ k = 4 ∨ k = 5 ∨ k = 6 ∨ k = 7 by omega) with rfl | rfl | rfl | rfl | rfl | rfl | rfl | rfl <;> cases al <;> exact ⟨by decide, by decide⟩
end Go.Proofs.Ytlaanmkangikbaa
