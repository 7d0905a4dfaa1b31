/-
  The document's reading of a frame, in plain lists.
-/
import Derived.Test.YtlaanmkangikbaaIpR
import Derived.Test.YtlaanmkangikbaaIpR
namespace Go.Proofs.Ytlaanmkangikbaa
open Go.RowKit Go.Proofs.YtlaanmkangikbaaW.PrintWords Go.Proofs.YtlaanmkangikbaaW.PrintLast Go.Proofs.YtlaanmkangikbaaW.PrintMore Go.Proofs.Ytlaanmkangikbaa.PIp
theorem dec_2 {f : List Int} (h1 : ¬ f.length < 20) (h2 : rd f 0 ≠ 69 ∧ rd f 0 ≠ 70) : dec f = W 2 := by
  unfold dec; rw [if_neg h1, if_pos h2]
theorem dec_3 {f : List Int} (h1 : ¬ f.length < 20) (h2 : rd f 0 = 69 ∨ rd f 0 = 70) (h3 : f.length < hlen (fAl f)) : dec f = W 3 := by
  unfold dec; rw [if_neg h1, if_neg (fun h => h2.elim h.1 h.2), if_pos h3]
theorem dec_4 {f : List Int} (h1 : ¬ f.length < 20) (h2 : rd f 0 = 69 ∨ rd f 0 = 70) (h3 : ¬ f.length < hlen (fAl f)) (h4 : sumOf (f.take (hlen (fAl f))) ≠ 0) : dec f = W 4 := by
  unfold dec; rw [if_neg h1, if_neg (fun h => h2.elim h.1 h.2), if_neg h3, if_pos h4]
theorem dec_5 {f : List Int} (h1 : ¬ f.length < 20) (h2 : rd f 0 = 69 ∨ rd f 0 = 70) (h3 : ¬ f.length < hlen (fAl f)) (h4 : ¬ sumOf (f.take (hlen (fAl f))) ≠ 0) (h5 : odd f = true) : dec f = W 2 := by
  unfold dec; rw [if_neg h1, if_neg (fun h => h2.elim h.1 h.2), if_neg h3, if_neg h4, if_pos h5]
theorem dec_6 {f : List Int} (h1 : ¬ f.length < 20) (h2 : rd f 0 = 69 ∨ rd f 0 = 70) (h3 : ¬ f.length < hlen (fAl f)) (h4 : ¬ sumOf (f.take (hlen (fAl f))) ≠ 0) (h5 : ¬ odd f = true) (h6 : (f.length : Int) < fAll f) : dec f = W 3 := by
  unfold dec; rw [if_neg h1, if_neg (fun h => h2.elim h.1 h.2), if_neg h3, if_neg h4, if_neg h5, if_pos h6]
theorem dec_7 {f : List Int} (h1 : ¬ f.length < 20) (h2 : rd f 0 = 69 ∨ rd f 0 = 70) (h3 : ¬ f.length < hlen (fAl f)) (h4 : ¬ sumOf (f.take (hlen (fAl f))) ≠ 0) (h5 : ¬ odd f = true) (h6 : ¬ (f.length : Int) < fAll f) : dec f = if differs f = true then W 4 else (aval f 12, aval f 16, rd f 9, rd f 8, fId f, fAl f, (f.take (fAll f).toNat).drop (hlen (fAl f)), 0) := by
  unfold dec; rw [if_neg h1, if_neg (fun h => h2.elim h.1 h.2), if_neg h3, if_neg h4, if_neg h5, if_neg h6]
theorem ref_n {f : List Int} (h : rd f 0 = 69 ∨ rd f 0 = 70) : ((rd f 0 - 64) % 256) * 4 = (hlen (fAl f) : Int) := by
  unfold fAl
  rcases h with h | h <;> rw [h] <;> rfl
theorem ref_al (al : Bool) : ((hlen al : Int) == 24) = al := by cases al <;> rfl
theorem ref_all {f : List Int} (hb : Byt f) : wrap64 (wrap64 (wrap64 (rd f 2) * 256) + wrap64 (rd f 3)) = fAll f := by
  have h2 := hb.rd 2
  have h3 := hb.rd 3
  rw [wr64 (i := rd f 2) (by omega) (by omega), wr64 (i := rd f 3) (by omega) (by omega), wr64 (i := rd f 2 * 256) (by omega) (by omega), wr64 (by omega) (by omega)]
  rfl
theorem ref_id {f : List Int} (hb : Byt f) : IntKind.u16.wrap (IntKind.u16.wrap (IntKind.u16.wrap (rd f 4) * 256) + IntKind.u16.wrap (rd f 5)) = fId f := by
  have h2 := hb.rd 4
  have h3 := hb.rd 5
  simp only [IntKind.wrap_u16]
  unfold fId
  omega
theorem rd_take (f : List Int) (m : Nat) (i : Int) (h0 : 0 ≤ i) (h : i < m) : rd (f.take m) i = rd f i := take_get f m i.toNat (by omega)
/-- The bytes are those that would be told, just if the sum is. -/
theorem ref_same {f : List Int} (hb : Byt f) (h1 : ¬ f.length < 20) (h2 : rd f 0 = 69 ∨ rd f 0 = 70) (h3 : ¬ f.length < hlen (fAl f)) (h4 : ¬ sumOf (f.take (hlen (fAl f))) ≠ 0) (h5 : ¬ odd f = true) (h6 : ¬ (f.length : Int) < fAll f) (h7 : (hlen (fAl f) : Int) ≤ fAll f ∧ fAll f ≤ 1500) :
    ((enc (aval f 12) (aval f 16) (rd f 9) (rd f 8) (fId f) (fAl f) ((f.take (fAll f).toNat).drop (hlen (fAl f)))).1 == f.take (fAll f).toNat) = !differs f := by
  have hh := hlen_range (fAl f)
  have hd7 := dec_7 h1 h2 h3 h4 h5 h6
  cases hdf : differs f with
  | false =>
    rw [hdf, if_neg Bool.false_ne_true] at hd7
    rw [dec_enc hb (by rw [hd7])]
    simp
  | true =>
    rw [Bool.not_true, beq_eq_false_iff_ne]
    intro he
    have hl : ((f.take (fAll f).toNat).drop (hlen (fAl f))).length = (fAll f).toNat - hlen (fAl f) := by rw [List.length_drop, List.length_take]; omega
    have hal : (hlen (fAl f) : Int) + ((f.take (fAll f).toNat).drop (hlen (fAl f))).length = fAll f := by rw [hl]; omega
    unfold enc at he
    rw [hal, if_neg (by omega)] at he
    simp only at he
    have g : ∀ i : Int, 0 ≤ i → i < 20 → rd (hd (aval f 12) (aval f 16) (rd f 9) (rd f 8) (fId f) (fAl f) (fAll f)) i = rd f i := by
      intro i i0 i1
      rw [← rd_append_left _ ((f.take (fAll f).toNat).drop (hlen (fAl f))) i i0 (by rw [hd_len]; omega), he, rd_take f _ i i0 (by omega)]
    unfold differs at hdf
    rw [g 10 (by omega) (by omega), g 11 (by omega) (by omega)] at hdf
    simp at hdf
end Go.Proofs.Ytlaanmkangikbaa
