/-
  Frames, in plain lists: what was told is read back.
-/
import Derived.Test.YtlaanmkangikbaaIpM
namespace Go.Proofs.Ytlaanmkangikbaa
open Go.RowKit Go.Proofs.YtlaanmkangikbaaW.PrintWords Go.Proofs.YtlaanmkangikbaaW.PrintLast Go.Proofs.YtlaanmkangikbaaW.PrintMore Go.Proofs.Ytlaanmkangikbaa.PIp

theorem hlen_range (al : Bool) : 20 ≤ hlen al ∧ hlen al ≤ 24 := by cases al <;> simp [hlen]
theorem rd_nat (l : List Int) (n : Nat) : rd l (n : Int) = l.getD n 0 := rfl
theorem hd_get (s d p t i : Int) (al : Bool) (all : Int) (n : Nat) (h0 : n ≠ 10) (h1 : n ≠ 11) : (hd s d p t i al all).getD n 0 = (raw s d p t i al all).getD n 0 := putOf_get _ _ _ h0 h1
theorem getD_left (a b : List Int) (n : Nat) (h : n < a.length) : (a ++ b).getD n 0 = a.getD n 0 := by
  rw [List.getD_eq_getElem?_getD, List.getD_eq_getElem?_getD, List.getElem?_append_left h]
/-- A frame's bytes, below its sum and above. -/
theorem frame_get (s d p t i : Int) (al : Bool) (all : Int) (b : List Int) (n : Nat) (hn : n < hlen al) (h0 : n ≠ 10) (h1 : n ≠ 11) : (hd s d p t i al all ++ b).getD n 0 = (raw s d p t i al all).getD n 0 := by
  rw [getD_left _ _ _ (by rw [hd_len]; exact hn), hd_get _ _ _ _ _ _ _ _ h0 h1]

section
variable (s d p t i : Int) (al : Bool) (all : Int) (b : List Int)
theorem frame0 : rd (hd s d p t i al all ++ b) 0 = if al then 70 else 69 := by
  have := hlen_range al
  rw [show (0 : Int) = ((0 : Nat) : Int) from rfl, rd_nat, frame_get _ _ _ _ _ _ _ _ _ (by omega) (by omega) (by omega)]; rfl
theorem frame1 : rd (hd s d p t i al all ++ b) 1 = 0 := by
  have := hlen_range al
  rw [show (1 : Int) = ((1 : Nat) : Int) from rfl, rd_nat, frame_get _ _ _ _ _ _ _ _ _ (by omega) (by omega) (by omega)]; rfl
theorem frame2 : rd (hd s d p t i al all ++ b) 2 = all / 256 % 256 := by
  have := hlen_range al
  rw [show (2 : Int) = ((2 : Nat) : Int) from rfl, rd_nat, frame_get _ _ _ _ _ _ _ _ _ (by omega) (by omega) (by omega)]; rfl
theorem frame3 : rd (hd s d p t i al all ++ b) 3 = all % 256 := by
  have := hlen_range al
  rw [show (3 : Int) = ((3 : Nat) : Int) from rfl, rd_nat, frame_get _ _ _ _ _ _ _ _ _ (by omega) (by omega) (by omega)]; rfl
theorem frame4 : rd (hd s d p t i al all ++ b) 4 = i / 256 % 256 := by
  have := hlen_range al
  rw [show (4 : Int) = ((4 : Nat) : Int) from rfl, rd_nat, frame_get _ _ _ _ _ _ _ _ _ (by omega) (by omega) (by omega)]; rfl
theorem frame5 : rd (hd s d p t i al all ++ b) 5 = i % 256 := by
  have := hlen_range al
  rw [show (5 : Int) = ((5 : Nat) : Int) from rfl, rd_nat, frame_get _ _ _ _ _ _ _ _ _ (by omega) (by omega) (by omega)]; rfl
theorem frame6 : rd (hd s d p t i al all ++ b) 6 = 0 := by
  have := hlen_range al
  rw [show (6 : Int) = ((6 : Nat) : Int) from rfl, rd_nat, frame_get _ _ _ _ _ _ _ _ _ (by omega) (by omega) (by omega)]; rfl
theorem frame7 : rd (hd s d p t i al all ++ b) 7 = 0 := by
  have := hlen_range al
  rw [show (7 : Int) = ((7 : Nat) : Int) from rfl, rd_nat, frame_get _ _ _ _ _ _ _ _ _ (by omega) (by omega) (by omega)]; rfl
theorem frame8 : rd (hd s d p t i al all ++ b) 8 = t := by
  have := hlen_range al
  rw [show (8 : Int) = ((8 : Nat) : Int) from rfl, rd_nat, frame_get _ _ _ _ _ _ _ _ _ (by omega) (by omega) (by omega)]; rfl
theorem frame9 : rd (hd s d p t i al all ++ b) 9 = p := by
  have := hlen_range al
  rw [show (9 : Int) = ((9 : Nat) : Int) from rfl, rd_nat, frame_get _ _ _ _ _ _ _ _ _ (by omega) (by omega) (by omega)]; rfl
theorem frame12 (hs : 0 ≤ s ∧ s < 4294967296) : aval (hd s d p t i al all ++ b) 12 = s := by
  have := hlen_range al
  unfold aval
  rw [frame_get _ _ _ _ _ _ _ _ _ (by omega) (by omega) (by omega), frame_get _ _ _ _ _ _ _ _ _ (by omega) (by omega) (by omega), frame_get _ _ _ _ _ _ _ _ _ (by omega) (by omega) (by omega), frame_get _ _ _ _ _ _ _ _ _ (by omega) (by omega) (by omega)]
  show s / 16777216 % 256 * 16777216 + s / 65536 % 256 * 65536 + s / 256 % 256 * 256 + s % 256 = s
  omega
theorem frame16 (hs : 0 ≤ d ∧ d < 4294967296) : aval (hd s d p t i al all ++ b) 16 = d := by
  have := hlen_range al
  unfold aval
  rw [frame_get _ _ _ _ _ _ _ _ _ (by omega) (by omega) (by omega), frame_get _ _ _ _ _ _ _ _ _ (by omega) (by omega) (by omega), frame_get _ _ _ _ _ _ _ _ _ (by omega) (by omega) (by omega), frame_get _ _ _ _ _ _ _ _ _ (by omega) (by omega) (by omega)]
  show d / 16777216 % 256 * 16777216 + d / 65536 % 256 * 65536 + d / 256 % 256 * 256 + d % 256 = d
  omega
theorem frame_id (hi : 0 ≤ i ∧ i < 65536) : fId (hd s d p t i al all ++ b) = i := by unfold fId; rw [frame4, frame5]; omega
theorem frame_all (h : 0 ≤ all ∧ all ≤ 1500) : fAll (hd s d p t i al all ++ b) = all := by unfold fAll; rw [frame2, frame3]; omega
theorem frame_al : fAl (hd s d p t i al all ++ b) = al := by unfold fAl; rw [frame0]; cases al <;> rfl
theorem frame_take : (hd s d p t i al all ++ b).take (hlen al) = hd s d p t i al all := by
  rw [List.take_append_of_le_length (by rw [hd_len]; exact Nat.le_refl _), List.take_of_length_le (by rw [hd_len]; exact Nat.le_refl _)]
theorem frame_sum (h : HOk s d p t i) : sumOf (hd s d p t i al all) = 0 := putOf_whole _ _ (raw_byt h al all) (by omega) (by rw [raw_len]; have := hlen_range al; omega)
theorem frame_opt (h : al = true) : ((hd s d p t i al all ++ b).take 24).drop 20 = [148, 4, 0, 0] := by
  subst h
  have hl : hlen true = 24 := rfl
  rw [four _ 20 (by rw [List.length_append, hd_len, hl]; omega)]
  rw [frame_get _ _ _ _ _ _ _ _ _ (by omega) (by omega) (by omega), frame_get _ _ _ _ _ _ _ _ _ (by omega) (by omega) (by omega), frame_get _ _ _ _ _ _ _ _ _ (by omega) (by omega) (by omega), frame_get _ _ _ _ _ _ _ _ _ (by omega) (by omega) (by omega)]
  rfl
theorem frame_odd (h : (hlen al : Int) ≤ all ∧ all ≤ 1500) : odd (hd s d p t i al all ++ b) = false := by
  have := hlen_range al
  unfold odd
  rw [frame1, frame6, frame7, frame_al, frame_all _ _ _ _ _ _ _ _ (by omega)]
  cases al with
  | true => rw [frame_opt _ _ _ _ _ _ _ _ rfl]; simp; omega
  | false => simp; omega
theorem frame_same (h : HOk s d p t i) (ha : 0 ≤ all ∧ all ≤ 1500) : differs (hd s d p t i al all ++ b) = false := by
  have := hlen_range al
  unfold differs
  rw [frame12 _ _ _ _ _ _ _ _ h.1, frame16 _ _ _ _ _ _ _ _ h.2.1, frame9, frame8, frame_id _ _ _ _ _ _ _ _ h.2.2.2.2, frame_al, frame_all _ _ _ _ _ _ _ _ ha]
  rw [rd_append_left _ _ 10 (by omega) (by rw [hd_len]; omega), rd_append_left _ _ 11 (by omega) (by rw [hd_len]; omega)]
  simp
end

/-- A frame, with anything behind, is read back. -/
theorem dec_frame {s d p t i : Int} (h : HOk s d p t i) (al : Bool) (b more : List Int) (hl : hlen al + b.length ≤ 1500) :
    dec (hd s d p t i al ((hlen al + b.length : Nat) : Int) ++ (b ++ more)) = (s, d, p, t, i, al, b, 0) := by
  have hh := hlen_range al
  have hlen' : (hd s d p t i al ((hlen al + b.length : Nat) : Int) ++ (b ++ more)).length = hlen al + (b.length + more.length) := by rw [List.length_append, hd_len, List.length_append]
  unfold dec
  rw [frame_al, frame_all _ _ _ _ _ _ _ _ (by omega), frame_take, frame_sum _ _ _ _ _ _ _ h, frame_odd _ _ _ _ _ _ _ _ (by omega), frame_same _ _ _ _ _ _ _ _ h (by omega)]
  rw [if_neg (by omega), if_neg (by rw [frame0]; cases al <;> simp), if_neg (by omega), if_neg (by simp), if_neg (by simp), if_neg (by omega), if_neg (by simp)]
  rw [frame12 _ _ _ _ _ _ _ _ h.1, frame16 _ _ _ _ _ _ _ _ h.2.1, frame9, frame8, frame_id _ _ _ _ _ _ _ _ h.2.2.2.2]
  rw [Int.toNat_natCast]
  congr 7
  rw [List.take_append, hd_len, List.take_of_length_le (by rw [hd_len]; omega), show hlen al + b.length - hlen al = b.length from by omega, List.take_left', List.drop_left' (hd_len _ _ _ _ _ _ _)]
  rfl
/-- What is wrong has no header and no bytes. -/
theorem dec_wrong (f : List Int) : (dec f).2.2.2.2.2.2.2 ≠ 0 → dec f = W (dec f).2.2.2.2.2.2.2 := by
  intro h
  unfold dec at h ⊢
  split
  · rfl
  split
  · rfl
  split
  · rfl
  split
  · rfl
  split
  · rfl
  split
  · rfl
  split
  · rfl
  rename_i h1 h2 h3 h4 h5 h6 h7
  rw [if_neg h1, if_neg h2, if_neg h3, if_neg h4, if_neg h5, if_neg h6, if_neg h7] at h
  exact absurd rfl h
/-- What is right was told so. -/
theorem dec_right {f : List Int} (h : (dec f).2.2.2.2.2.2.2 = 0) :
    dec f = (aval f 12, aval f 16, rd f 9, rd f 8, fId f, fAl f, (f.take (fAll f).toNat).drop (hlen (fAl f)), 0) ∧ (rd f 0 = 69 ∨ rd f 0 = 70) ∧ hlen (fAl f) ≤ f.length ∧ 20 ≤ f.length ∧ sumOf (f.take (hlen (fAl f))) = 0 ∧
      (hlen (fAl f) : Int) ≤ fAll f ∧ fAll f ≤ 1500 ∧ fAll f ≤ f.length ∧ odd f = false ∧ differs f = false := by
  unfold dec at h ⊢
  by_cases h1 : f.length < 20
  · rw [if_pos h1] at h; exact absurd h (by simp [W])
  rw [if_neg h1] at h ⊢
  by_cases h2 : rd f 0 ≠ 69 ∧ rd f 0 ≠ 70
  · rw [if_pos h2] at h; exact absurd h (by simp [W])
  rw [if_neg h2] at h ⊢
  by_cases h3 : f.length < hlen (fAl f)
  · rw [if_pos h3] at h; exact absurd h (by simp [W])
  rw [if_neg h3] at h ⊢
  by_cases h4 : sumOf (f.take (hlen (fAl f))) ≠ 0
  · rw [if_pos h4] at h; exact absurd h (by simp [W])
  rw [if_neg h4] at h ⊢
  by_cases h5 : odd f = true
  · rw [if_pos h5] at h; exact absurd h (by simp [W])
  rw [if_neg h5] at h ⊢
  by_cases h6 : (f.length : Int) < fAll f
  · rw [if_pos h6] at h; exact absurd h (by simp [W])
  rw [if_neg h6] at h ⊢
  by_cases h7 : differs f = true
  · rw [if_pos h7] at h; exact absurd h (by simp [W])
  rw [if_neg h7]
  have ho : odd f = false := by simpa using h5
  have ho' := ho
  unfold odd at ho'
  simp only [Bool.or_eq_false_iff, decide_eq_false_iff_not] at ho'
  refine ⟨rfl, by omega, by omega, by omega, by omega, by omega, by omega, by omega, ho, by simpa using h7⟩
/-- Two bytes of a number. -/
theorem bytes_ext {a b : List Int} (hl : a.length = b.length) (h : ∀ n, n < a.length → a.getD n 0 = b.getD n 0) : a = b := by
  apply List.ext_getElem hl
  intro n h1 h2
  have := h n h1
  rw [List.getD_eq_getElem?_getD, List.getD_eq_getElem?_getD, List.getElem?_eq_getElem h1, List.getElem?_eq_getElem h2] at this
  exact this
theorem take_get (l : List Int) (m n : Nat) (h : n < m) : (l.take m).getD n 0 = l.getD n 0 := by
  rw [List.getD_eq_getElem?_getD, List.getD_eq_getElem?_getD, List.getElem?_take_of_lt h]
theorem dec_head {f : List Int} (hb : Byt f) (h : (dec f).2.2.2.2.2.2.2 = 0) : f.take (hlen (fAl f)) = hd (aval f 12) (aval f 16) (rd f 9) (rd f 8) (fId f) (fAl f) (fAll f) := by
  obtain ⟨_, h0, h1, h2, h3, h4, h5, h6, ho, hd'⟩ := dec_right h
  have hh := hlen_range (fAl f)
  unfold odd at ho
  simp only [Bool.or_eq_false_iff, bne_eq_false_iff_eq, decide_eq_false_iff_not] at ho
  obtain ⟨⟨⟨⟨⟨o1, o6⟩, o7⟩, oo⟩, _⟩, _⟩ := ho
  unfold differs at hd'
  simp only [Bool.or_eq_false_iff, bne_eq_false_iff_eq] at hd'
  have g := fun n => hb.getD n
  refine bytes_ext (by rw [List.length_take, hd_len]; omega) ?_
  intro n hn
  rw [List.length_take] at hn
  rw [take_get _ _ _ (by omega)]
  by_cases e10 : n = 10
  · subst e10; exact hd'.1.symm
  by_cases e11 : n = 11
  · subst e11; exact hd'.2.symm
  rw [hd_get _ _ _ _ _ _ _ _ e10 e11]
  have a4 : (f.take 24).drop 20 = [148, 4, 0, 0] ∨ fAl f = false := by
    cases hal : fAl f with
    | true => rw [hal] at oo; left; simpa using oo
    | false => right; rfl
  have hn24 : n < 24 := by omega
  have G := fun m => g m
  have r : ∀ m : Nat, rd f (m : Int) = f.getD m 0 := fun m => rfl
  have r0 : f.getD 0 0 = 69 ∨ f.getD 0 0 = 70 := h0
  have c0 : (raw (aval f 12) (aval f 16) (rd f 9) (rd f 8) (fId f) (fAl f) (fAll f)).getD 0 0 = if fAl f then 70 else 69 := rfl
  unfold raw abytes
  rcases (show n = 0 ∨ n = 1 ∨ n = 2 ∨ n = 3 ∨ n = 4 ∨ n = 5 ∨ n = 6 ∨ n = 7 ∨ n = 8 ∨ n = 9 ∨ n = 12 ∨ n = 13 ∨ n = 14 ∨ n = 15 ∨ n = 16 ∨ n = 17 ∨ n = 18 ∨ n = 19 ∨ n = 20 ∨ n = 21 ∨ n = 22 ∨ n = 23 by omega) with rfl | rfl | rfl | rfl | rfl | rfl | rfl | rfl | rfl | rfl | rfl | rfl | rfl | rfl | rfl | rfl | rfl | rfl | rfl | rfl | rfl | rfl
  · show f.getD 0 0 = if fAl f then 70 else 69
    unfold fAl
    rw [show rd f 0 = f.getD 0 0 from rfl]
    rcases r0 with e | e <;> rw [e] <;> rfl
  · exact o1
  · show f.getD 2 0 = fAll f / 256 % 256
    unfold fAll; rw [show rd f 2 = f.getD 2 0 from rfl, show rd f 3 = f.getD 3 0 from rfl]
    have := G 2; have := G 3; omega
  · show f.getD 3 0 = fAll f % 256
    unfold fAll; rw [show rd f 2 = f.getD 2 0 from rfl, show rd f 3 = f.getD 3 0 from rfl]
    have := G 2; have := G 3; omega
  · show f.getD 4 0 = fId f / 256 % 256
    unfold fId; rw [show rd f 4 = f.getD 4 0 from rfl, show rd f 5 = f.getD 5 0 from rfl]
    have := G 4; have := G 5; omega
  · show f.getD 5 0 = fId f % 256
    unfold fId; rw [show rd f 4 = f.getD 4 0 from rfl, show rd f 5 = f.getD 5 0 from rfl]
    have := G 4; have := G 5; omega
  · exact o6
  · exact o7
  · rfl
  · rfl
  · show f.getD 12 0 = aval f 12 / 16777216 % 256
    simp only [aval, Nat.reduceAdd]; have := G 12; have := G 13; have := G 14; have := G 15; omega
  · show f.getD 13 0 = aval f 12 / 65536 % 256
    simp only [aval, Nat.reduceAdd]; have := G 12; have := G 13; have := G 14; have := G 15; omega
  · show f.getD 14 0 = aval f 12 / 256 % 256
    simp only [aval, Nat.reduceAdd]; have := G 12; have := G 13; have := G 14; have := G 15; omega
  · show f.getD 15 0 = aval f 12 % 256
    simp only [aval, Nat.reduceAdd]; have := G 12; have := G 13; have := G 14; have := G 15; omega
  · show f.getD 16 0 = aval f 16 / 16777216 % 256
    simp only [aval, Nat.reduceAdd]; have := G 16; have := G 17; have := G 18; have := G 19; omega
  · show f.getD 17 0 = aval f 16 / 65536 % 256
    simp only [aval, Nat.reduceAdd]; have := G 16; have := G 17; have := G 18; have := G 19; omega
  · show f.getD 18 0 = aval f 16 / 256 % 256
    simp only [aval, Nat.reduceAdd]; have := G 16; have := G 17; have := G 18; have := G 19; omega
  · show f.getD 19 0 = aval f 16 % 256
    simp only [aval, Nat.reduceAdd]; have := G 16; have := G 17; have := G 18; have := G 19; omega
  all_goals
    rcases a4 with a4 | a4
    · have hal : fAl f = true := by
        cases hc : fAl f with
        | true => rfl
        | false => rw [hc] at hn; have e : hlen false = 20 := rfl; omega
      rw [hal] at h1
      rw [four f 20 (by simpa [hlen] using h1)] at a4
      simp only [List.cons.injEq] at a4
      rw [hal]
      first | exact a4.1 | exact a4.2.1 | exact a4.2.2.1 | exact a4.2.2.2.1
    · rw [a4] at hn; have e : hlen false = 20 := rfl; omega
/-- What is read of bytes has these bytes. -/
theorem dec_enc {f : List Int} (hb : Byt f) (h : (dec f).2.2.2.2.2.2.2 = 0) :
    enc (aval f 12) (aval f 16) (rd f 9) (rd f 8) (fId f) (fAl f) ((f.take (fAll f).toNat).drop (hlen (fAl f))) = (f.take (fAll f).toNat, 0) := by
  obtain ⟨_, h0, h1, h2, h3, h4, h5, h6, ho, hd'⟩ := dec_right h
  have hh := hlen_range (fAl f)
  have hl : ((f.take (fAll f).toNat).drop (hlen (fAl f))).length = (fAll f).toNat - hlen (fAl f) := by rw [List.length_drop, List.length_take]; omega
  unfold enc
  rw [show ((hlen (fAl f) : Int) + ((f.take (fAll f).toNat).drop (hlen (fAl f))).length) = fAll f from by rw [hl]; omega, if_neg (by omega), ← dec_head hb h]
  congr 1
  conv => rhs; rw [← List.take_append_drop (hlen (fAl f)) (f.take (fAll f).toNat)]
  rw [List.take_take, Nat.min_eq_left (by omega)]
/-- A frame that ends ahead of its end is too short. -/
theorem dec_cut {s d p t i : Int} (h : HOk s d p t i) (al : Bool) (b : List Int) (hl : hlen al + b.length ≤ 1500) (m : Nat) (hm : m < hlen al + b.length) :
    dec ((hd s d p t i al ((hlen al + b.length : Nat) : Int) ++ b).take m) = W 3 := by
  have hh := hlen_range al
  have hL : ((hd s d p t i al ((hlen al + b.length : Nat) : Int) ++ b).take m).length = m := by rw [List.length_take, List.length_append, hd_len]; omega
  by_cases c1 : m < 20
  · unfold dec
    rw [if_pos (by omega)]
  by_cases c2 : m < hlen al
  · have e0 : rd ((hd s d p t i al ((hlen al + b.length : Nat) : Int) ++ b).take m) 0 = if al then 70 else 69 := by
      rw [show (0 : Int) = ((0 : Nat) : Int) from rfl, rd_nat, take_get _ _ _ (by omega)]
      exact frame0 s d p t i al _ b
    have ea : fAl ((hd s d p t i al ((hlen al + b.length : Nat) : Int) ++ b).take m) = al := by unfold fAl; rw [e0]; cases al <;> rfl
    unfold dec
    rw [ea, if_neg (by omega), if_neg (by rw [e0]; cases al <;> simp), if_pos (by omega)]
  · have e : (hd s d p t i al ((hlen al + b.length : Nat) : Int) ++ b).take m = hd s d p t i al ((hlen al + b.length : Nat) : Int) ++ b.take (m - hlen al) := by
      rw [List.take_append, hd_len, List.take_of_length_le (by rw [hd_len]; omega)]
    rw [e] at hL ⊢
    unfold dec
    rw [frame_al, frame_all _ _ _ _ _ _ _ _ (by omega), frame_take, frame_sum _ _ _ _ _ _ _ h, frame_odd _ _ _ _ _ _ _ _ (by omega)]
    rw [if_neg (by omega), if_neg (by rw [frame0]; cases al <;> simp), if_neg (by omega), if_neg (by simp), if_neg (by simp), if_pos (by omega)]
theorem enc_len {s d p t i : Int} (h : HOk s d p t i) (al : Bool) {b : List Int} (hb : Byt b) : Byt (enc s d p t i al b).1 ∧ (enc s d p t i al b).1.length ≤ 1500 := by
  unfold enc
  split
  · exact ⟨fun z hz => by simp at hz, by simp⟩
  · exact ⟨Byt.append (hd_byt h _ _) hb, by simp only [List.length_append, hd_len]; omega⟩
theorem enc_some (s d p t i : Int) (al : Bool) (b : List Int) (hl : hlen al + b.length ≤ 1500) : enc s d p t i al b = (hd s d p t i al ((hlen al + b.length : Nat) : Int) ++ b, 0) := by
  unfold enc
  rw [if_neg (by omega)]
  simp
end Go.Proofs.Ytlaanmkangikbaa
