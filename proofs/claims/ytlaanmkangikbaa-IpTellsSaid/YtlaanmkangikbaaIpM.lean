/-
  Frames, in plain lists: what a frame is read as.
-/
import Derived.Test.YtlaanmkangikbaaIpL
namespace Go.Proofs.Ytlaanmkangikbaa
open Go.RowKit Go.Proofs.YtlaanmkangikbaaW.PrintWords Go.Proofs.YtlaanmkangikbaaW.PrintLast Go.Proofs.YtlaanmkangikbaaW.PrintMore Go.Proofs.Ytlaanmkangikbaa.PIp

theorem rd_append_left (a b : List Int) (i : Int) (h0 : 0 ≤ i) (h : i < a.length) : rd (a ++ b) i = rd a i := by
  unfold rd
  rw [List.getD_eq_getElem?_getD, List.getD_eq_getElem?_getD, List.getElem?_append_left (by omega)]
theorem four (l : List Int) (n : Nat) (h : n + 4 ≤ l.length) : (l.take (n + 4)).drop n = [l.getD n 0, l.getD (n + 1) 0, l.getD (n + 2) 0, l.getD (n + 3) 0] := by
  apply List.ext_getElem
  · simp; omega
  · intro i h1 h2
    simp only [List.length_cons, List.length_nil] at h2
    rw [List.getElem_drop, List.getElem_take]
    rcases (show i = 0 ∨ i = 1 ∨ i = 2 ∨ i = 3 by omega) with rfl | rfl | rfl | rfl <;> simp <;> rw [List.getElem?_eq_getElem (by omega)] <;> rfl
theorem bytes_equal {a b : List Int} (ha : Byt a) (hb : Byt b) : bytes_Equal.f a b = some (a == b) := by
  unfold bytes_Equal.f
  rw [Lib.strOfNums_toList, Lib.strOfNums_toList]
  congr 1
  rw [Bool.eq_iff_iff, beq_iff_eq, beq_iff_eq]
  refine ⟨fun h => ?_, fun h => by rw [h]⟩
  unfold Lib.bytesOf at h
  have key : ∀ (x y : List Int), Byt x → Byt y → x.map (fun n => UInt8.ofNat n.toNat) = y.map (fun n => UInt8.ofNat n.toNat) → x = y := by
    intro x
    induction x with
    | nil => intro y _ _ e; cases y with
      | nil => rfl
      | cons _ _ => simp at e
    | cons u x ih => intro y hx hy e; cases y with
      | nil => simp at e
      | cons v y =>
        simp only [List.map_cons, List.cons.injEq] at e
        have hu := hx u (by simp)
        have hv := hy v (by simp)
        have e1 := congrArg UInt8.toNat e.1
        simp only [UInt8.toNat_ofNat'] at e1
        rw [ih y (fun z hz => hx z (by simp [hz])) (fun z hz => hy z (by simp [hz])) e.2, show u = v from by omega]
  exact key a b ha hb h

/-- An address in a row. -/
def aval (f : List Int) (n : Nat) : Int := f.getD n 0 * 16777216 + f.getD (n + 1) 0 * 65536 + f.getD (n + 2) 0 * 256 + f.getD (n + 3) 0
def fId (f : List Int) : Int := rd f 4 * 256 + rd f 5
def fAll (f : List Int) : Int := rd f 2 * 256 + rd f 3
def fAl (f : List Int) : Bool := rd f 0 == 70
theorem read_some {f : List Int} (hb : Byt f) (hl : 20 ≤ f.length) (k : Nat) : ip_read.f (k + 5) f = some (aval f 12, aval f 16, rd f 9, rd f 8, fId f, fAl f, fAll f) := by
  unfold ip_read.f
  rw [if_pos (by omega), if_pos (by omega), if_pos (by omega), if_pos (by omega), if_pos (by omega), if_pos (by omega), if_pos (by omega)]
  rw [four f 12 (by omega), addr_of_some (hb.getD _) (hb.getD _) (hb.getD _) (hb.getD _), Option.bind_some]
  rw [if_pos (by omega), if_pos (by omega), four f 16 (by omega), addr_of_some (hb.getD _) (hb.getD _) (hb.getD _) (hb.getD _), Option.bind_some, if_pos (by omega), if_pos (by omega)]
  rw [or16 (hb.rd 4).1 (hb.rd 4).2 (hb.rd 5).1 (hb.rd 5).2, or64 (hb.rd 2).1 (hb.rd 2).2 (hb.rd 3).1 (hb.rd 3).2]
  rfl
theorem fields_ok {f : List Int} (hb : Byt f) : HOk (aval f 12) (aval f 16) (rd f 9) (rd f 8) (fId f) := by
  have h := fun n => hb.getD n
  have g := fun n => hb.rd n
  unfold HOk aval fId
  have := h 12; have := h 13; have := h 14; have := h 15; have := h 16; have := h 17; have := h 18; have := h 19
  have := g 9; have := g 8; have := g 4; have := g 5
  simp only [Nat.reduceAdd]
  omega

/-- What is no frame. -/
abbrev Hdr := Int × Int × Int × Int × Int × Bool × List Int × Int
def W (e : Int) : Hdr := (0, 0, 0, 0, 0, false, [], e)
/-- The header's sum, anew, isn't there. -/
def differs (f : List Int) : Bool := rd (hd (aval f 12) (aval f 16) (rd f 9) (rd f 8) (fId f) (fAl f) (fAll f)) 10 != rd f 10 || rd (hd (aval f 12) (aval f 16) (rd f 9) (rd f 8) (fId f) (fAl f) (fAll f)) 11 != rd f 11
/-- Its form is none. -/
def odd (f : List Int) : Bool := rd f 1 != 0 || rd f 6 != 0 || rd f 7 != 0 || (fAl f && !(((f.take 24).drop 20) == [148, 4, 0, 0])) || decide (fAll f < hlen (fAl f)) || decide (fAll f > 1500)
/-- What a row is read as. -/
def dec (f : List Int) : Hdr :=
  if f.length < 20 then W 3
  else if rd f 0 ≠ 69 ∧ rd f 0 ≠ 70 then W 2
  else if f.length < hlen (fAl f) then W 3
  else if sumOf (f.take (hlen (fAl f))) ≠ 0 then W 4
  else if odd f = true then W 2
  else if (f.length : Int) < fAll f then W 3
  else if differs f = true then W 4
  else (aval f 12, aval f 16, rd f 9, rd f 8, fId f, fAl f, (f.take (fAll f).toNat).drop (hlen (fAl f)), 0)

theorem wrong_some (e : Int) : (ip_Decode_1.f e).bind (fun b => some (b.1, b.2.1, b.2.2.1, b.2.2.2.1, b.2.2.2.2.1, b.2.2.2.2.2.1, b.2.2.2.2.2.2.1, b.2.2.2.2.2.2.2)) = some (W e) := rfl

theorem j2_some {f : List Int} (hl : f.length ≤ 1000000) (n m : Int) (h0 : 0 ≤ n) (h1 : n ≤ m) (h2 : m ≤ f.length) (x : Bool) (s d p t i : Int) (al : Bool) (k : Nat) :
    ip_Decode.j2 (k + 1) f n m x s d p t i al = some (if x = true then W 4 else (s, d, p, t, i, al, (f.take m.toNat).drop n.toNat, 0)) := by
  rw [ip_Decode.j2, wrong_some]
  cases x with
  | true => rw [if_pos rfl, if_pos rfl]
  | false =>
    rw [if_neg Bool.false_ne_true, if_neg Bool.false_ne_true, if_pos h0, if_pos h1, if_pos h2]
    unfold slices_Clone.f
    rw [if_pos (by rw [List.length_drop, List.length_take]; omega)]
    rfl
theorem j1_some {f : List Int} (hb : Byt f) (hl : f.length ≤ 1000000) (h20 : 20 ≤ f.length) (x : Bool) (hx : x = false → (hlen (fAl f) : Int) ≤ fAll f ∧ fAll f ≤ 1500) (k : Nat) :
    ip_Decode.j1 (k + 8) f (hlen (fAl f)) (fAll f) x (aval f 12) (aval f 16) (rd f 9) (rd f 8) (fId f) (fAl f) =
      some (if x = true then W 2 else if (f.length : Int) < fAll f then W 3 else if differs f = true then W 4 else (aval f 12, aval f 16, rd f 9, rd f 8, fId f, fAl f, (f.take (fAll f).toNat).drop (hlen (fAl f)), 0)) := by
  rw [show k + 8 = (k + 7) + 1 from rfl, ip_Decode.j1, wrong_some, wrong_some]
  cases x with
  | true => rw [if_pos rfl, if_pos rfl]
  | false =>
    obtain ⟨h1, h2⟩ := hx rfl
    rw [if_neg Bool.false_ne_true, if_neg Bool.false_ne_true]
    by_cases c : (f.length : Int) < fAll f
    · rw [if_pos c, if_pos c]
    · have hh : 20 ≤ hlen (fAl f) ∧ hlen (fAl f) ≤ 24 := by cases fAl f <;> simp [hlen]
      have hbl : ((f.take (fAll f).toNat).drop (hlen (fAl f) : Int).toNat).length = (fAll f).toNat - hlen (fAl f) := by rw [List.length_drop, List.length_take]; omega
      have hal : (hlen (fAl f) : Int) + ((f.take (fAll f).toNat).drop (hlen (fAl f) : Int).toNat).length = fAll f := by rw [hbl]; omega
      rw [if_neg c, if_neg c, if_pos (by omega), if_pos h1, if_pos (by omega)]
      rw [show k + 7 = (k + 1) + 6 from rfl, encode_some (fields_ok hb) _ _ (by rw [hbl]; omega), Option.bind_some]
      rw [show enc (aval f 12) (aval f 16) (rd f 9) (rd f 8) (fId f) (fAl f) ((f.take (fAll f).toNat).drop (hlen (fAl f) : Int).toNat) = (hd (aval f 12) (aval f 16) (rd f 9) (rd f 8) (fId f) (fAl f) (fAll f) ++ (f.take (fAll f).toNat).drop (hlen (fAl f) : Int).toNat, 0) from by unfold enc; rw [hal, if_neg (by omega)]]
      have hlen2 := hd_len (aval f 12) (aval f 16) (rd f 9) (rd f 8) (fId f) (fAl f) (fAll f)
      simp only [List.length_append]
      rw [if_pos (by omega), if_pos (by omega), rd_append_left _ _ 10 (by omega) (by omega), rd_append_left _ _ 11 (by omega) (by omega)]
      by_cases c1 : rd (hd (aval f 12) (aval f 16) (rd f 9) (rd f 8) (fId f) (fAl f) (fAll f)) 10 = rd f 10
      · rw [if_pos c1, if_pos (by omega), if_pos (by omega), show k + 1 + 6 = (k + 6) + 1 from rfl, j2_some hl _ _ (by omega) h1 (by omega)]
        rw [show differs f = (rd (hd (aval f 12) (aval f 16) (rd f 9) (rd f 8) (fId f) (fAl f) (fAll f)) 11 != rd f 11) from by unfold differs; rw [c1]; simp]
        rfl
      · rw [if_neg c1, show k + 1 + 6 = (k + 6) + 1 from rfl, j2_some hl _ _ (by omega) h1 (by omega)]
        rw [show differs f = true from by unfold differs; rw [bne_iff_ne.2 c1]; rfl]
        rfl
theorem j0_some {f : List Int} (hb : Byt f) (hl : f.length ≤ 1000000) (h20 : 20 ≤ f.length) (x : Bool) (k : Nat) :
    ip_Decode.j0 (k + 9) f x = some (if x = true then W 2 else if f.length < hlen (fAl f) then W 3
      else if sumOf (f.take (hlen (fAl f))) ≠ 0 then W 4
      else if odd f = true then W 2
      else if (f.length : Int) < fAll f then W 3
      else if differs f = true then W 4
      else (aval f 12, aval f 16, rd f 9, rd f 8, fId f, fAl f, (f.take (fAll f).toNat).drop (hlen (fAl f)), 0)) := by
  rw [show k + 9 = (k + 8) + 1 from rfl, ip_Decode.j0, wrong_some, wrong_some, wrong_some]
  cases x with
  | true => rw [if_pos rfl, if_pos rfl]
  | false =>
    rw [if_neg Bool.false_ne_true, if_neg Bool.false_ne_true, if_pos (by omega)]
    have hs : ip_size.f (rd f 0 == 70) = some (hlen (fAl f) : Int) := by unfold fAl; cases (rd f 0 == 70) <;> rfl
    rw [hs, Option.bind_some]
    by_cases c : f.length < hlen (fAl f)
    · rw [if_pos (by omega), if_pos c]
    · rw [if_neg (by omega), if_neg c, show k + 8 = (k + 3) + 5 from rfl, read_some hb h20, Option.bind_some, if_pos (by omega), if_pos (by omega)]
      rw [show ((hlen (fAl f) : Nat) : Int).toNat = hlen (fAl f) from Int.toNat_natCast _, whole_some (hb.take _) (by rw [List.length_take]; omega), Option.bind_some]
      by_cases c2 : sumOf (f.take (hlen (fAl f))) = 0
      · rw [if_pos (show (sumOf (f.take (hlen (fAl f))) == 0) = true by simp [c2]), if_neg (show ¬ (sumOf (f.take (hlen (fAl f))) ≠ 0) by simp [c2])]
        have J : ∀ x : Bool, x = odd f → (x = false → (hlen (fAl f) : Int) ≤ fAll f ∧ fAll f ≤ 1500) → ip_Decode.j1 (k + 3 + 5) f (hlen (fAl f)) (fAll f) x (aval f 12) (aval f 16) (rd f 9) (rd f 8) (fId f) (fAl f) = some (if odd f = true then W 2 else if (f.length : Int) < fAll f then W 3 else if differs f = true then W 4 else (aval f 12, aval f 16, rd f 9, rd f 8, fId f, fAl f, (f.take (fAll f).toNat).drop (hlen (fAl f)), 0)) := by
          intro x e hx
          rw [← e]
          exact j1_some hb hl h20 x hx k
        rw [if_pos (by omega)]
        by_cases c3 : rd f 1 = 0
        · rw [if_pos c3, if_pos (by omega)]
          by_cases c4 : rd f 6 = 0
          · rw [if_pos c4, if_pos (by omega)]
            by_cases c5 : rd f 7 = 0
            · rw [if_pos c5]
              by_cases c6 : fAl f = true
              · have h24 : 24 ≤ f.length := by rw [c6] at c; simpa [hlen] using c
                simp only
                rw [if_pos c6, if_pos (by omega), if_pos (by omega), show ip_option.f = some [148, 4, 0, 0] from rfl, Option.bind_some, bytes_equal ((hb.take _).drop _) (by intro z hz; simp at hz; omega), Option.bind_some]
                by_cases c7 : ((f.take 24).drop 20 == ([148, 4, 0, 0] : List Int)) = true
                · rw [if_pos c7]
                  by_cases c8 : fAll f < hlen (fAl f)
                  · rw [if_pos c8]
                    exact J true (by unfold odd; simp [c8]) (by simp)
                  · rw [if_neg c8]
                    exact J _ (by unfold odd; simp only [c3, c4, c5, c6, c7]; simp; intro h; rw [c6] at c8; omega) (fun h => ⟨by omega, by simpa using h⟩)
                · rw [if_neg c7]
                  exact J true (by unfold odd; rw [Bool.eq_false_iff.2 c7, c6]; simp) (by simp)
              · simp only
                rw [if_neg c6]
                by_cases c8 : fAll f < hlen (fAl f)
                · rw [if_pos c8]
                  exact J true (by unfold odd; simp [c8]) (by simp)
                · rw [if_neg c8]
                  exact J _ (by unfold odd; simp only [c3, c4, c5, Bool.eq_false_iff.2 c6]; simp; intro h; rw [Bool.eq_false_iff.2 c6] at c8; omega) (fun h => ⟨by omega, by simpa using h⟩)
            · rw [if_neg c5]
              exact J true (by unfold odd; rw [bne_iff_ne.2 c5]; simp) (by simp)
          · rw [if_neg c4]
            exact J true (by unfold odd; rw [bne_iff_ne.2 c4]; simp) (by simp)
        · rw [if_neg c3]
          exact J true (by unfold odd; rw [bne_iff_ne.2 c3]; simp) (by simp)
      · rw [if_neg (show ¬ ((sumOf (f.take (hlen (fAl f))) == 0) = true) by simp [c2]), if_pos c2]
theorem decode_some {f : List Int} (hb : Byt f) (hl : f.length ≤ 1000000) (k : Nat) : ip_Decode.f (k + 9) f = some (dec f) := by
  unfold ip_Decode.f dec
  rw [wrong_some]
  by_cases c : f.length < 20
  · rw [if_pos (by omega), if_pos c]
  · rw [if_neg (by omega), if_neg c, if_pos (by omega)]
    by_cases c1 : rd f 0 = 69
    · rw [if_pos c1, j0_some hb hl (by omega), if_neg Bool.false_ne_true, if_neg (show ¬ (rd f 0 ≠ 69 ∧ rd f 0 ≠ 70) from fun h => h.1 c1)]
    · rw [if_neg c1, j0_some hb hl (by omega)]
      by_cases c2 : rd f 0 = 70
      · rw [if_neg (show ¬ ((rd f 0 != 70) = true) by simp [c2]), if_neg (show ¬ (rd f 0 ≠ 69 ∧ rd f 0 ≠ 70) from fun h => h.2 c2)]
      · rw [if_pos (show (rd f 0 != 70) = true by simpa using c2), if_pos (show rd f 0 ≠ 69 ∧ rd f 0 ≠ 70 from ⟨c1, c2⟩)]
end Go.Proofs.Ytlaanmkangikbaa
