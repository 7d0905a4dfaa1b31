/-
  The document's reader of messages reads as igmp.Decode does.
-/
import Derived.Test.YtmmjmncchckbbaaIgZr
import Derived.Test.YtmmjmncchckbbaaIgX
import Derived.Test.YtmmjmncchckbbaaPIgx7
import Derived.Test.YtmmjmncchckbbaaIgC
import Derived.SizedLaws
import Derived.ChangeSlices
import Derived.ChangeArms
import Derived.Test.YtmmjmncchckbbaaVWords
namespace Go.Proofs.Ytmmjmncchckbbaa
open Go.RowKit Go.Proofs.YtmmjmncchckbbaaW.PrintWords Go.Proofs.YtmmjmncchckbbaaW.PrintLast Go.Proofs.Ytmmjmncchckbbaa.PIg
set_option linter.unusedVariables false
set_option linter.unusedSimpArgs false
theorem tk_long {m : Nat} {bs : List Int} (h : m ≤ bs.length) : tkx m bs false = bs.take m ∧ tkb m bs false = bs.drop m ∧ tks m bs false = false := by
  have hs : tks m bs false = false := by unfold tks; simp; omega
  obtain ⟨_, h2, h3⟩ := tk_ok hs
  exact ⟨h2, h3, hs⟩
theorem dcm_8 {l : List Int} (h8 : 8 ≤ l.length) (hs : sumOf l = 0) : dcm l = match readK l with | none => (msg0, 2) | some r => dcmK r := by
  unfold dcm
  rw [if_neg (by omega), if_pos hs]
  cases readK l <;> rfl
theorem dcmK_no {r : Msg × List Int × Bool} (h : r.2.2 = true) : dcmK r = (msg0, 3) := by unfold dcmK; rw [if_pos h]
theorem dcmK_yes {M : Msg} {rest : List Int} {q b : Bool} (hq : (rest.length = 0) = (q = false)) (hb : rightB M = b) : dcmK (M, rest, false) = (if q = false ∧ b = true then M else msg0, if q = false ∧ b = true then 0 else 2) := by
  unfold dcmK
  rw [if_neg Bool.false_ne_true]
  show (if 0 < rest.length then (msg0, 2) else if rightB M = true then (M, 0) else (msg0, 2)) = _
  by_cases h : rest.length = 0
  · have hq' : q = false := by rw [← hq]; exact h
    rw [if_neg (by omega), hb, hq']
    cases b <;> simp
  · have hq' : ¬ q = false := by rw [← hq]; exact h
    rw [if_pos (by omega), if_neg (fun h => hq' h.1), if_neg (fun h => hq' h.1)]
theorem and8q {f : Int} (h : U8 f) : (Go.bits .and .u8 f 8 != 0) = (Int.tdiv f 8 % 2 == 1) := by
  rw [and8 h, Int.tdiv_eq_ediv_of_nonneg h.1]
  by_cases c : f / 8 % 2 = 1
  · rw [if_pos c, c]; rfl
  · rw [if_neg c, beq_eq_false_iff_ne.2 c]; rfl
theorem way_of {l : List Int} (hb : Byt l) (hl : l.length ≤ 1000000) (h8 : 8 ≤ l.length) (hs : sumOf l = 0) : Way l (rd l 0) (rd l 1) (dcm l).1 (dcm l).2 := by
  rw [dcm_8 h8 hs]
  have hd4 : (l.drop 4).length = l.length - 4 := List.length_drop
  have hbd : Byt (l.drop 4) := fun z hz => hb z (List.mem_of_mem_drop hz)
  obtain ⟨t1, t2, t3⟩ := tk_long (m := 4) (bs := l.drop 4) (by rw [hd4]; omega)
  rw [List.drop_drop] at t2
  by_cases k17 : rd l 0 = 17
  · have hr : readK l = some (rdQuery (rd l 0) (rd l 1) (l.drop 4)) := by unfold readK; rw [if_pos k17]
    rw [hr]
    show Way l (rd l 0) (rd l 1) (dcmK (rdQuery (rd l 0) (rd l 1) (l.drop 4))).1 (dcmK (rdQuery (rd l 0) (rd l 1) (l.drop 4))).2
    rw [k17]
    by_cases h9 : l.length = 8
    · have hrest : (l.drop 8).length = 0 := by rw [List.length_drop]; omega
      cases hz : (rd l 1 == 0)
      · have e : rdQuery 17 (rd l 1) (l.drop 4) = (⟨17, 2, rd l 1, av (l.drop 4), false, 0, 0, [], []⟩, l.drop 8, false) := by
          unfold rdQuery
          rw [if_neg (by rw [hd4]; omega), hz, if_neg (by decide), t1, t2, t3, av_take]
        have hm := dcmK_yes (M := ⟨17, 2, rd l 1, av (l.drop 4), false, 0, 0, [], []⟩) (rest := l.drop 8) (q := false) (by simp [hrest]) rfl
        rw [e]
        refine .q2 rfl h9 hz _ rfl _ rfl ?_ ?_
        · rw [hm]; simp
        · rw [hm]; simp
      · have e : rdQuery 17 (rd l 1) (l.drop 4) = (⟨17, 1, rd l 1, 0, false, 0, 0, [], []⟩, l.drop 8, false) := by
          unfold rdQuery
          rw [if_neg (by rw [hd4]; omega), hz, if_pos rfl, t2, t3]
        have hm := dcmK_yes (M := ⟨17, 1, rd l 1, 0, false, 0, 0, [], []⟩) (rest := l.drop 8) (q := false) (by simp [hrest]) rfl
        rw [e]
        refine .q1 rfl h9 hz _ rfl _ rfl ?_ ?_
        · rw [hm]; simp
        · rw [hm]; simp
    · have e : rdQuery 17 (rd l 1) (l.drop 4) = (⟨17, 3, rd l 1, av (tkx 4 (l.drop 4) false), Go.bits .and .u8 (rd (qx (l.drop 4) false) 0) 8 != 0, Go.bits .and .u8 (rd (qx (l.drop 4) false) 0) 7, rd (qx (l.drop 4) false) 1, (qa (l.drop 4) false).1, []⟩, (qa (l.drop 4) false).2.1, (qa (l.drop 4) false).2.2) := by
        unfold rdQuery
        rw [if_pos (by rw [hd4]; omega)]
      rw [e]
      by_cases h12 : l.length < 12
      · have hsh : (qa (l.drop 4) false).2.2 = true := by
          cases h : (qa (l.drop 4) false).2.2
          · exfalso
            have := qa_len h
            rw [hd4] at this
            omega
          · rfl
        rw [dcmK_no hsh]
        exact .q3s rfl (by omega) h12 _ rfl rfl rfl
      · obtain ⟨u1, u2, u3⟩ := tk_long (m := 2) (bs := l.drop 8) (by rw [List.length_drop]; omega)
        rw [List.drop_drop] at u2
        obtain ⟨v1, v2, v3⟩ := tk_long (m := 2) (bs := l.drop 10) (by rw [List.length_drop]; omega)
        rw [List.drop_drop] at v2
        have ex : qx (l.drop 4) false = (l.drop 8).take 2 := by unfold qx; rw [t2, t3]; exact u1
        have eb : qb (l.drop 4) false = l.drop 10 := by unfold qb; rw [t2, t3]; exact u2
        have es : qs (l.drop 4) false = false := by unfold qs; rw [t2, t3]; exact u3
        have en : qn (l.drop 4) false = (be2 (l.drop 10)).toNat := by unfold qn; rw [eb, es, v1, be2_take]
        have ea : qa (l.drop 4) false = ads (be2 (l.drop 10)).toNat (l.drop 12) false := by unfold qa; rw [en, eb, es, v2, v3]
        have x0 : rd ((l.drop 8).take 2) 0 = rd l 8 := (rd_take (l := l.drop 8) (n := 2) (j := 0) (by omega)).trans (rd_drop l 8 0)
        have x1 : rd ((l.drop 8).take 2) 1 = rd l 9 := (rd_take (l := l.drop 8) (n := 2) (j := 1) (by omega)).trans (rd_drop l 8 1)
        have hn2 := be2_le hb 10
        obtain ⟨n, hn⟩ : ∃ n : Nat, be2 (l.drop 10) = (n : Int) := ⟨(be2 (l.drop 10)).toNat, (Int.toNat_of_nonneg hn2.1).symm⟩
        have hn3 : n ≤ 1000000 := by rw [hn] at hn2; omega
        rw [t1, ex, ea, x0, x1, av_take, hn, Int.toNat_natCast]
        have hd12 : (l.drop 12).length = l.length - 12 := List.length_drop
        by_cases c : l.length < 12 + 4 * n
        · have hsh : (ads n (l.drop 12) false).2.2 = true := by
            cases h : (ads n (l.drop 12) false).2.2
            · exfalso
              have := (ads_ok _ _ h).1
              rw [hd12] at this
              omega
            · rfl
          rw [dcmK_no hsh]
          exact .q3n rfl (by omega) _ rfl n hn hn3 [] (by rw [if_pos c]) rfl rfl
        · have hsh : (ads n (l.drop 12) false).2.2 = false := ads_long n _ (by rw [hd12]; omega)
          obtain ⟨i1, i2, i3⟩ := ads_ok _ _ hsh
          rw [hsh, i2]
          have hf : U8 (rd l 8) := rd_b hb 8
          rw [and8q hf, and7 hf, ← Int.tmod_eq_emod_of_nonneg hf.1]
          have hen : wrap64 (12 + wrap64 (4 * ((ads n (l.drop 12) false).1.length : Int))) = 12 + 4 * (n : Int) := by
            rw [i3, wr64 (i := 4 * (n : Int)) (by omega) (by omega), wr64 (by omega) (by omega)]
          have hm := dcmK_yes (M := ⟨17, 3, rd l 1, av (l.drop 4), Int.tdiv (rd l 8) 8 % 2 == 1, Int.tmod (rd l 8) 8, rd l 9, (ads n (l.drop 12) false).1, []⟩) (rest := (l.drop 12).drop (4 * n)) (q := ((12 + 4 * (n : Int)) != (l.length : Int)))
            (by rw [List.length_drop, hd12]; simp only [bne_eq_false_iff_eq, eq_iff_iff]; omega) rfl
          refine .q3 rfl (by omega) _ rfl n hn hn3 _ (by rw [if_neg c]) (by rw [i3]; exact hn3) _ rfl _ rfl _ rfl _ rfl _ hen _ _ rfl rfl ?_ ?_
          · rw [hm]
          · rw [hm]
  · by_cases kpl : rd l 0 = 18 ∨ rd l 0 = 22 ∨ rd l 0 = 23
    · have hr : readK l = some (rdPlain (rd l 0) (rd l 1) (l.drop 4)) := by unfold readK; rw [if_neg k17, if_pos kpl]
      rw [hr]
      show Way l (rd l 0) (rd l 1) (dcmK (rdPlain (rd l 0) (rd l 1) (l.drop 4))).1 (dcmK (rdPlain (rd l 0) (rd l 1) (l.drop 4))).2
      have e : rdPlain (rd l 0) (rd l 1) (l.drop 4) = (⟨rd l 0, 0, rd l 1, av (l.drop 4), false, 0, 0, [], []⟩, l.drop 8, false) := by
        unfold rdPlain
        rw [t1, t2, t3, av_take]
      have hm := dcmK_yes (M := ⟨rd l 0, 0, rd l 1, av (l.drop 4), false, 0, 0, [], []⟩) (rest := l.drop 8) (q := ((8 : Int) != (l.length : Int)))
        (by rw [List.length_drop]; simp only [bne_eq_false_iff_eq, eq_iff_iff]; omega) rfl
      rw [e]
      refine .plain kpl _ rfl _ _ rfl rfl ?_ ?_
      · rw [hm]
      · rw [hm]
    · by_cases k34 : rd l 0 = 34
      · have hr : readK l = some (rdReport (rd l 0) (rd l 1) (l.drop 4)) := by unfold readK; rw [if_neg k17, if_neg kpl, if_pos k34]
        rw [hr]
        show Way l (rd l 0) (rd l 1) (dcmK (rdReport (rd l 0) (rd l 1) (l.drop 4))).1 (dcmK (rdReport (rd l 0) (rd l 1) (l.drop 4))).2
        rw [k34]
        obtain ⟨u1, u2, u3⟩ := tk_long (m := 2) (bs := l.drop 4) (by rw [hd4]; omega)
        rw [List.drop_drop] at u2
        obtain ⟨v1, v2, v3⟩ := tk_long (m := 2) (bs := l.drop 6) (by rw [List.length_drop]; omega)
        rw [List.drop_drop] at v2
        have ex : be2 (rx (l.drop 4) false) = be2 (l.drop 4) := by unfold rx; rw [u1, be2_take]
        have eb : rb (l.drop 4) false = l.drop 6 := u2
        have es : rs (l.drop 4) false = false := u3
        have eb2 : rb2 (l.drop 4) false = l.drop 8 := by unfold rb2; rw [eb, es]; exact v2
        have es2 : rs2 (l.drop 4) false = false := by unfold rs2; rw [eb, es]; exact v3
        have en : rn (l.drop 4) false = (be2 (l.drop 6)).toNat := by unfold rn; rw [eb, es, v1, be2_take]
        have hn2 := be2_le hb 6
        have e : rdReport 34 (rd l 1) (l.drop 4) = (⟨34, 0, rd l 1, 0, false, 0, 0, [], if be2 (l.drop 4) = 0 then (rcs (be2 (l.drop 6)).toNat (l.drop 8) false).1 else List.replicate 33 z44⟩, (rcs (be2 (l.drop 6)).toNat (l.drop 8) false).2.1, (rcs (be2 (l.drop 6)).toNat (l.drop 8) false).2.2) := by
          unfold rdReport
          rw [ex, eb2, es2, en]
        rw [e]
        cases hsh : (rcs (be2 (l.drop 6)).toNat (l.drop 8) false).2.2
        · obtain ⟨i1, i2⟩ := rcs_ok _ _ hsh
          have hle : (rcs (be2 (l.drop 6)).toNat (l.drop 8) false).2.1.length ≤ l.length := by rw [List.length_drop] at i2; omega
          have hx : recR l [] (rcs (be2 (l.drop 6)).toNat (l.drop 8) false) = ((rcs (be2 (l.drop 6)).toNat (l.drop 8) false).1, (l.length : Int) - ((rcs (be2 (l.drop 6)).toNat (l.drop 8) false).2.1.length : Int), true) := by
            unfold recR
            rw [hsh, if_neg (by decide), List.nil_append]
          by_cases hv : be2 (l.drop 4) = 0
          · rw [if_pos hv]
            have hm := dcmK_yes (M := ⟨34, 0, rd l 1, 0, false, 0, 0, [], (rcs (be2 (l.drop 6)).toNat (l.drop 8) false).1⟩) (rest := (rcs (be2 (l.drop 6)).toNat (l.drop 8) false).2.1) (q := (((l.length : Int) - ((rcs (be2 (l.drop 6)).toNat (l.drop 8) false).2.1.length : Int)) != (l.length : Int)))
              (by simp only [bne_eq_false_iff_eq, eq_iff_iff]; omega) rfl
            refine .rec_ rfl _ _ hx (by rw [i1]; omega) hv _ _ rfl rfl ?_ ?_
            · rw [hm]
            · rw [hm]
          · rw [if_neg hv]
            have hb33 : rightB ⟨34, 0, rd l 1, 0, false, 0, 0, [], List.replicate 33 z44⟩ = false := by
              unfold rightB
              rw [if_neg (show ¬ (34 : Int) = 17 by decide), if_neg (show ¬ ((34 : Int) = 18 ∨ (34 : Int) = 22 ∨ (34 : Int) = 23) by decide), if_pos rfl, List.length_replicate]
              rfl
            have hm : dcmK (⟨34, 0, rd l 1, 0, false, 0, 0, [], List.replicate 33 z44⟩, (rcs (be2 (l.drop 6)).toNat (l.drop 8) false).2.1, false) = (msg0, 2) := by
              unfold dcmK
              rw [if_neg Bool.false_ne_true]
              show (if 0 < (rcs (be2 (l.drop 6)).toNat (l.drop 8) false).2.1.length then (msg0, 2) else if rightB ⟨34, 0, rd l 1, 0, false, 0, 0, [], List.replicate 33 z44⟩ = true then _ else (msg0, 2)) = _
              rw [hb33]
              split <;> simp
            rw [hm]
            exact .recodd rfl _ _ hx _ rfl (bne_iff_ne.2 hv) rfl rfl
        · rw [dcmK_no rfl]
          have hx : recR l [] (rcs (be2 (l.drop 6)).toNat (l.drop 8) false) = ([], 0, false) := by
            unfold recR
            rw [if_pos hsh]
          exact .recno rfl _ _ hx rfl rfl
      · have hr : readK l = none := by unfold readK; rw [if_neg k17, if_neg kpl, if_neg k34]
        rw [hr]
        refine .other (beq_eq_false_iff_ne.2 fun h => kpl (.inl h)) (beq_eq_false_iff_ne.2 fun h => kpl (.inr (.inl h))) (beq_eq_false_iff_ne.2 fun h => kpl (.inr (.inr h))) (beq_eq_false_iff_ne.2 k34) (beq_eq_false_iff_ne.2 k17) rfl rfl
theorem rdec_w {l : List Int} (hby : Byt l) (hl : l.length ≤ 1000000) {m : Msg} {er : Int} (hd : dcm l = (m, er)) (A : Option Addr) (c : Nat) (w : World) (hr : Kd.C (Kd.int .u8) w A l.length l) (hc : l.length ≤ c) :
    Calls Try.prog 21 #[.slice A l.length c] w (RDone w m er) := by
  by_cases h8 : l.length < 8
  · have e : dcm l = (msg0, 3) := by unfold dcm; rw [if_pos h8]
    rw [e] at hd
    obtain ⟨rfl, rfl⟩ := Prod.mk.inj hd
    exact rdc_short hby hl h8 rfl rfl A c w hr hc
  by_cases hs : sumOf l = 0
  · have h := way_of hby hl (by omega) hs
    rw [hd] at h
    exact rdc_walk hby hl (by omega) hs rfl rfl h A c w hr hc
  · have e : dcm l = (msg0, 4) := by unfold dcm; rw [if_neg h8, if_neg hs]
    rw [e] at hd
    obtain ⟨rfl, rfl⟩ := Prod.mk.inj hd
    exact rdc_sum hby hl (by omega) rfl (bne_iff_ne.2 hs) rfl rfl A c w hr hc
end Go.Proofs.Ytmmjmncchckbbaa
/-
  Which messages are the same by the document's answer: in plain words.
-/
namespace Go.Proofs.Ytmmjmncchckbbaa
open Go.RowKit Go.Proofs.YtmmjmncchckbbaaW.PrintWords Go.Proofs.Ytmmjmncchckbbaa.PIg
set_option linter.unusedVariables false
set_option linter.unusedSimpArgs false
theorem rows_l0 (x y : List Int) (hxy : x.length = y.length) (hm : x.length ≤ 1000000) : ∀ (d i k : Nat), i + d = x.length → d < k → stolonref01_Rows.l0 k x y (i : Int) = some (decide (x.drop i = y.drop i))
  | 0, i, k + 1, h, _ => by
    unfold stolonref01_Rows.l0
    rw [if_neg (by omega), List.drop_eq_nil_of_le (by omega), List.drop_eq_nil_of_le (by omega)]; rfl
  | d + 1, i, k + 1, h, hk => by
    unfold stolonref01_Rows.l0
    rw [if_pos (by omega), if_pos (by omega), if_pos (by omega), rd_get (by omega), rd_get (by omega : i < y.length), wr1 (by omega), rows_l0 x y hxy hm d (i + 1) k (by omega) (by omega),
      List.drop_eq_getElem_cons (by omega : i < x.length), List.drop_eq_getElem_cons (by omega : i < y.length)]
    by_cases he : x[i]'(by omega) = y[i]'(by omega)
    · rw [if_pos he]; exact congrArg some (decide_eq_decide.2 ⟨fun h => by rw [he, h], fun h => (List.cons.inj h).2⟩)
    · rw [if_neg he, decide_eq_false (fun h => he (List.cons.inj h).1)]
theorem rows_some {k : Nat} {x y : List Int} (hm : x.length ≤ 1000000) (hk : x.length < k) : stolonref01_Rows.f k x y = some (decide (x = y)) := by
  unfold stolonref01_Rows.f
  by_cases h : x.length = y.length
  · rw [if_pos (by omega)]
    have := rows_l0 x y h hm x.length 0 k (by omega) hk
    simpa using this
  · rw [if_neg (by omega), decide_eq_false (fun e => h (by rw [e]))]
theorem rec1_some {k : Nat} {a b : S44} (hm : a.f2.length ≤ 1000000) (hk : a.f2.length < k) : stolonref05_Rec.f k a.f0 a.f1 a.f2 b.f0 b.f1 b.f2 = some (decide (a = b)) := by
  obtain ⟨a0, a1, a2⟩ := a
  obtain ⟨b0, b1, b2⟩ := b
  unfold stolonref05_Rec.f
  rw [rows_some hm hk]
  by_cases h0 : a0 = b0
  · by_cases h1 : a1 = b1
    · simp [h0, h1]
    · simp [h0, h1]
  · simp [h0]
theorem recs_l0 (x y : List S44) (hxy : x.length = y.length) (hm : recK x ≤ 1000000) : ∀ (d i k : Nat), i + d = x.length → d + recK x < k → stolonref05_Recs.l0 k x y (i : Int) = some (decide (x.drop i = y.drop i))
  | 0, i, k + 1, h, _ => by
    unfold stolonref05_Recs.l0
    rw [if_neg (by omega), List.drop_eq_nil_of_le (by omega), List.drop_eq_nil_of_le (by omega)]; rfl
  | d + 1, i, k + 1, h, hk => by
    have hi : i < x.length := by omega
    have hr := recK_mem (List.getElem_mem hi)
    unfold stolonref05_Recs.l0
    rw [if_pos (by omega), if_pos (by omega), if_pos (by omega), rd44_get hi, rd44_get (by omega : i < y.length), rec1_some (by omega) (by omega)]
    simp only [Option.bind_some]
    rw [wr1 (by have : x.length ≤ recK x := by unfold recK; omega
                omega), recs_l0 x y hxy hm d (i + 1) k (by omega) (by omega),
      List.drop_eq_getElem_cons hi, List.drop_eq_getElem_cons (by omega : i < y.length)]
    by_cases he : x[i]'hi = y[i]'(by omega)
    · rw [decide_eq_true he, if_pos rfl]; exact congrArg some (decide_eq_decide.2 ⟨fun h => by rw [he, h], fun h => (List.cons.inj h).2⟩)
    · rw [decide_eq_false he, if_neg (by decide), decide_eq_false (fun h => he (List.cons.inj h).1)]
theorem recs_some {k : Nat} {x y : List S44} (hm : recK x ≤ 1000000) (hk : x.length + recK x < k) : stolonref05_Recs.f k x y = some (decide (x = y)) := by
  unfold stolonref05_Recs.f
  by_cases h : x.length = y.length
  · rw [if_pos (by omega)]
    have := recs_l0 x y h hm x.length 0 k (by omega) hk
    simpa using this
  · rw [if_neg (by omega), decide_eq_false (fun e => h (by rw [e]))]
theorem refSame_some {K : Nat} (m n : Msg) (hm : m.size ≤ 1000000) (hk : m.size < K) :
    stolonref05_Same.f K m.k m.ver m.code m.grp m.quiet m.rob m.every m.srcs m.recs n.k n.ver n.code n.grp n.quiet n.rob n.every n.srcs n.recs = some (decide (m = n)) := by
  have hrl : m.recs.length ≤ recK m.recs := by unfold recK; omega
  have hsz : m.size = m.srcs.length + 2 * recK m.recs := rfl
  obtain ⟨a0, a1, a2, a3, a4, a5, a6, a7, a8⟩ := m
  obtain ⟨b0, b1, b2, b3, b4, b5, b6, b7, b8⟩ := n
  simp only at *
  unfold stolonref05_Same.f
  rw [rows_some (by omega) (by omega), recs_some (by omega) (by omega)]
  simp only [Msg.mk.injEq]
  by_cases h0 : a0 = b0
  · by_cases h1 : a1 = b1
    · by_cases h2 : a2 = b2
      · by_cases h3 : a3 = b3
        · by_cases h4 : a4 = b4
          · by_cases h5 : a5 = b5
            · by_cases h6 : a6 = b6
              · by_cases h7 : a7 = b7 <;> simp [*]
              · simp [*]
            · simp [*]
          · have : (a4 == b4) = false := by simp [h4]
            simp [*]
        · simp [*]
      · simp [*]
    · simp [*]
  · simp [*]
end Go.Proofs.Ytmmjmncchckbbaa
/-
  Contracts over messages: the same by the document.
-/
namespace Go.Proofs.Ytmmjmncchckbbaa
open Go.RowKit Go.Proofs.YtmmjmncchckbbaaW.PrintWords Go.Proofs.YtmmjmncchckbbaaW.PrintLast Go.Proofs.YtmmjmncchckbbaaW.PrintMore Go.Proofs.Ytmmjmncchckbbaa.PIg
set_option linter.unusedVariables false
set_option linter.unusedSimpArgs false
theorem rsame_w {m n : Msg} {b : Bool} (hb : decide (m = n) = b) (hl : m.size ≤ 1000000) (A_s : Option Addr) (c_s : Nat) (A_r : Option Addr) (c_r : Nat) (B_s : Option Addr) (d_s : Nat) (B_r : Option Addr) (d_r : Nat) (w : World) (hss : Kd.C (Kd.int .u32) w A_s m.srcs.length m.srcs) (hscs : m.srcs.length ≤ c_s) (hrr : Kd.C k44 w A_r m.recs.length m.recs) (hrcr : m.recs.length ≤ c_r) (hss2 : Kd.C (Kd.int .u32) w B_s n.srcs.length n.srcs) (hscs2 : n.srcs.length ≤ d_s) (hrr2 : Kd.C k44 w B_r n.recs.length n.recs) (hrcr2 : n.recs.length ≤ d_r) : Calls Try.prog 19 #[.agg #[.int .u8 m.k, .int .i64 m.ver, .int .u8 m.code, .int .u32 m.grp, .bool m.quiet, .int .u8 m.rob, .int .u8 m.every, .slice A_s m.srcs.length c_s, .slice A_r m.recs.length c_r], .agg #[.int .u8 n.k, .int .i64 n.ver, .int .u8 n.code, .int .u32 n.grp, .bool n.quiet, .int .u8 n.rob, .int .u8 n.every, .slice B_s n.srcs.length d_s, .slice B_r n.recs.length d_r]] w fun e w' => e = .returned (.bool b) ∧ Below w.heap.size w w' :=
  stolonref05_Same.calls (m.size + 1) m.k m.ver m.code m.grp m.quiet m.rob m.every A_s c_s m.srcs A_r c_r m.recs n.k n.ver n.code n.grp n.quiet n.rob n.every B_s d_s n.srcs B_r d_r n.recs b w hss hscs hrr hrcr hss2 hscs2 hrr2 hrcr2 (by rw [refSame_some m n hl (Nat.lt_succ_self _), hb])
theorem rself_w {m : Msg} (hl : m.size ≤ 1000000) (A_s : Option Addr) (c_s : Nat) (A_r : Option Addr) (c_r : Nat) (B_s : Option Addr) (d_s : Nat) (B_r : Option Addr) (d_r : Nat) (w : World) (hss : Kd.C (Kd.int .u32) w A_s m.srcs.length m.srcs) (hscs : m.srcs.length ≤ c_s) (hrr : Kd.C k44 w A_r m.recs.length m.recs) (hrcr : m.recs.length ≤ c_r) (hss2 : Kd.C (Kd.int .u32) w B_s m.srcs.length m.srcs) (hscs2 : m.srcs.length ≤ d_s) (hrr2 : Kd.C k44 w B_r m.recs.length m.recs) (hrcr2 : m.recs.length ≤ d_r) : Calls Try.prog 19 #[.agg #[.int .u8 m.k, .int .i64 m.ver, .int .u8 m.code, .int .u32 m.grp, .bool m.quiet, .int .u8 m.rob, .int .u8 m.every, .slice A_s m.srcs.length c_s, .slice A_r m.recs.length c_r], .agg #[.int .u8 m.k, .int .i64 m.ver, .int .u8 m.code, .int .u32 m.grp, .bool m.quiet, .int .u8 m.rob, .int .u8 m.every, .slice B_s m.srcs.length d_s, .slice B_r m.recs.length d_r]] w fun e w' => e = .returned (.bool true) ∧ Below w.heap.size w w' :=
  rsame_w (m := m) (n := m) (b := true) (by simp) hl A_s c_s A_r c_r B_s d_s B_r d_r w hss hscs hrr hrcr hss2 hscs2 hrr2 hrcr2
end Go.Proofs.Ytmmjmncchckbbaa
/-
  IgmpReads, walked.
-/
namespace Go.Proofs.Ytmmjmncchckbbaa
open Go.RowKit Go.Proofs.YtmmjmncchckbbaaW.PrintWords Go.Proofs.YtmmjmncchckbbaaW.PrintLast Go.Proofs.YtmmjmncchckbbaaW.PrintMore Go.Proofs.Ytmmjmncchckbbaa.PIg
set_option linter.unusedVariables false
set_option linter.unusedSimpArgs false
set_option maxHeartbeats 8000000 in
set_option maxRecDepth 100000 in
theorem reads_long {b : List Int} (hl : 3000 < b.length) (A_b : Option Addr) (c_b : Nat) (w : World) (hr : Kd.C (Kd.int .u8) w A_b b.length b) (hc : b.length ≤ c_b) :
    Calls Try.prog 4 #[.slice A_b b.length c_b] w fun e w' => e = .returned (.bool true) ∧ Below w.heap.size w w' := by
  have hu27 := Try.underlying27
  have HB := Aside0.mk (Below.refl w.heap.size w)
  have HC_b := Aside0.mk hr
  have HK_b := Aside0.mk hc
  clear hr hc
  go_enter Try.func4, Try.ntmps4
  go_wp2_with (first | (go_at_call 11; with_reducible refine (shown_calls _).mono ?_; rintro e w1_ ⟨rfl, hB⟩; have nHB := Aside0.mk (HB.out.trans (hB.mono HB.out.size)); clear HB; have HB := nHB; clear nHB; clear hB))
  go_ret
  exact ⟨by first | rfl | simp, HB.out⟩
set_option maxHeartbeats 8000000 in
set_option maxRecDepth 100000 in
theorem reads_main {b : List Int} (hl : b.length ≤ 3000) (hb : Byt b) {m : Msg} {er : Int} (hd : dcm b = (m, er)) (hz : m.size ≤ 1000000) (A_b : Option Addr) (c_b : Nat) (w : World) (hr : Kd.C (Kd.int .u8) w A_b b.length b) (hc : b.length ≤ c_b) :
    Calls Try.prog 4 #[.slice A_b b.length c_b] w fun e w' => e = .returned (.bool true) ∧ Below w.heap.size w w' := by
  have hu27 := Try.underlying27
  have HB := Aside0.mk (Below.refl w.heap.size w)
  have HC_b := Aside0.mk hr
  have HK_b := Aside0.mk hc
  clear hr hc
  have HBL := Aside0.mk (show b.length ≤ 400000 by omega)
  have HBM := Aside0.mk (show b.length ≤ 1000000 by omega)
  have HB_ := Aside0.mk hb; clear hb; have HD := Aside0.mk hd; clear hd; have HZ := Aside0.mk hz; clear hz
  go_enter Try.func4, Try.ntmps4
  go_upto_region 5 with (first | (go_at_call 11; with_reducible refine (shown_calls _).mono ?_; rintro e w1_ ⟨rfl, hB⟩; have nHB := Aside0.mk (HB.out.trans (hB.mono HB.out.size)); clear HB; have HB := nHB; clear nHB; clear hB) | (go_at_call 20; (with_reducible refine (decm_w HB_.out HBL.out HD.out _ _ _ (Kd.C_below HC_b.out HB.out) HK_b.out).mono ?_); rintro e w2_ ⟨v_p, v_q, rfl, hS, hN, hB⟩; obtain ⟨A_p, c_p, rfl⟩ := Kd.R_slice hS; obtain ⟨A_q, c_q, rfl⟩ := Kd.N_slice hN; have nHB := Aside0.mk (HB.out.trans (hB.mono HB.out.size)); clear HB; have HB := nHB; clear nHB; have HC_p := Aside0.mk (show Kd.C (Kd.int .u32) w2_ A_p m.srcs.length m.srcs from (Kd.R_reads' hS).2.2); have HK_p := Aside0.mk (show m.srcs.length ≤ c_p from (Kd.R_reads' hS).2.1); have HC_q := Aside0.mk (show Kd.C k44 w2_ A_q m.recs.length m.recs from (Kd.N_reads' hN).2.2); have HK_q := Aside0.mk (show m.recs.length ≤ c_q from (Kd.N_reads' hN).2.1); clear hS hN hB) | ((with_reducible refine gate_dst (N := 4) rfl ?_); (try (refine gate_guard (by rfl) ?_; dsimp only)); refine box_event ?hg (N := 4) ?hd (cs := #[.int .u8 0, .int .i64 0, .int .u8 0, .int .u32 0, .bool false, .int .u8 0, .int .u8 0, .slice none 0 0, .slice none 0 0]) (t := 27) ?hr ?_; (case hd => rfl); (case hg => rfl); (case hr => first | (go_simp; done) | (go_simp; rfl)); intro gn hg w3_ hbox hB0; have hG := Aside0.mk (show w2_.heap.size ≤ gn from Nat.le_of_eq hg.symm); clear hg; have hBX := Aside0.mk hbox; have hB1 := Aside0.mk hB0; clear hB0; have hc_gn_0 : w3_.cell? ⟨gn, 0, none⟩ = some (.int .u8 0) := (blk_cell hbox 0).trans rfl; have hf_gn_0 := blk_frozen hbox 0; have hc_gn_1 : w3_.cell? ⟨gn, 1, none⟩ = some (.int .i64 0) := (blk_cell hbox 1).trans rfl; have hf_gn_1 := blk_frozen hbox 1; have hc_gn_2 : w3_.cell? ⟨gn, 2, none⟩ = some (.int .u8 0) := (blk_cell hbox 2).trans rfl; have hf_gn_2 := blk_frozen hbox 2; have hc_gn_3 : w3_.cell? ⟨gn, 3, none⟩ = some (.int .u32 0) := (blk_cell hbox 3).trans rfl; have hf_gn_3 := blk_frozen hbox 3; have hc_gn_4 : w3_.cell? ⟨gn, 4, none⟩ = some (.bool false) := (blk_cell hbox 4).trans rfl; have hf_gn_4 := blk_frozen hbox 4; have hc_gn_5 : w3_.cell? ⟨gn, 5, none⟩ = some (.int .u8 0) := (blk_cell hbox 5).trans rfl; have hf_gn_5 := blk_frozen hbox 5; have hc_gn_6 : w3_.cell? ⟨gn, 6, none⟩ = some (.int .u8 0) := (blk_cell hbox 6).trans rfl; have hf_gn_6 := blk_frozen hbox 6; have hc_gn_7 : w3_.cell? ⟨gn, 7, none⟩ = some (.slice none 0 0) := (blk_cell hbox 7).trans rfl; have hf_gn_7 := blk_frozen hbox 7; have hc_gn_8 : w3_.cell? ⟨gn, 8, none⟩ = some (.slice none 0 0) := (blk_cell hbox 8).trans rfl; have hf_gn_8 := blk_frozen hbox 8; clear hbox))
  have hB : Below w2_.heap.size w2_ (((((((((w3_.setCell ⟨gn, 0, none⟩ (.int .u8 m.k)).setCell ⟨gn, 1, none⟩ (.int .i64 m.ver)).setCell ⟨gn, 2, none⟩ (.int .u8 m.code)).setCell ⟨gn, 3, none⟩ (.int .u32 m.grp)).setCell ⟨gn, 4, none⟩ (.bool m.quiet)).setCell ⟨gn, 5, none⟩ (.int .u8 m.rob)).setCell ⟨gn, 6, none⟩ (.int .u8 m.every)).setCell ⟨gn, 7, none⟩ (.slice A_p m.srcs.length c_p)).setCell ⟨gn, 8, none⟩ (.slice A_q m.recs.length c_q)) := (below_set (below_set (below_set (below_set (below_set (below_set (below_set (below_set (below_set hB1.out hG.out) hG.out) hG.out) hG.out) hG.out) hG.out) hG.out) hG.out) hG.out)
  have hBN : (((((((((w3_.setCell ⟨gn, 0, none⟩ (.int .u8 m.k)).setCell ⟨gn, 1, none⟩ (.int .i64 m.ver)).setCell ⟨gn, 2, none⟩ (.int .u8 m.code)).setCell ⟨gn, 3, none⟩ (.int .u32 m.grp)).setCell ⟨gn, 4, none⟩ (.bool m.quiet)).setCell ⟨gn, 5, none⟩ (.int .u8 m.rob)).setCell ⟨gn, 6, none⟩ (.int .u8 m.every)).setCell ⟨gn, 7, none⟩ (.slice A_p m.srcs.length c_p)).setCell ⟨gn, 8, none⟩ (.slice A_q m.recs.length c_q)).heap[gn]? = some (.cells #[.int .u8 m.k, .int .i64 m.ver, .int .u8 m.code, .int .u32 m.grp, .bool m.quiet, .int .u8 m.rob, .int .u8 m.every, .slice A_p m.srcs.length c_p, .slice A_q m.recs.length c_q] 27 (0, 0)) := (blk_put (cs := #[.int .u8 m.k, .int .i64 m.ver, .int .u8 m.code, .int .u32 m.grp, .bool m.quiet, .int .u8 m.rob, .int .u8 m.every, .slice A_p m.srcs.length c_p, .slice none 0 0]) (blk_put (cs := #[.int .u8 m.k, .int .i64 m.ver, .int .u8 m.code, .int .u32 m.grp, .bool m.quiet, .int .u8 m.rob, .int .u8 m.every, .slice none 0 0, .slice none 0 0]) (blk_put (cs := #[.int .u8 m.k, .int .i64 m.ver, .int .u8 m.code, .int .u32 m.grp, .bool m.quiet, .int .u8 m.rob, .int .u8 0, .slice none 0 0, .slice none 0 0]) (blk_put (cs := #[.int .u8 m.k, .int .i64 m.ver, .int .u8 m.code, .int .u32 m.grp, .bool m.quiet, .int .u8 0, .int .u8 0, .slice none 0 0, .slice none 0 0]) (blk_put (cs := #[.int .u8 m.k, .int .i64 m.ver, .int .u8 m.code, .int .u32 m.grp, .bool false, .int .u8 0, .int .u8 0, .slice none 0 0, .slice none 0 0]) (blk_put (cs := #[.int .u8 m.k, .int .i64 m.ver, .int .u8 m.code, .int .u32 0, .bool false, .int .u8 0, .int .u8 0, .slice none 0 0, .slice none 0 0]) (blk_put (cs := #[.int .u8 m.k, .int .i64 m.ver, .int .u8 0, .int .u32 0, .bool false, .int .u8 0, .int .u8 0, .slice none 0 0, .slice none 0 0]) (blk_put (cs := #[.int .u8 m.k, .int .i64 0, .int .u8 0, .int .u32 0, .bool false, .int .u8 0, .int .u8 0, .slice none 0 0, .slice none 0 0]) (blk_put (cs := #[.int .u8 0, .int .i64 0, .int .u8 0, .int .u32 0, .bool false, .int .u8 0, .int .u8 0, .slice none 0 0, .slice none 0 0]) hBX.out 0 (.int .u8 m.k) rfl) 1 (.int .i64 m.ver) rfl) 2 (.int .u8 m.code) rfl) 3 (.int .u32 m.grp) rfl) 4 (.bool m.quiet) rfl) 5 (.int .u8 m.rob) rfl) 6 (.int .u8 m.every) rfl) 7 (.slice A_p m.srcs.length c_p) rfl) 8 (.slice A_q m.recs.length c_q) rfl)
  clear hBX hB1
  clear hc_gn_0 hf_gn_0 hc_gn_1 hf_gn_1 hc_gn_2 hf_gn_2 hc_gn_3 hf_gn_3 hc_gn_4 hf_gn_4 hc_gn_5 hf_gn_5 hc_gn_6 hf_gn_6 hc_gn_7 hf_gn_7 hc_gn_8 hf_gn_8
  generalize (((((((((w3_.setCell ⟨gn, 0, none⟩ (.int .u8 m.k)).setCell ⟨gn, 1, none⟩ (.int .i64 m.ver)).setCell ⟨gn, 2, none⟩ (.int .u8 m.code)).setCell ⟨gn, 3, none⟩ (.int .u32 m.grp)).setCell ⟨gn, 4, none⟩ (.bool m.quiet)).setCell ⟨gn, 5, none⟩ (.int .u8 m.rob)).setCell ⟨gn, 6, none⟩ (.int .u8 m.every)).setCell ⟨gn, 7, none⟩ (.slice A_p m.srcs.length c_p)).setCell ⟨gn, 8, none⟩ (.slice A_q m.recs.length c_q)) = w4_ at hB hBN ⊢
  have HBo := Aside0.mk HB.out
  have nHB := Aside0.mk (HB.out.trans (hB.mono HB.out.size))
  clear HB
  have HB := nHB
  clear nHB
  have nHC := Aside0.mk (Kd.C_below HC_p.out hB)
  clear HC_p
  have HC_p := nHC
  clear nHC
  have nHC := Aside0.mk (Kd.C_below HC_q.out hB)
  clear HC_q
  have HC_q := nHC
  clear nHC
  have BK_gn := Aside0.mk hBN
  have GE_gn := Aside0.mk (Nat.le_trans HBo.out.size hG.out)
  clear HBo hG hBN hB
  have hc_gn_0 : w4_.cell? ⟨gn, 0, none⟩ = some (.int .u8 m.k) := (blk_cell BK_gn.out 0).trans rfl
  have hf_gn_0 := blk_frozen BK_gn.out 0
  have hc_gn_1 : w4_.cell? ⟨gn, 1, none⟩ = some (.int .i64 m.ver) := (blk_cell BK_gn.out 1).trans rfl
  have hf_gn_1 := blk_frozen BK_gn.out 1
  have hc_gn_2 : w4_.cell? ⟨gn, 2, none⟩ = some (.int .u8 m.code) := (blk_cell BK_gn.out 2).trans rfl
  have hf_gn_2 := blk_frozen BK_gn.out 2
  have hc_gn_3 : w4_.cell? ⟨gn, 3, none⟩ = some (.int .u32 m.grp) := (blk_cell BK_gn.out 3).trans rfl
  have hf_gn_3 := blk_frozen BK_gn.out 3
  have hc_gn_4 : w4_.cell? ⟨gn, 4, none⟩ = some (.bool m.quiet) := (blk_cell BK_gn.out 4).trans rfl
  have hf_gn_4 := blk_frozen BK_gn.out 4
  have hc_gn_5 : w4_.cell? ⟨gn, 5, none⟩ = some (.int .u8 m.rob) := (blk_cell BK_gn.out 5).trans rfl
  have hf_gn_5 := blk_frozen BK_gn.out 5
  have hc_gn_6 : w4_.cell? ⟨gn, 6, none⟩ = some (.int .u8 m.every) := (blk_cell BK_gn.out 6).trans rfl
  have hf_gn_6 := blk_frozen BK_gn.out 6
  have hc_gn_7 : w4_.cell? ⟨gn, 7, none⟩ = some (.slice A_p m.srcs.length c_p) := (blk_cell BK_gn.out 7).trans rfl
  have hf_gn_7 := blk_frozen BK_gn.out 7
  have hc_gn_8 : w4_.cell? ⟨gn, 8, none⟩ = some (.slice A_q m.recs.length c_q) := (blk_cell BK_gn.out 8).trans rfl
  have hf_gn_8 := blk_frozen BK_gn.out 8
  go_upto_region 6 with (first | (go_at_call 21; (with_reducible refine (rdec_w HB_.out HBM.out HD.out _ _ _ (Kd.C_below HC_b.out HB.out) HK_b.out).mono ?_); rintro e w5_ ⟨A_u, c_u, A_v, c_v, rfl, hS, hcS, hN, hcN, hB⟩; have nHB := Aside0.mk (HB.out.trans (hB.mono HB.out.size)); clear HB; have HB := nHB; clear nHB; clear hc_gn_0 hf_gn_0 hc_gn_1 hf_gn_1 hc_gn_2 hf_gn_2 hc_gn_3 hf_gn_3 hc_gn_4 hf_gn_4 hc_gn_5 hf_gn_5 hc_gn_6 hf_gn_6 hc_gn_7 hf_gn_7 hc_gn_8 hf_gn_8; have nBK := Aside0.mk (blk_below (g := gn) (o := .cells #[.int .u8 m.k, .int .i64 m.ver, .int .u8 m.code, .int .u32 m.grp, .bool m.quiet, .int .u8 m.rob, .int .u8 m.every, .slice A_p m.srcs.length c_p, .slice A_q m.recs.length c_q] 27 (0, 0)) BK_gn.out hB); clear BK_gn; have BK_gn := nBK; clear nBK; have hc_gn_0 : w5_.cell? ⟨gn, 0, none⟩ = some (.int .u8 m.k) := (blk_cell BK_gn.out 0).trans rfl; have hf_gn_0 := blk_frozen BK_gn.out 0; have hc_gn_1 : w5_.cell? ⟨gn, 1, none⟩ = some (.int .i64 m.ver) := (blk_cell BK_gn.out 1).trans rfl; have hf_gn_1 := blk_frozen BK_gn.out 1; have hc_gn_2 : w5_.cell? ⟨gn, 2, none⟩ = some (.int .u8 m.code) := (blk_cell BK_gn.out 2).trans rfl; have hf_gn_2 := blk_frozen BK_gn.out 2; have hc_gn_3 : w5_.cell? ⟨gn, 3, none⟩ = some (.int .u32 m.grp) := (blk_cell BK_gn.out 3).trans rfl; have hf_gn_3 := blk_frozen BK_gn.out 3; have hc_gn_4 : w5_.cell? ⟨gn, 4, none⟩ = some (.bool m.quiet) := (blk_cell BK_gn.out 4).trans rfl; have hf_gn_4 := blk_frozen BK_gn.out 4; have hc_gn_5 : w5_.cell? ⟨gn, 5, none⟩ = some (.int .u8 m.rob) := (blk_cell BK_gn.out 5).trans rfl; have hf_gn_5 := blk_frozen BK_gn.out 5; have hc_gn_6 : w5_.cell? ⟨gn, 6, none⟩ = some (.int .u8 m.every) := (blk_cell BK_gn.out 6).trans rfl; have hf_gn_6 := blk_frozen BK_gn.out 6; have hc_gn_7 : w5_.cell? ⟨gn, 7, none⟩ = some (.slice A_p m.srcs.length c_p) := (blk_cell BK_gn.out 7).trans rfl; have hf_gn_7 := blk_frozen BK_gn.out 7; have hc_gn_8 : w5_.cell? ⟨gn, 8, none⟩ = some (.slice A_q m.recs.length c_q) := (blk_cell BK_gn.out 8).trans rfl; have hf_gn_8 := blk_frozen BK_gn.out 8; have nHC := Aside0.mk (Kd.C_below HC_p.out hB); clear HC_p; have HC_p := nHC; clear nHC; have nHC := Aside0.mk (Kd.C_below HC_q.out hB); clear HC_q; have HC_q := nHC; clear nHC; have HC_u := Aside0.mk hS; have HK_u := Aside0.mk hcS; have HC_v := Aside0.mk hN; have HK_v := Aside0.mk hcN; clear hS hcS hN hcN hB) | ((with_reducible refine gate_dst (N := 6) rfl ?_); (try (refine gate_guard (by rfl) ?_; dsimp only)); refine box_event ?hg (N := 6) ?hd (cs := #[.int .u8 0, .int .i64 0, .int .u8 0, .int .u32 0, .bool false, .int .u8 0, .int .u8 0, .slice none 0 0, .slice none 0 0]) (t := 27) ?hr ?_; (case hd => rfl); (case hg => rfl); (case hr => first | (go_simp; done) | (go_simp; rfl)); intro gk hg w6_ hbox hB0; have hG := Aside0.mk (show w5_.heap.size ≤ gk from Nat.le_of_eq hg.symm); clear hg; have hBX := Aside0.mk hbox; have hB1 := Aside0.mk hB0; clear hB0; have hc_gk_0 : w6_.cell? ⟨gk, 0, none⟩ = some (.int .u8 0) := (blk_cell hbox 0).trans rfl; have hf_gk_0 := blk_frozen hbox 0; have hc_gk_1 : w6_.cell? ⟨gk, 1, none⟩ = some (.int .i64 0) := (blk_cell hbox 1).trans rfl; have hf_gk_1 := blk_frozen hbox 1; have hc_gk_2 : w6_.cell? ⟨gk, 2, none⟩ = some (.int .u8 0) := (blk_cell hbox 2).trans rfl; have hf_gk_2 := blk_frozen hbox 2; have hc_gk_3 : w6_.cell? ⟨gk, 3, none⟩ = some (.int .u32 0) := (blk_cell hbox 3).trans rfl; have hf_gk_3 := blk_frozen hbox 3; have hc_gk_4 : w6_.cell? ⟨gk, 4, none⟩ = some (.bool false) := (blk_cell hbox 4).trans rfl; have hf_gk_4 := blk_frozen hbox 4; have hc_gk_5 : w6_.cell? ⟨gk, 5, none⟩ = some (.int .u8 0) := (blk_cell hbox 5).trans rfl; have hf_gk_5 := blk_frozen hbox 5; have hc_gk_6 : w6_.cell? ⟨gk, 6, none⟩ = some (.int .u8 0) := (blk_cell hbox 6).trans rfl; have hf_gk_6 := blk_frozen hbox 6; have hc_gk_7 : w6_.cell? ⟨gk, 7, none⟩ = some (.slice none 0 0) := (blk_cell hbox 7).trans rfl; have hf_gk_7 := blk_frozen hbox 7; have hc_gk_8 : w6_.cell? ⟨gk, 8, none⟩ = some (.slice none 0 0) := (blk_cell hbox 8).trans rfl; have hf_gk_8 := blk_frozen hbox 8; clear hbox))
  have hB : Below w5_.heap.size w5_ (((((((((w6_.setCell ⟨gk, 0, none⟩ (.int .u8 m.k)).setCell ⟨gk, 1, none⟩ (.int .i64 m.ver)).setCell ⟨gk, 2, none⟩ (.int .u8 m.code)).setCell ⟨gk, 3, none⟩ (.int .u32 m.grp)).setCell ⟨gk, 4, none⟩ (.bool m.quiet)).setCell ⟨gk, 5, none⟩ (.int .u8 m.rob)).setCell ⟨gk, 6, none⟩ (.int .u8 m.every)).setCell ⟨gk, 7, none⟩ (.slice A_u m.srcs.length c_u)).setCell ⟨gk, 8, none⟩ (.slice A_v m.recs.length c_v)) := (below_set (below_set (below_set (below_set (below_set (below_set (below_set (below_set (below_set hB1.out hG.out) hG.out) hG.out) hG.out) hG.out) hG.out) hG.out) hG.out) hG.out)
  have hBN : (((((((((w6_.setCell ⟨gk, 0, none⟩ (.int .u8 m.k)).setCell ⟨gk, 1, none⟩ (.int .i64 m.ver)).setCell ⟨gk, 2, none⟩ (.int .u8 m.code)).setCell ⟨gk, 3, none⟩ (.int .u32 m.grp)).setCell ⟨gk, 4, none⟩ (.bool m.quiet)).setCell ⟨gk, 5, none⟩ (.int .u8 m.rob)).setCell ⟨gk, 6, none⟩ (.int .u8 m.every)).setCell ⟨gk, 7, none⟩ (.slice A_u m.srcs.length c_u)).setCell ⟨gk, 8, none⟩ (.slice A_v m.recs.length c_v)).heap[gk]? = some (.cells #[.int .u8 m.k, .int .i64 m.ver, .int .u8 m.code, .int .u32 m.grp, .bool m.quiet, .int .u8 m.rob, .int .u8 m.every, .slice A_u m.srcs.length c_u, .slice A_v m.recs.length c_v] 27 (0, 0)) := (blk_put (cs := #[.int .u8 m.k, .int .i64 m.ver, .int .u8 m.code, .int .u32 m.grp, .bool m.quiet, .int .u8 m.rob, .int .u8 m.every, .slice A_u m.srcs.length c_u, .slice none 0 0]) (blk_put (cs := #[.int .u8 m.k, .int .i64 m.ver, .int .u8 m.code, .int .u32 m.grp, .bool m.quiet, .int .u8 m.rob, .int .u8 m.every, .slice none 0 0, .slice none 0 0]) (blk_put (cs := #[.int .u8 m.k, .int .i64 m.ver, .int .u8 m.code, .int .u32 m.grp, .bool m.quiet, .int .u8 m.rob, .int .u8 0, .slice none 0 0, .slice none 0 0]) (blk_put (cs := #[.int .u8 m.k, .int .i64 m.ver, .int .u8 m.code, .int .u32 m.grp, .bool m.quiet, .int .u8 0, .int .u8 0, .slice none 0 0, .slice none 0 0]) (blk_put (cs := #[.int .u8 m.k, .int .i64 m.ver, .int .u8 m.code, .int .u32 m.grp, .bool false, .int .u8 0, .int .u8 0, .slice none 0 0, .slice none 0 0]) (blk_put (cs := #[.int .u8 m.k, .int .i64 m.ver, .int .u8 m.code, .int .u32 0, .bool false, .int .u8 0, .int .u8 0, .slice none 0 0, .slice none 0 0]) (blk_put (cs := #[.int .u8 m.k, .int .i64 m.ver, .int .u8 0, .int .u32 0, .bool false, .int .u8 0, .int .u8 0, .slice none 0 0, .slice none 0 0]) (blk_put (cs := #[.int .u8 m.k, .int .i64 0, .int .u8 0, .int .u32 0, .bool false, .int .u8 0, .int .u8 0, .slice none 0 0, .slice none 0 0]) (blk_put (cs := #[.int .u8 0, .int .i64 0, .int .u8 0, .int .u32 0, .bool false, .int .u8 0, .int .u8 0, .slice none 0 0, .slice none 0 0]) hBX.out 0 (.int .u8 m.k) rfl) 1 (.int .i64 m.ver) rfl) 2 (.int .u8 m.code) rfl) 3 (.int .u32 m.grp) rfl) 4 (.bool m.quiet) rfl) 5 (.int .u8 m.rob) rfl) 6 (.int .u8 m.every) rfl) 7 (.slice A_u m.srcs.length c_u) rfl) 8 (.slice A_v m.recs.length c_v) rfl)
  clear hBX hB1
  clear hc_gk_0 hf_gk_0 hc_gk_1 hf_gk_1 hc_gk_2 hf_gk_2 hc_gk_3 hf_gk_3 hc_gk_4 hf_gk_4 hc_gk_5 hf_gk_5 hc_gk_6 hf_gk_6 hc_gk_7 hf_gk_7 hc_gk_8 hf_gk_8
  generalize (((((((((w6_.setCell ⟨gk, 0, none⟩ (.int .u8 m.k)).setCell ⟨gk, 1, none⟩ (.int .i64 m.ver)).setCell ⟨gk, 2, none⟩ (.int .u8 m.code)).setCell ⟨gk, 3, none⟩ (.int .u32 m.grp)).setCell ⟨gk, 4, none⟩ (.bool m.quiet)).setCell ⟨gk, 5, none⟩ (.int .u8 m.rob)).setCell ⟨gk, 6, none⟩ (.int .u8 m.every)).setCell ⟨gk, 7, none⟩ (.slice A_u m.srcs.length c_u)).setCell ⟨gk, 8, none⟩ (.slice A_v m.recs.length c_v)) = w7_ at hB hBN ⊢
  have NB_gk_gn := Aside0.mk (show gk ≠ gn from Nat.ne_of_gt (Nat.lt_of_lt_of_le (blk_lt (g := gn) (o := .cells #[.int .u8 m.k, .int .i64 m.ver, .int .u8 m.code, .int .u32 m.grp, .bool m.quiet, .int .u8 m.rob, .int .u8 m.every, .slice A_p m.srcs.length c_p, .slice A_q m.recs.length c_q] 27 (0, 0)) BK_gn.out) hG.out))
  have NB_gn_gk := Aside0.mk (Ne.symm NB_gk_gn.out)
  have HBo := Aside0.mk HB.out
  have nHB := Aside0.mk (HB.out.trans (hB.mono HB.out.size))
  clear HB
  have HB := nHB
  clear nHB
  clear hc_gn_0 hf_gn_0 hc_gn_1 hf_gn_1 hc_gn_2 hf_gn_2 hc_gn_3 hf_gn_3 hc_gn_4 hf_gn_4 hc_gn_5 hf_gn_5 hc_gn_6 hf_gn_6 hc_gn_7 hf_gn_7 hc_gn_8 hf_gn_8
  have nBK := Aside0.mk (blk_below (g := gn) (o := .cells #[.int .u8 m.k, .int .i64 m.ver, .int .u8 m.code, .int .u32 m.grp, .bool m.quiet, .int .u8 m.rob, .int .u8 m.every, .slice A_p m.srcs.length c_p, .slice A_q m.recs.length c_q] 27 (0, 0)) BK_gn.out hB)
  clear BK_gn
  have BK_gn := nBK
  clear nBK
  have hc_gn_0 : w7_.cell? ⟨gn, 0, none⟩ = some (.int .u8 m.k) := (blk_cell BK_gn.out 0).trans rfl
  have hf_gn_0 := blk_frozen BK_gn.out 0
  have hc_gn_1 : w7_.cell? ⟨gn, 1, none⟩ = some (.int .i64 m.ver) := (blk_cell BK_gn.out 1).trans rfl
  have hf_gn_1 := blk_frozen BK_gn.out 1
  have hc_gn_2 : w7_.cell? ⟨gn, 2, none⟩ = some (.int .u8 m.code) := (blk_cell BK_gn.out 2).trans rfl
  have hf_gn_2 := blk_frozen BK_gn.out 2
  have hc_gn_3 : w7_.cell? ⟨gn, 3, none⟩ = some (.int .u32 m.grp) := (blk_cell BK_gn.out 3).trans rfl
  have hf_gn_3 := blk_frozen BK_gn.out 3
  have hc_gn_4 : w7_.cell? ⟨gn, 4, none⟩ = some (.bool m.quiet) := (blk_cell BK_gn.out 4).trans rfl
  have hf_gn_4 := blk_frozen BK_gn.out 4
  have hc_gn_5 : w7_.cell? ⟨gn, 5, none⟩ = some (.int .u8 m.rob) := (blk_cell BK_gn.out 5).trans rfl
  have hf_gn_5 := blk_frozen BK_gn.out 5
  have hc_gn_6 : w7_.cell? ⟨gn, 6, none⟩ = some (.int .u8 m.every) := (blk_cell BK_gn.out 6).trans rfl
  have hf_gn_6 := blk_frozen BK_gn.out 6
  have hc_gn_7 : w7_.cell? ⟨gn, 7, none⟩ = some (.slice A_p m.srcs.length c_p) := (blk_cell BK_gn.out 7).trans rfl
  have hf_gn_7 := blk_frozen BK_gn.out 7
  have hc_gn_8 : w7_.cell? ⟨gn, 8, none⟩ = some (.slice A_q m.recs.length c_q) := (blk_cell BK_gn.out 8).trans rfl
  have hf_gn_8 := blk_frozen BK_gn.out 8
  have nHC := Aside0.mk (Kd.C_below HC_p.out hB)
  clear HC_p
  have HC_p := nHC
  clear nHC
  have nHC := Aside0.mk (Kd.C_below HC_q.out hB)
  clear HC_q
  have HC_q := nHC
  clear nHC
  have nHC := Aside0.mk (Kd.C_below HC_u.out hB)
  clear HC_u
  have HC_u := nHC
  clear nHC
  have nHC := Aside0.mk (Kd.C_below HC_v.out hB)
  clear HC_v
  have HC_v := nHC
  clear nHC
  have BK_gk := Aside0.mk hBN
  have GE_gk := Aside0.mk (Nat.le_trans HBo.out.size hG.out)
  clear HBo hG hBN hB
  have hc_gk_0 : w7_.cell? ⟨gk, 0, none⟩ = some (.int .u8 m.k) := (blk_cell BK_gk.out 0).trans rfl
  have hf_gk_0 := blk_frozen BK_gk.out 0
  have hc_gk_1 : w7_.cell? ⟨gk, 1, none⟩ = some (.int .i64 m.ver) := (blk_cell BK_gk.out 1).trans rfl
  have hf_gk_1 := blk_frozen BK_gk.out 1
  have hc_gk_2 : w7_.cell? ⟨gk, 2, none⟩ = some (.int .u8 m.code) := (blk_cell BK_gk.out 2).trans rfl
  have hf_gk_2 := blk_frozen BK_gk.out 2
  have hc_gk_3 : w7_.cell? ⟨gk, 3, none⟩ = some (.int .u32 m.grp) := (blk_cell BK_gk.out 3).trans rfl
  have hf_gk_3 := blk_frozen BK_gk.out 3
  have hc_gk_4 : w7_.cell? ⟨gk, 4, none⟩ = some (.bool m.quiet) := (blk_cell BK_gk.out 4).trans rfl
  have hf_gk_4 := blk_frozen BK_gk.out 4
  have hc_gk_5 : w7_.cell? ⟨gk, 5, none⟩ = some (.int .u8 m.rob) := (blk_cell BK_gk.out 5).trans rfl
  have hf_gk_5 := blk_frozen BK_gk.out 5
  have hc_gk_6 : w7_.cell? ⟨gk, 6, none⟩ = some (.int .u8 m.every) := (blk_cell BK_gk.out 6).trans rfl
  have hf_gk_6 := blk_frozen BK_gk.out 6
  have hc_gk_7 : w7_.cell? ⟨gk, 7, none⟩ = some (.slice A_u m.srcs.length c_u) := (blk_cell BK_gk.out 7).trans rfl
  have hf_gk_7 := blk_frozen BK_gk.out 7
  have hc_gk_8 : w7_.cell? ⟨gk, 8, none⟩ = some (.slice A_v m.recs.length c_v) := (blk_cell BK_gk.out 8).trans rfl
  have hf_gk_8 := blk_frozen BK_gk.out 8
  go_wp2_with (first | (go_at_call 19; with_reducible refine (rself_w HZ.out _ _ _ _ _ _ _ _ _ HC_p.out HK_p.out HC_q.out HK_q.out HC_u.out HK_u.out HC_v.out HK_v.out).mono ?_; rintro e w8_ ⟨rfl, hB⟩; have nHB := Aside0.mk (HB.out.trans (hB.mono HB.out.size)); clear HB; have HB := nHB; clear nHB; clear hc_gn_0 hf_gn_0 hc_gn_1 hf_gn_1 hc_gn_2 hf_gn_2 hc_gn_3 hf_gn_3 hc_gn_4 hf_gn_4 hc_gn_5 hf_gn_5 hc_gn_6 hf_gn_6 hc_gn_7 hf_gn_7 hc_gn_8 hf_gn_8; have nBK := Aside0.mk (blk_below (g := gn) (o := .cells #[.int .u8 m.k, .int .i64 m.ver, .int .u8 m.code, .int .u32 m.grp, .bool m.quiet, .int .u8 m.rob, .int .u8 m.every, .slice A_p m.srcs.length c_p, .slice A_q m.recs.length c_q] 27 (0, 0)) BK_gn.out hB); clear BK_gn; have BK_gn := nBK; clear nBK; have hc_gn_0 : w8_.cell? ⟨gn, 0, none⟩ = some (.int .u8 m.k) := (blk_cell BK_gn.out 0).trans rfl; have hf_gn_0 := blk_frozen BK_gn.out 0; have hc_gn_1 : w8_.cell? ⟨gn, 1, none⟩ = some (.int .i64 m.ver) := (blk_cell BK_gn.out 1).trans rfl; have hf_gn_1 := blk_frozen BK_gn.out 1; have hc_gn_2 : w8_.cell? ⟨gn, 2, none⟩ = some (.int .u8 m.code) := (blk_cell BK_gn.out 2).trans rfl; have hf_gn_2 := blk_frozen BK_gn.out 2; have hc_gn_3 : w8_.cell? ⟨gn, 3, none⟩ = some (.int .u32 m.grp) := (blk_cell BK_gn.out 3).trans rfl; have hf_gn_3 := blk_frozen BK_gn.out 3; have hc_gn_4 : w8_.cell? ⟨gn, 4, none⟩ = some (.bool m.quiet) := (blk_cell BK_gn.out 4).trans rfl; have hf_gn_4 := blk_frozen BK_gn.out 4; have hc_gn_5 : w8_.cell? ⟨gn, 5, none⟩ = some (.int .u8 m.rob) := (blk_cell BK_gn.out 5).trans rfl; have hf_gn_5 := blk_frozen BK_gn.out 5; have hc_gn_6 : w8_.cell? ⟨gn, 6, none⟩ = some (.int .u8 m.every) := (blk_cell BK_gn.out 6).trans rfl; have hf_gn_6 := blk_frozen BK_gn.out 6; have hc_gn_7 : w8_.cell? ⟨gn, 7, none⟩ = some (.slice A_p m.srcs.length c_p) := (blk_cell BK_gn.out 7).trans rfl; have hf_gn_7 := blk_frozen BK_gn.out 7; have hc_gn_8 : w8_.cell? ⟨gn, 8, none⟩ = some (.slice A_q m.recs.length c_q) := (blk_cell BK_gn.out 8).trans rfl; have hf_gn_8 := blk_frozen BK_gn.out 8; clear hc_gk_0 hf_gk_0 hc_gk_1 hf_gk_1 hc_gk_2 hf_gk_2 hc_gk_3 hf_gk_3 hc_gk_4 hf_gk_4 hc_gk_5 hf_gk_5 hc_gk_6 hf_gk_6 hc_gk_7 hf_gk_7 hc_gk_8 hf_gk_8; have nBK := Aside0.mk (blk_below (g := gk) (o := .cells #[.int .u8 m.k, .int .i64 m.ver, .int .u8 m.code, .int .u32 m.grp, .bool m.quiet, .int .u8 m.rob, .int .u8 m.every, .slice A_u m.srcs.length c_u, .slice A_v m.recs.length c_v] 27 (0, 0)) BK_gk.out hB); clear BK_gk; have BK_gk := nBK; clear nBK; have hc_gk_0 : w8_.cell? ⟨gk, 0, none⟩ = some (.int .u8 m.k) := (blk_cell BK_gk.out 0).trans rfl; have hf_gk_0 := blk_frozen BK_gk.out 0; have hc_gk_1 : w8_.cell? ⟨gk, 1, none⟩ = some (.int .i64 m.ver) := (blk_cell BK_gk.out 1).trans rfl; have hf_gk_1 := blk_frozen BK_gk.out 1; have hc_gk_2 : w8_.cell? ⟨gk, 2, none⟩ = some (.int .u8 m.code) := (blk_cell BK_gk.out 2).trans rfl; have hf_gk_2 := blk_frozen BK_gk.out 2; have hc_gk_3 : w8_.cell? ⟨gk, 3, none⟩ = some (.int .u32 m.grp) := (blk_cell BK_gk.out 3).trans rfl; have hf_gk_3 := blk_frozen BK_gk.out 3; have hc_gk_4 : w8_.cell? ⟨gk, 4, none⟩ = some (.bool m.quiet) := (blk_cell BK_gk.out 4).trans rfl; have hf_gk_4 := blk_frozen BK_gk.out 4; have hc_gk_5 : w8_.cell? ⟨gk, 5, none⟩ = some (.int .u8 m.rob) := (blk_cell BK_gk.out 5).trans rfl; have hf_gk_5 := blk_frozen BK_gk.out 5; have hc_gk_6 : w8_.cell? ⟨gk, 6, none⟩ = some (.int .u8 m.every) := (blk_cell BK_gk.out 6).trans rfl; have hf_gk_6 := blk_frozen BK_gk.out 6; have hc_gk_7 : w8_.cell? ⟨gk, 7, none⟩ = some (.slice A_u m.srcs.length c_u) := (blk_cell BK_gk.out 7).trans rfl; have hf_gk_7 := blk_frozen BK_gk.out 7; have hc_gk_8 : w8_.cell? ⟨gk, 8, none⟩ = some (.slice A_v m.recs.length c_v) := (blk_cell BK_gk.out 8).trans rfl; have hf_gk_8 := blk_frozen BK_gk.out 8; have nHC := Aside0.mk (Kd.C_below HC_p.out hB); clear HC_p; have HC_p := nHC; clear nHC; have nHC := Aside0.mk (Kd.C_below HC_q.out hB); clear HC_q; have HC_q := nHC; clear nHC; have nHC := Aside0.mk (Kd.C_below HC_u.out hB); clear HC_u; have HC_u := nHC; clear nHC; have nHC := Aside0.mk (Kd.C_below HC_v.out hB); clear HC_v; have HC_v := nHC; clear nHC; clear hB))
  go_ret
  exact ⟨by first | rfl | simp, HB.out⟩
theorem igmpReads_call {b : List Int} (hb : Byt b) (A_b : Option Addr) (c_b : Nat) (w : World) (hr : Kd.C (Kd.int .u8) w A_b b.length b) (hc : b.length ≤ c_b) : Calls Try.prog 4 #[.slice A_b b.length c_b] w fun e w' => e = .returned (.bool true) ∧ Below w.heap.size w w' := by
  by_cases hl : b.length ≤ 3000
  · refine reads_main hl hb (m := (dcm b).1) (er := (dcm b).2) rfl ?_ A_b c_b w hr hc
    by_cases he : (dcm b).2 = 0
    · have := size_right (dcm_ok hb he).2.1
      omega
    · rw [dcm_else he]
      decide
  · exact reads_long (by omega) A_b c_b w hr hc
end Go.Proofs.Ytmmjmncchckbbaa
/-
  What a law's row hands over, read as the printed functions read it: for any kind built of numbers, truths, texts, slices and structs. By a session.
-/
namespace Go.Proofs.Ytmmjmncchckbbaa
open Go.ChangeShapes Go.WideShapes Go.RowKit Go.Proofs.YtmmjmncchckbbaaW.PrintWords

/-- What is trod and is light enough is read, and keeps the bounds WF. -/
def Opens {α : Type} (H : Type) (P : Program) (t : TypeId) (d : Kd α) (WF : α → Prop) : Prop :=
  ∀ {enc : TypeId × Value → H} {w : World} {fuel : Nat} {cs : List Value} {x : DataW H} {ps : List MemPlace},
    DataW.trod enc P w 0 (fun _ => true) true fuel t cs = some (x, ps) → (∀ n ∈ x.weights P t, n ≤ reachBytes) → ∃ a, d.K w a cs ∧ WF a

section
variable {H : Type} {P : Program} {t e : TypeId}
theorem opens_int {k : IntKind} (ht : P.underlying t = some (.int k)) : Opens H P t (Kd.int k) (fun a => (Lit.int k a).wf = true) := by
  intro enc w fuel cs x ps h _
  obtain ⟨n, rfl, _, hw⟩ := DataW.trod_int ht h
  exact ⟨n, rfl, hw⟩
theorem weights_all {l : List (DataW H)} {y : DataW H} (h : y ∈ l) : ∀ n ∈ y.weights P e, n ∈ DataW.weightsAll P e l := by
  induction l with
  | nil => simp at h
  | cons z l ih =>
    intro n hn
    rw [DataW.weightsAll, List.mem_append]
    rcases List.mem_cons.1 h with rfl | h
    · exact .inl hn
    · exact .inr (ih h n hn)

theorem mapM_get {α β : Type} {f : α → Option β} : ∀ {l : List α} {r : List β}, l.mapM f = some r → ∀ (i : Nat) (x : α), l[i]? = some x → f x = r[i]?
  | [], r, h, i, x, hx => by simp at hx
  | y :: l, r, h, i, x, hx => by
    rw [List.mapM_cons] at h
    simp only [Option.bind_eq_bind, Option.bind_eq_some_iff, Option.pure_def, Option.some.injEq] at h
    obtain ⟨z, hz, r', hr, rfl⟩ := h
    cases i with
    | zero => simp at hx; subst hx; simpa using hz
    | succ i => simp at hx; simpa using mapM_get hr i x hx
theorem mapM_len {α β : Type} {f : α → Option β} : ∀ {l : List α} {r : List β}, l.mapM f = some r → r.length = l.length
  | [], r, h => by simp at h; subst h; rfl
  | y :: l, r, h => by
    rw [List.mapM_cons] at h
    simp only [Option.bind_eq_bind, Option.bind_eq_some_iff, Option.pure_def, Option.some.injEq] at h
    obtain ⟨z, hz, r', hr, rfl⟩ := h
    simp [mapM_len hr]
theorem cells_get {w : World} {base : Nat} {a : Addr} {n : Nat} {cs : List Value} (h : w.cells? base a n = some cs) : cs.length = n ∧ ∀ i u, cs[i]? = some u → w.cell? (a.add i) = some u := by
  unfold World.cells? at h
  split at h
  · have hl := mapM_len h
    rw [List.length_range] at hl
    refine ⟨hl, fun i u hu => ?_⟩
    have hi : i < n := by rw [← hl]; exact (List.getElem?_eq_some_iff.1 hu).1
    rw [mapM_get h i i (by simp [hi]), hu]
  · cases h
theorem opens_slice {α : Type} {d : Kd α} {WF : α → Prop} (ht : P.underlying t = some (.slice e)) (hd : P.cellsOf e = d.sz) (he : Opens H P e d WF) :
    Opens H P t (Kd.slice e d) (fun xs => xs.length ≤ maxLen ∧ xs.length * P.bytesOf e ≤ reachBytes ∧ ∀ a ∈ xs, WF a) := by
  intro enc w fuel cs x ps h hw
  rcases DataW.trod_slice ht h with ⟨rfl, hx⟩ | ⟨a, len, cap, elems, rest, n, _, rfl, hx, _, hl, hm, hlen, hel, hsp, _⟩
  · exact ⟨[], ⟨none, 0, rfl, Nat.le_refl _, rfl, by simp, by simp⟩, by simp, by simp, by simp⟩
  · cases hx
    have hwt := hw ((elems.length + rest.length) * P.bytesOf e) (by simp [DataW.weights, ht])
    have each : ∀ i (hi : i < len), ∃ y : α, ∃ c : List Value, c.length = d.sz ∧ d.K w y c ∧ WF y ∧ ∀ j u, c[j]? = some u → w.cell? (a.add (i * d.sz + j)) = some u := by
      intro i hi
      have h1 := hel i hi
      rw [List.getElem?_eq_getElem (by omega), Option.bind_eq_some_iff] at h1
      obtain ⟨c, hc, hy⟩ := h1
      obtain ⟨hcl, hcc⟩ := cells_get hc
      obtain ⟨y, hk, hwf⟩ := he hy (fun n hn => hw n (by
        simp only [DataW.weights, ht, List.mem_cons, List.mem_append]
        exact .inr (.inl (weights_all (List.mem_map.2 ⟨elems[i], List.getElem_mem _, rfl⟩) n hn))))
      refine ⟨y, c, by rw [hcl, hd], hk, hwf, fun j u hu => ?_⟩
      have := hcc j u hu
      rwa [hd, add_add] at this
    have pick : ∃ ys : List α, ys.length = len ∧ ∀ i (y : α), ys[i]? = some y → ∃ c : List Value, c.length = d.sz ∧ d.K w y c ∧ WF y ∧ ∀ j u, c[j]? = some u → w.cell? (a.add (i * d.sz + j)) = some u := by
      clear hel hsp hw hwt hl hlen h
      induction len with
      | zero => exact ⟨[], rfl, fun i y h => by simp at h⟩
      | succ m ih =>
        obtain ⟨ys, hys, hyc⟩ := ih (fun i hi => each i (by omega))
        obtain ⟨y, hy⟩ := each m (by omega)
        refine ⟨ys ++ [y], by simp [hys], fun i z hz => ?_⟩
        rcases Nat.lt_or_ge i ys.length with h | h
        · rw [List.getElem?_append_left h] at hz
          exact hyc i z hz
        · rw [List.getElem?_append_right h] at hz
          have : i = m := by
            have := (List.getElem?_eq_some_iff.1 hz).1
            simp at this; omega
          subst this
          rw [hys, Nat.sub_self] at hz
          simp at hz
          subst hz
          exact hy
    obtain ⟨ys, hys, hyc⟩ := pick
    subst hys
    refine ⟨ys, ⟨some a, cap, rfl, hl, rfl, Nat.le_trans (Nat.le_trans hl hm) (by simp [maxLen]), fun _ => ⟨a, rfl, fun j p hp => ?_⟩⟩, Nat.le_trans hl hm, ?_, ?_⟩
    · obtain ⟨c, h1, h2, _, h3⟩ := hyc j p hp
      exact ⟨c, h1, h2, h3⟩
    · exact Nat.le_trans (Nat.mul_le_mul_right _ (by omega)) hwt
    · intro y hy
      obtain ⟨i, hi⟩ := List.getElem?_of_mem hy
      obtain ⟨c, _, _, hwf, _⟩ := hyc i y hi
      exact hwf

/-- For a row's j-th argument. -/
theorem Opens.row {α : Type} {d : Kd α} {WF : α → Prop} (h : Opens H P t d WF) {enc : TypeId × Value → H} {W : World} {ts : List TypeId} {ds : List (DataW H)} {j : Nat} {v : Value} {x : DataW H} {ps : List MemPlace}
    (hsz : (DataW.weightsEach P ts ds).all (· ≤ reachBytes) = true) (ht : ts[j]? = some t) (hd : ds[j]? = some x) (hv : DataW.Trod enc P W 0 (fun _ => true) true t v x ps) : ∃ a, d.K W a v.cells.toList ∧ WF a := by
  obtain ⟨fuel, hf⟩ := hv
  refine h hf fun n hn => ?_
  have := List.all_eq_true.1 hsz _ (DataW.weights_mem_each ht hd n hn)
  simpa using this
end
end Go.Proofs.Ytmmjmncchckbbaa
/-
  What a law of messages is handed.
-/
namespace Go.Proofs.Ytmmjmncchckbbaa
open Go.RowKit Go.Proofs.YtmmjmncchckbbaaW.PrintWords Go.Proofs.YtmmjmncchckbbaaW.PrintLast Go.Proofs.YtmmjmncchckbbaaW.PrintMore Go.Proofs.Ytmmjmncchckbbaa.PIg
set_option linter.unusedVariables false
set_option linter.unusedSimpArgs false
end Go.Proofs.Ytmmjmncchckbbaa
