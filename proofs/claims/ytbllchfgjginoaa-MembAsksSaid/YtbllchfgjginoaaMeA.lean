/-
  memb.work.ask: sources that are asked for.
-/
import Derived.Test.YtbllchfgjginoaaMeF
namespace Go.Proofs.Ytbllchfgjginoaa
open Go.RowKit Go.Lib Go.Proofs.YtbllchfgjginoaaW.PrintWords Go.Proofs.YtbllchfgjginoaaW.PrintLast Go.Proofs.YtbllchfgjginoaaW.PrintMore Go.Proofs.Ytbllchfgjginoaa.PMe
set_option linter.unusedVariables false
set_option linter.unusedSimpArgs false
def ask_T5 : Bool × List (List Nat × List Nat) := (true, [([], []), ([0], [0]), ([1], [1]), ([2], [2]), ([3], [3]), ([], []), ([], []), ([6], [6]), ([], []), ([8], [8]), ([9], [9]), ([10], [10]), ([11], [11]), ([7, 12], [7, 12]), ([4, 5, 0, 1, 2, 3, 4, 5, 6, 7, 8, 9, 10, 11, 12, 13], [4, 5]), ([14, 0, 1, 2, 3, 4, 5, 6, 7, 8, 9, 10, 11, 12, 13], [14]), ([15, 13, 0, 1, 2, 3, 4, 5, 6, 7, 8, 9, 10, 11, 12, 13], [13, 15])])
def ask_B5 : List Nat := [0, 1, 3, 7, 15, 0, 0, 64, 0, 256, 768, 1792, 3840, 8128, 16383, 32767, 65535]
theorem ask_t5 : rtab .any (opsOf Try.f37 5) = ask_T5 := by kernel_rfl
theorem ask_b5 : waitsOk ask_T5.2 ask_B5 = true := by kernel_rfl
def ask_T7 : Bool × List (List Nat × List Nat) := (true, [([], []), ([], []), ([1], [1]), ([2], [2]), ([3], [3]), ([], []), ([5], [5]), ([6], [6]), ([7], [7]), ([8], [8]), ([], []), ([9, 10], [9, 10]), ([11], [11]), ([4, 12], [4, 12]), ([0, 0, 1, 2, 3, 4, 5, 6, 7, 8, 9, 10, 11, 12, 13], [0]), ([14, 0, 1, 2, 3, 4, 5, 6, 7, 8, 9, 10, 11, 12, 13], [14]), ([15, 13, 13, 0, 1, 2, 3, 4, 5, 6, 7, 8, 9, 10, 11, 12, 13], [13, 15])])
def ask_B7 : List Nat := [0, 0, 2, 6, 14, 0, 32, 96, 224, 480, 0, 2016, 4064, 8190, 16383, 32767, 65535]
theorem ask_t7 : rtab .any (opsOf Try.f37 7) = ask_T7 := by kernel_rfl
theorem ask_b7 : waitsOk ask_T7.2 ask_B7 = true := by kernel_rfl
def ask1 (last : Int) (l : List Int) (s : S49) : S49 := if s.f0 ∈ l then ⟨s.f0, min s.f1 last⟩ else s
def askS (last : Int) (l : List Int) (xs : List S49) : List S49 := xs.map (ask1 last l)
def askZ (last : Int) (l : List Int) (xs : List S49) (i : Nat) : List S49 := (xs.take i).map (ask1 last l) ++ xs.drop i
theorem askZ_len (last : Int) (l : List Int) (xs : List S49) (i : Nat) : (askZ last l xs i).length = xs.length := by
  unfold askZ; simp only [List.length_append, List.length_map, List.length_take, List.length_drop]; omega
theorem askZ_at (last : Int) (l : List Int) {xs : List S49} {i : Nat} (h : i < xs.length) : rd_T49 (askZ last l xs i) i = rd_T49 xs i := by
  show (askZ last l xs i).getD _ _ = xs.getD _ _
  rw [Int.toNat_natCast, List.getD_eq_getElem?_getD, List.getD_eq_getElem?_getD]
  unfold askZ
  rw [List.getElem?_append_right (by simp only [List.length_map, List.length_take]; omega), List.getElem?_drop]
  congr 2
  simp only [List.length_map, List.length_take]; omega
theorem askZ_succ (last : Int) (l : List Int) {xs : List S49} {i : Nat} (h : i < xs.length) : askZ last l xs (i + 1) = (askZ last l xs i).set i (ask1 last l (rd_T49 xs i)) := by
  unfold askZ
  rw [rd49 xs i h, ← List.take_append_getElem h, List.map_append]
  have hl : ((xs.take i).map (ask1 last l)).length = i := by simp only [List.length_map, List.length_take]; omega
  rw [List.set_append_right _ _ (by omega), hl, Nat.sub_self, List.drop_eq_getElem_cons h, List.append_assoc]
  rfl
theorem askZ_same (last : Int) (l : List Int) {xs : List S49} {i : Nat} (h : i < xs.length) (hn : ¬ (rd_T49 xs i).f0 ∈ l) : askZ last l xs (i + 1) = askZ last l xs i := by
  rw [askZ_succ last l h]
  unfold ask1
  rw [if_neg hn, ← askZ_at last l h]
  have h2 : i < (askZ last l xs i).length := by rw [askZ_len]; exact h
  rw [rd49 _ i h2]
  exact List.set_getElem_self h2
theorem dr_below {w w' : World} (h : Drawn0 w w') : Below w.heap.size w w' := by
  obtain ⟨n, rfl⟩ := h
  exact pw_below_drewN (Below.refl _ _) n
def askM (m : WM) (l : List Int) : WM := if l.length = 0 then m else { m with srcs := askS m.last l m.srcs, asks := m.asks ++ [⟨m.g, l⟩] }
set_option maxHeartbeats 8000000 in
set_option maxRecDepth 100000 in
theorem ask_w {base gw : Nat} {m : WM} {vS vB vA : Value} {w : World} (h : Wk base gw m vS vB vA w) {v : Value} {l : List Int} (hl : RA w base v l) (hr : Rise l) (hn : l.length ≤ 1000000) (hm : m.srcs.length ≤ 1000000) (hq : m.asks.length ≤ 1000) (hbs : base ≤ w.heap.size) :
    Calls Try.prog 37 #[.pointer (some ⟨gw, 0, none⟩), v] w fun e w' => e = .returned (.tuple #[]) ∧ (∃ vS' vA', Wk base gw (askM m l) vS' vB vA' w') ∧ Fr base gw w w' := by
  have hu49 := Try.underlying49
  have hu73 := Try.underlying73
  have hu28 := Try.underlying28
  have hu23 := Try.underlying23
  have hu46 := Try.underlying46
  obtain ⟨A_l, c_l, rfl⟩ := Kd.R_slice hl
  obtain ⟨A_S, c_S, eS⟩ := Kd.R_slice h.S
  subst eS
  obtain ⟨A_A, c_A, eA⟩ := Kd.R_slice h.A
  subst eA
  obtain ⟨A_B, c_B, eB⟩ := Kd.R_slice h.B
  subst eB
  have XBS := Aside0.mk hbs
  have XR := Aside0.mk hr
  have XN := Aside0.mk hn
  have XM := Aside0.mk hm
  have XQ := Aside0.mk hq
  have HW0 := Aside0.mk h
  have HL := Aside0.mk hl
  have HF0 := Aside0.mk (Fr.refl base gw w)
  have XBOX := Aside0.mk h.box
  clear h hl hr hn hm hq hbs
  go_enter Try.func37, Try.ntmps37
  by_cases hz : l.length = 0
  · have c8 : ((l.length : Int) == 0) = true := by rw [hz]; rfl
    have XZ := Aside0.mk hz
    clear hz
    go_wp2
    refine bodyPost_ret (results_none rfl _ _ _) rfl ?_
    exact ⟨rfl, ⟨_, _, by unfold askM; rw [if_pos XZ.out]; exact HW0.out⟩, HF0.out⟩
  have c8 : ((l.length : Int) == 0) = false := beq_eq_false_iff_ne.2 (by omega)
  have XZ := Aside0.mk hz
  clear hz
  have hw3 : w.cell? ⟨gw, 3, none⟩ = some (.slice A_S m.srcs.length c_S) := (blk_cell HW0.out.blk 3).trans rfl
  go_wp2
  clear hw3 c8
  go_loopg [15] m.srcs.length (fun gk v15 w' => ∃ i : Nat, v15 = .int .i64 (i : Int) ∧ Aside0 (i ≤ m.srcs.length ∧ gk = m.srcs.length - i) ∧ Aside0 (Wk base gw { m with srcs := askZ m.last l m.srcs i } (.slice A_S m.srcs.length c_S) (.slice A_B m.b.length c_B) (.slice A_A m.asks.length c_A) w') ∧ Aside0 (Fr base gw w w'))
  case atStart => exact ⟨0, rfl, ⟨Nat.zero_le _, by omega⟩, HW0, HF0⟩
  case round =>
    clear HW0 HF0
    obtain ⟨i, rfl, HI, HW, HF⟩ := hrel
    obtain ⟨hi, hgk⟩ := HI.out
    have HA_l := Aside0.mk (HF.out.row HL.out (by exact XBOX.out))
    by_cases hlt : i < m.srcs.length
    · have HB := Aside0.mk (Below.refl wr.heap.size wr)
      have c16 : decide ((i : Int) < (m.srcs.length : Int)) = true := decide_eq_true (by omega)
      have p1 : (0 : Int) ≤ (i : Int) := by omega
      have p2 : (i : Int) < (m.srcs.length : Int) := by omega
      obtain ⟨ad, he, hx0, hx1⟩ := at_T49 (Kd.R_reads' HW.out.S).2.2 (i : Int) p1 (by rw [show ({ m with srcs := askZ m.last l m.srcs i } : WM).srcs = askZ m.last l m.srcs i from rfl, askZ_len]; exact p2)
      subst he
      rw [Int.toNat_natCast] at hx0 hx1
      have hxz : rd_T49 (askZ m.last l m.srcs i) (i : Int) = rd_T49 m.srcs (i : Int) := askZ_at _ _ hlt
      obtain ⟨x, hx⟩ : ∃ x, x = rd_T49 m.srcs (i : Int) := ⟨_, rfl⟩
      replace hx0 : wr.cell? (ad.add (i * 2)) = some (.int .u32 x.f0) := by rw [hx, ← hxz]; exact hx0
      replace hx1 : wr.cell? ⟨(ad.add (i * 2)).block, (ad.add (i * 2)).off + 1, none⟩ = some (.int .i64 x.f1) := by rw [hx, ← hxz]; exact hx1
      have HX := Aside0.mk hx
      have HSU := Aside0.mk (askZ_succ m.last l hlt)
      have HSA := Aside0.mk (fun hn => askZ_same m.last l hlt hn)
      rw [← hx] at HSU HSA
      clear hx hxz
      replace p1 := eq_true p1
      replace p2 := eq_true p2
      go_upto_region 4 with (first | ((with_reducible refine gate_dst (N := 5) rfl ?_); (try (refine gate_guard (by rfl) ?_; dsimp only)); refine box_event ?hg (N := 5) ?hd (cs := #[.int .u32 0, .int .i64 0]) (t := 49) ?hr ?_; (case hd => rfl); (case hg => rfl); (case hr => first | (go_simp; done) | (go_simp; rfl)); intro gx hg w61_ hbox hB0; have hG := Aside0.mk (show wr.heap.size ≤ gx from Nat.le_of_eq hg.symm); clear hg; have hBX := Aside0.mk hbox; have hB1 := Aside0.mk hB0; clear hB0; have hc_gx_0 : w61_.cell? ⟨gx, 0, none⟩ = some (.int .u32 0) := (blk_cell hbox 0).trans rfl; have hf_gx_0 := blk_frozen hbox 0; have hc_gx_1 : w61_.cell? ⟨gx, 1, none⟩ = some (.int .i64 0) := (blk_cell hbox 1).trans rfl; have hf_gx_1 := blk_frozen hbox 1; clear hbox))
      have hB : Below wr.heap.size wr ((w61_.setCell ⟨gx, 0, none⟩ (.int .u32 x.f0)).setCell ⟨gx, 1, none⟩ (.int .i64 x.f1)) := (below_set (below_set hB1.out hG.out) hG.out)
      have hBN : ((w61_.setCell ⟨gx, 0, none⟩ (.int .u32 x.f0)).setCell ⟨gx, 1, none⟩ (.int .i64 x.f1)).heap[gx]? = some (.cells #[.int .u32 x.f0, .int .i64 x.f1] 49 (0, 0)) := (blk_put (cs := #[.int .u32 x.f0, .int .i64 0]) (blk_put (cs := #[.int .u32 0, .int .i64 0]) hBX.out 0 (.int .u32 x.f0) rfl) 1 (.int .i64 x.f1) rfl)
      clear hBX hB1
      clear hc_gx_0 hf_gx_0 hc_gx_1 hf_gx_1
      generalize ((w61_.setCell ⟨gx, 0, none⟩ (.int .u32 x.f0)).setCell ⟨gx, 1, none⟩ (.int .i64 x.f1)) = w62_ at hB hBN ⊢
      replace HW := Aside0.mk (HW.out.below hB)
      replace HF := Aside0.mk (HF.out.trans (Fr.of_below hB))
      replace HA_l := mvR HA_l hB
      have HBo := Aside0.mk HB.out
      have nHB := Aside0.mk (HB.out.trans (hB.mono HB.out.size))
      clear HB
      have HB := nHB
      clear nHB
      have BK_gx := Aside0.mk hBN
      have GE_gx := Aside0.mk (Nat.le_trans HBo.out.size hG.out)
      clear HBo hG hBN hB
      have hc_gx_0 : w62_.cell? ⟨gx, 0, none⟩ = some (.int .u32 x.f0) := (blk_cell BK_gx.out 0).trans rfl
      have hf_gx_0 := blk_frozen BK_gx.out 0
      have hc_gx_1 : w62_.cell? ⟨gx, 1, none⟩ = some (.int .i64 x.f1) := (blk_cell BK_gx.out 1).trans rfl
      have hf_gx_1 := blk_frozen BK_gx.out 1
      clear hx0 hx1 HB
      obtain ⟨b, hb⟩ : ∃ b, decide (x.f0 ∈ l) = b := ⟨_, rfl⟩
      have XBB := Aside0.mk hb
      have XH := Aside0.mk (has_some l (by have := XN.out; omega) x.f0 XR.out 1000001 (by have := XN.out; omega))
      rw [hb] at XH
      clear hb
      cases b with
      | false =>
        go_wp2_with (first | (go_at_call 57; (with_reducible refine (set_Has.calls 1000001 _ _ l x.f0 false _ (Kd.R_reads' HA_l.out).2.2 (Kd.R_reads' HA_l.out).2.1 XH.out).mono ?_); rintro e_ w71_ ⟨rfl, hD⟩; have hB := dr_below hD; clear hD; replace HW := Aside0.mk (HW.out.below hB); replace HF := Aside0.mk (HF.out.trans (Fr.of_below hB)); replace HA_l := mvR HA_l hB; clear hc_gx_0 hf_gx_0 hc_gx_1 hf_gx_1; replace BK_gx := mvB BK_gx hB; clear hB; have hc_gx_0 : w71_.cell? ⟨gx, 0, none⟩ = some (.int .u32 x.f0) := (blk_cell BK_gx.out 0).trans rfl; have hf_gx_0 := blk_frozen BK_gx.out 0; have hc_gx_1 : w71_.cell? ⟨gx, 1, none⟩ = some (.int .i64 x.f1) := (blk_cell BK_gx.out 1).trans rfl; have hf_gx_1 := blk_frozen BK_gx.out 1))
        go_roundg (m.srcs.length - (i + 1))
        case measure => omega
        case rel =>
          refine ⟨i + 1, ?_, ⟨by omega, rfl⟩, ⟨?_⟩, HF⟩
          · show Value.int .i64 (wrap64 ((i : Int) + 1)) = _
            have h1 := XM.out
            have h2 : wrap64 ((i : Int) + 1) = ((i + 1 : Nat) : Int) := by unfold wrap64; omega
            rw [h2]
          · rw [HSA.out (of_decide_eq_false XBB.out)]; exact HW.out
      | true =>
        go_upto_region 5 with (first | (go_at_call 57; (with_reducible refine (set_Has.calls 1000001 _ _ l x.f0 true _ (Kd.R_reads' HA_l.out).2.2 (Kd.R_reads' HA_l.out).2.1 XH.out).mono ?_); rintro e_ w71_ ⟨rfl, hD⟩; have hB := dr_below hD; clear hD; replace HW := Aside0.mk (HW.out.below hB); replace HF := Aside0.mk (HF.out.trans (Fr.of_below hB)); replace HA_l := mvR HA_l hB; clear hc_gx_0 hf_gx_0 hc_gx_1 hf_gx_1; replace BK_gx := mvB BK_gx hB; clear hB; have hc_gx_0 : w71_.cell? ⟨gx, 0, none⟩ = some (.int .u32 x.f0) := (blk_cell BK_gx.out 0).trans rfl; have hf_gx_0 := blk_frozen BK_gx.out 0; have hc_gx_1 : w71_.cell? ⟨gx, 1, none⟩ = some (.int .i64 x.f1) := (blk_cell BK_gx.out 1).trans rfl; have hf_gx_1 := blk_frozen BK_gx.out 1))
        have hlen := Aside0.mk (show i < ({ m with srcs := askZ m.last l m.srcs i } : WM).srcs.length from by rw [show ({ m with srcs := askZ m.last l m.srcs i } : WM).srcs = askZ m.last l m.srcs i from rfl, askZ_len]; exact hlt)
        obtain ⟨g, cap, ev_, hgb, _, _⟩ := Kd.R_form HW.out.S (Nat.lt_of_le_of_lt (Nat.zero_le _) hlen.out)
        simp only [Value.slice.injEq, Option.some.injEq] at ev_
        obtain ⟨rfl, ev1_, ev2_⟩ := ev_
        clear ev1_ ev2_
        have HGG := Aside0.mk (show g ≠ gw from fun e => Kd.R_ne HW.out.S HW.out.blk (by decide) (by rw [e]; rfl))
        have q1 : (0 : Int) ≤ (i : Int) := by omega
        have q2 : (i : Int) < (m.srcs.length : Int) := by omega
        replace q1 := eq_true q1
        replace q2 := eq_true q2
        have hw_3 : w71_.cell? ⟨gw, 3, none⟩ = some (.slice (some ⟨g, 0, none⟩) m.srcs.length c_S) := (blk_cell HW.out.blk 3).trans rfl
        have hf_3 := blk_frozen HW.out.blk 3
        have hw_5 : w71_.cell? ⟨gw, 5, none⟩ = some (.int .i64 m.last) := (blk_cell HW.out.blk 5).trans rfl
        have hf_5 := blk_frozen HW.out.blk 5
        refine start_ (n := 17) (S := fun w' => w'.cell? ⟨gw, 3, none⟩ = some (.slice (some ⟨g, 0, none⟩) m.srcs.length c_S) ∧ w'.cell? ⟨gw, 5, none⟩ = some (.int .i64 m.last) ∧ w'.cell? ⟨gx, 1, none⟩ = some (.int .i64 x.f1)) (ds := [16]) #[false, false, false, false, false, false, false, false, false, false, false, false, false, false, false, false, false] (by kernel_rfl) rfl rfl ⟨hw_3, hw_5, hc_gx_1⟩ (fun hHeld => ?_); refine with_tabW ask_t5 ask_b5 (fun HT_ HW_ => ?_)
        have hB : Below w71_.heap.size w71_ w71_.drew := below_drew (Below.refl _ _)
        generalize w71_.drew = w72_ at hB hHeld ⊢
        clear hw_3 hf_3 hw_5 hf_5
        replace HW := Aside0.mk (HW.out.below hB)
        replace HF := Aside0.mk (HF.out.trans (Fr.of_below hB))
        replace HA_l := mvR HA_l hB
        clear hc_gx_0 hf_gx_0 hc_gx_1 hf_gx_1
        replace BK_gx := mvB BK_gx hB
        have hc_gx_0 : w72_.cell? ⟨gx, 0, none⟩ = some (.int .u32 x.f0) := (blk_cell BK_gx.out 0).trans rfl
        have hf_gx_0 := blk_frozen BK_gx.out 0
        have hc_gx_1 : w72_.cell? ⟨gx, 1, none⟩ = some (.int .i64 x.f1) := (blk_cell BK_gx.out 1).trans rfl
        have hf_gx_1 := blk_frozen BK_gx.out 1
        clear hB
        have hw_3 : w72_.cell? ⟨gw, 3, none⟩ = some (.slice (some ⟨g, 0, none⟩) m.srcs.length c_S) := (blk_cell HW.out.blk 3).trans rfl
        have hf_3 := blk_frozen HW.out.blk 3
        have hw_5 : w72_.cell? ⟨gw, 5, none⟩ = some (.int .i64 m.last) := (blk_cell HW.out.blk 5).trans rfl
        have hf_5 := blk_frozen HW.out.blk 5
        refine pure_ (i := 0) (N := some 24) (v := ?_) (a' := ?_) #[true, false, false, false, false, false, false, false, false, false, false, false, false, false, false, false, false] rfl rfl (any_of HT_.out (by kernel_rfl)) (fun _ _ _ h => h) (Or.inl ⟨by rfl, ?_⟩) ?_ ?_
        rotate_left
        · intro w'
          go_simp
          with_reducible rfl
        rotate_left
        · simp only [Act.put, List.setIfInBounds_toArray, List.set_cons_zero, List.set_cons_succ, i64_w, i32_w]
          rfl
        refine pure_ (i := 1) (N := some 25) (v := ?_) (a' := ?_) #[true, true, false, false, false, false, false, false, false, false, false, false, false, false, false, false, false] rfl rfl (any_of HT_.out (by kernel_rfl)) (fun _ _ _ h => h) (Or.inl ⟨by rfl, ?_⟩) ?_ ?_
        rotate_left
        · intro w'
          go_simp
          with_reducible rfl
        rotate_left
        · simp only [Act.put, List.setIfInBounds_toArray, List.set_cons_zero, List.set_cons_succ, i64_w, i32_w]
          rfl
        refine pure_ (i := 2) (N := some 26) (v := ?_) (a' := ?_) #[true, true, true, false, false, false, false, false, false, false, false, false, false, false, false, false, false] rfl rfl (any_of HT_.out (by kernel_rfl)) (fun _ _ _ h => h) (Or.inl ⟨by rfl, ?_⟩) ?_ ?_
        rotate_left
        · intro w'
          go_simp
          with_reducible rfl
        rotate_left
        · simp only [Act.put, List.setIfInBounds_toArray, List.set_cons_zero, List.set_cons_succ, i64_w, i32_w]
          rfl
        refine pure_ (i := 3) (N := some 27) (v := ?_) (a' := ?_) #[true, true, true, true, false, false, false, false, false, false, false, false, false, false, false, false, false] rfl rfl (any_of HT_.out (by kernel_rfl)) (fun _ _ _ h => h) (Or.inl ⟨by rfl, ?_⟩) ?_ ?_
        rotate_left
        · intro w'
          go_simp
          with_reducible rfl
        rotate_left
        · simp only [Act.put, List.setIfInBounds_toArray, List.set_cons_zero, List.set_cons_succ, i64_w, i32_w]
          rfl
        refine take_ (i := 4) (N := some 28) (v := ?_) (a' := ?_) #[true, true, true, true, true, false, false, false, false, false, false, false, false, false, false, false, false] rfl rfl (take_ofW HT_.out HW_.out (by kernel_rfl)) (fun _ _ _ h => h) (Or.inl ⟨by rfl, ?_⟩) hHeld ?_ ?_
        rotate_left
        · rintro w' ⟨s0, s1, s2⟩
          go_simp
          with_reducible rfl
        rotate_left
        · simp only [Act.put, List.setIfInBounds_toArray, List.set_cons_zero, List.set_cons_succ, i64_w, i32_w]
          rfl
        refine pure_ (i := 5) (N := some 29) (v := ?_) (a' := ?_) #[true, true, true, true, true, true, false, false, false, false, false, false, false, false, false, false, false] rfl rfl (any_of HT_.out (by kernel_rfl)) (fun _ _ _ h => h) (Or.inl ⟨by rfl, ?_⟩) ?_ ?_
        rotate_left
        · intro w'
          go_simp
          with_reducible rfl
        rotate_left
        · simp only [Act.put, List.setIfInBounds_toArray, List.set_cons_zero, List.set_cons_succ, i64_w, i32_w]
          rfl
        refine pure_ (i := 6) (N := some 30) (v := ?_) (a' := ?_) #[true, true, true, true, true, true, true, false, false, false, false, false, false, false, false, false, false] rfl rfl (any_of HT_.out (by kernel_rfl)) (fun _ _ _ h => h) (Or.inl ⟨by rfl, ?_⟩) ?_ ?_
        rotate_left
        · intro w'
          go_simp
          with_reducible rfl
        rotate_left
        · simp only [Act.put, List.setIfInBounds_toArray, List.set_cons_zero, List.set_cons_succ, i64_w, i32_w]
          rfl
        refine take_ (i := 7) (N := some 31) (v := ?_) (a' := ?_) #[true, true, true, true, true, true, true, true, false, false, false, false, false, false, false, false, false] rfl rfl (take_ofW HT_.out HW_.out (by kernel_rfl)) (fun _ _ _ h => h) (Or.inl ⟨by rfl, ?_⟩) hHeld ?_ ?_
        rotate_left
        · rintro w' ⟨s0, s1, s2⟩
          go_simp
          with_reducible rfl
        rotate_left
        · simp only [Act.put, List.setIfInBounds_toArray, List.set_cons_zero, List.set_cons_succ, i64_w, i32_w]
          rfl
        refine pure_ (i := 8) (N := some 32) (v := ?_) (a' := ?_) #[true, true, true, true, true, true, true, true, true, false, false, false, false, false, false, false, false] rfl rfl (any_of HT_.out (by kernel_rfl)) (fun _ _ _ h => h) (Or.inl ⟨by rfl, ?_⟩) ?_ ?_
        rotate_left
        · intro w'
          go_simp
          with_reducible rfl
        rotate_left
        · simp only [Act.put, List.setIfInBounds_toArray, List.set_cons_zero, List.set_cons_succ, i64_w, i32_w]
          rfl
        refine pure_ (i := 9) (N := some 33) (v := ?_) (a' := ?_) #[true, true, true, true, true, true, true, true, true, true, false, false, false, false, false, false, false] rfl rfl (any_of HT_.out (by kernel_rfl)) (fun _ _ _ h => h) (Or.inl ⟨by rfl, ?_⟩) ?_ ?_
        rotate_left
        · intro w'
          go_simp
          with_reducible rfl
        rotate_left
        · simp only [Act.put, List.setIfInBounds_toArray, List.set_cons_zero, List.set_cons_succ, i64_w, i32_w]
          rfl
        refine pure_ (i := 10) (N := some 34) (v := ?_) (a' := ?_) #[true, true, true, true, true, true, true, true, true, true, true, false, false, false, false, false, false] rfl rfl (any_of HT_.out (by kernel_rfl)) (fun _ _ _ h => h) (Or.inl ⟨by rfl, ?_⟩) ?_ ?_
        rotate_left
        · intro w'
          go_simp
          with_reducible rfl
        rotate_left
        · simp only [Act.put, List.setIfInBounds_toArray, List.set_cons_zero, List.set_cons_succ, i64_w, i32_w]
          rfl
        refine pure_ (i := 11) (N := some 35) (v := ?_) (a' := ?_) #[true, true, true, true, true, true, true, true, true, true, true, true, false, false, false, false, false] rfl rfl (any_of HT_.out (by kernel_rfl)) (fun _ _ _ h => h) (Or.inl ⟨by rfl, ?_⟩) ?_ ?_
        rotate_left
        · intro w'
          go_simp
          with_reducible rfl
        rotate_left
        · simp only [Act.put, List.setIfInBounds_toArray, List.set_cons_zero, List.set_cons_succ, i64_w, i32_w]
          rfl
        refine take_ (i := 12) (N := some 36) (v := ?_) (a' := ?_) #[true, true, true, true, true, true, true, true, true, true, true, true, true, false, false, false, false] rfl rfl (take_ofW HT_.out HW_.out (by kernel_rfl)) (fun _ _ _ h => h) (Or.inl ⟨by rfl, ?_⟩) hHeld ?_ ?_
        rotate_left
        · rintro w' ⟨s0, s1, s2⟩
          go_simp
          with_reducible rfl
        rotate_left
        · simp only [Act.put, List.setIfInBounds_toArray, List.set_cons_zero, List.set_cons_succ, i64_w, i32_w]
          rfl
        refine pure_ (i := 13) (N := some 37) (v := ?_) (a' := ?_) #[true, true, true, true, true, true, true, true, true, true, true, true, true, true, false, false, false] rfl rfl (any_of HT_.out (by kernel_rfl)) (fun _ _ _ h => h) (Or.inl ⟨by rfl, ?_⟩) ?_ ?_
        rotate_left
        · intro w'
          go_simp
          with_reducible rfl
        rotate_left
        · simp only [Act.put, List.setIfInBounds_toArray, List.set_cons_zero, List.set_cons_succ, i64_w, i32_w]
          rfl
        refine pure_ (i := 14) (N := some 38) (v := ?_) (a' := ?_) #[true, true, true, true, true, true, true, true, true, true, true, true, true, true, true, false, false] rfl rfl (any_of HT_.out (by kernel_rfl)) (fun _ _ _ h => h) (Or.inl ⟨by rfl, ?_⟩) ?_ ?_
        rotate_left
        · intro w'
          go_simp
          with_reducible rfl
        rotate_left
        · simp only [Act.put, List.setIfInBounds_toArray, List.set_cons_zero, List.set_cons_succ, i64_w, i32_w]
          rfl
        refine pure_ (i := 15) (N := some 39) (v := ?_) (a' := ?_) #[true, true, true, true, true, true, true, true, true, true, true, true, true, true, true, true, false] rfl rfl (any_of HT_.out (by kernel_rfl)) (fun _ _ _ h => h) (Or.inl ⟨by rfl, ?_⟩) ?_ ?_
        rotate_left
        · intro w'
          go_simp
          with_reducible rfl
        rotate_left
        · simp only [Act.put, List.setIfInBounds_toArray, List.set_cons_zero, List.set_cons_succ, i64_w, i32_w]
          rfl
        refine last_ (i := 16) (N := none) #[true, true, true, true, true, true, true, true, true, true, true, true, true, true, true, true, true] rfl rfl (one_of HT_.out (by kernel_rfl)) (by decide) (fun K hK => ?_)
        obtain ⟨⟨y_, hy_⟩, hfy_⟩ := R49_cell HW.out.S i hlen.out
        refine skip_ (w1 := ?_) (by rfl) rfl ?_ ?_
        rotate_left
        · go_simp
          rfl
        clear hy_ hfy_
        obtain ⟨hS2, hG2⟩ := R49_store HW.out.S i hlen.out (min x.f1 m.last)
        obtain ⟨hb2, hB2, hA2, hF2⟩ := HW.out.overS hG2 hS2
        have HEND := Aside0.mk hS2
        have HE2 := Aside0.mk (And.intro (hb2.trans HW.out.blk) (And.intro HW.out.ge (And.intro hB2 hA2)))
        have HFE := Aside0.mk (HF.out.trans hF2)
        clear hw_3 hf_3 hw_5 hf_5
        clear HW HF HA_l hS2 hG2 hb2 hB2 hA2 hF2 hc_gx_0 hf_gx_0 hc_gx_1 hf_gx_1 BK_gx
        generalize (w72_.setCell ⟨g, i * 2 + 1, none⟩ (.int .i64 (min x.f1 m.last))) = w73_ at HEND HE2 HFE ⊢
        refine hK.out _ _ ?_
        clear hK K
        refine done_ (done_of HT_.out (by kernel_rfl)) ?_
        go_wp2
        go_roundg (m.srcs.length - (i + 1))
        case measure => omega
        case rel =>
          refine ⟨i + 1, ?_, ⟨by omega, rfl⟩, ⟨?_⟩, HFE⟩
          · show Value.int .i64 (wrap64 ((i : Int) + 1)) = _
            have h1 := XM.out
            have h2 : wrap64 ((i : Int) + 1) = ((i + 1 : Nat) : Int) := by unfold wrap64; omega
            rw [h2]
          · obtain ⟨a1, a2, a3, a4⟩ := HE2.out
            have hv : ask1 m.last l x = ⟨(rd_T49 (askZ m.last l m.srcs i) i).f0, min x.f1 m.last⟩ := by unfold ask1; rw [if_pos (of_decide_eq_true XBB.out), askZ_at m.last l hlt, ← HX.out]
            rw [HSU.out, hv]
            exact ⟨a1, a2, HEND.out, a3, a4⟩
    · have c16 : decide ((i : Int) < (m.srcs.length : Int)) = false := decide_eq_false (by omega)
      have hie : i = m.srcs.length := by omega
      replace HW := Aside0.mk (show Wk base gw { m with srcs := askS m.last l m.srcs } (.slice A_S m.srcs.length c_S) (.slice A_B m.b.length c_B) (.slice A_A m.asks.length c_A) wr by have h1 := HW.out; rw [hie] at h1; unfold askZ at h1; rw [List.take_length, List.drop_length, List.append_nil] at h1; exact h1)
      clear hie hgk
      go_upto_region 7 with fail
      have hw_7 : wr.cell? ⟨gw, 7, none⟩ = some (.slice A_A m.asks.length c_A) := (blk_cell HW.out.blk 7).trans rfl
      have hf_7 := blk_frozen HW.out.blk 7
      have hw_0 : wr.cell? ⟨gw, 0, none⟩ = some (.int .u32 m.g) := (blk_cell HW.out.blk 0).trans rfl
      have hf_0 := blk_frozen HW.out.blk 0
      refine start_ (n := 17) (S := fun w' => w'.cell? ⟨gw, 7, none⟩ = some (.slice A_A m.asks.length c_A) ∧ w'.cell? ⟨gw, 0, none⟩ = some (.int .u32 m.g)) (ds := [13, 16]) #[false, false, false, false, false, false, false, false, false, false, false, false, false, false, false, false, false] (by kernel_rfl) rfl rfl ⟨hw_7, hw_0⟩ (fun hHeld => ?_); refine with_tabW ask_t7 ask_b7 (fun HT_ HW_ => ?_)
      have hB : Below wr.heap.size wr wr.drew := below_drew (Below.refl _ _)
      generalize wr.drew = w201_ at hB hHeld ⊢
      clear hw_7 hf_7 hw_0 hf_0
      replace HW := Aside0.mk (HW.out.below hB)
      replace HF := Aside0.mk (HF.out.trans (Fr.of_below hB))
      replace HA_l := mvR HA_l hB
      clear hB
      have hw_7 : w201_.cell? ⟨gw, 7, none⟩ = some (.slice A_A m.asks.length c_A) := (blk_cell HW.out.blk 7).trans rfl
      have hf_7 := blk_frozen HW.out.blk 7
      have hw_0 : w201_.cell? ⟨gw, 0, none⟩ = some (.int .u32 m.g) := (blk_cell HW.out.blk 0).trans rfl
      have hf_0 := blk_frozen HW.out.blk 0
      refine pure_ (i := 0) (N := some 41) (v := ?_) (a' := ?_) #[true, false, false, false, false, false, false, false, false, false, false, false, false, false, false, false, false] rfl rfl (any_of HT_.out (by kernel_rfl)) (fun _ _ _ h => h) (Or.inl ⟨by rfl, ?_⟩) ?_ ?_
      rotate_left
      · intro w'
        go_simp
        with_reducible rfl
      rotate_left
      · simp only [Act.put, List.setIfInBounds_toArray, List.set_cons_zero, List.set_cons_succ, i64_w, i32_w]
        rfl
      refine pure_ (i := 1) (N := some 42) (v := ?_) (a' := ?_) #[true, true, false, false, false, false, false, false, false, false, false, false, false, false, false, false, false] rfl rfl (any_of HT_.out (by kernel_rfl)) (fun _ _ _ h => h) (Or.inl ⟨by rfl, ?_⟩) ?_ ?_
      rotate_left
      · intro w'
        go_simp
        with_reducible rfl
      rotate_left
      · simp only [Act.put, List.setIfInBounds_toArray, List.set_cons_zero, List.set_cons_succ, i64_w, i32_w]
        rfl
      refine pure_ (i := 2) (N := some 43) (v := ?_) (a' := ?_) #[true, true, true, false, false, false, false, false, false, false, false, false, false, false, false, false, false] rfl rfl (any_of HT_.out (by kernel_rfl)) (fun _ _ _ h => h) (Or.inl ⟨by rfl, ?_⟩) ?_ ?_
      rotate_left
      · intro w'
        go_simp
        with_reducible rfl
      rotate_left
      · simp only [Act.put, List.setIfInBounds_toArray, List.set_cons_zero, List.set_cons_succ, i64_w, i32_w]
        rfl
      refine pure_ (i := 3) (N := some 44) (v := ?_) (a' := ?_) #[true, true, true, true, false, false, false, false, false, false, false, false, false, false, false, false, false] rfl rfl (any_of HT_.out (by kernel_rfl)) (fun _ _ _ h => h) (Or.inl ⟨by rfl, ?_⟩) ?_ ?_
      rotate_left
      · intro w'
        go_simp
        with_reducible rfl
      rotate_left
      · simp only [Act.put, List.setIfInBounds_toArray, List.set_cons_zero, List.set_cons_succ, i64_w, i32_w]
        rfl
      refine take_ (i := 4) (N := some 45) (v := ?_) (a' := ?_) #[true, true, true, true, true, false, false, false, false, false, false, false, false, false, false, false, false] rfl rfl (take_ofW HT_.out HW_.out (by kernel_rfl)) (fun _ _ _ h => h) (Or.inl ⟨by rfl, ?_⟩) hHeld ?_ ?_
      rotate_left
      · rintro w' ⟨s0, s1⟩
        go_simp
        with_reducible rfl
      rotate_left
      · simp only [Act.put, List.setIfInBounds_toArray, List.set_cons_zero, List.set_cons_succ, i64_w, i32_w]
        rfl
      refine pure_ (i := 5) (N := some 46) (v := ?_) (a' := ?_) #[true, true, true, true, true, true, false, false, false, false, false, false, false, false, false, false, false] rfl rfl (any_of HT_.out (by kernel_rfl)) (fun _ _ _ h => h) (Or.inl ⟨by rfl, ?_⟩) ?_ ?_
      rotate_left
      · intro w'
        go_simp
        with_reducible rfl
      rotate_left
      · simp only [Act.put, List.setIfInBounds_toArray, List.set_cons_zero, List.set_cons_succ, i64_w, i32_w]
        rfl
      refine pure_ (i := 6) (N := some 47) (v := ?_) (a' := ?_) #[true, true, true, true, true, true, true, false, false, false, false, false, false, false, false, false, false] rfl rfl (any_of HT_.out (by kernel_rfl)) (fun _ _ _ h => h) (Or.inl ⟨by rfl, ?_⟩) ?_ ?_
      rotate_left
      · intro w'
        go_simp
        with_reducible rfl
      rotate_left
      · simp only [Act.put, List.setIfInBounds_toArray, List.set_cons_zero, List.set_cons_succ, i64_w, i32_w]
        rfl
      refine pure_ (i := 7) (N := some 48) (v := ?_) (a' := ?_) #[true, true, true, true, true, true, true, true, false, false, false, false, false, false, false, false, false] rfl rfl (any_of HT_.out (by kernel_rfl)) (fun _ _ _ h => h) (Or.inl ⟨by rfl, ?_⟩) ?_ ?_
      rotate_left
      · intro w'
        go_simp
        with_reducible rfl
      rotate_left
      · simp only [Act.put, List.setIfInBounds_toArray, List.set_cons_zero, List.set_cons_succ, i64_w, i32_w]
        rfl
      refine pure_ (i := 8) (N := some 49) (v := ?_) (a' := ?_) #[true, true, true, true, true, true, true, true, true, false, false, false, false, false, false, false, false] rfl rfl (any_of HT_.out (by kernel_rfl)) (fun _ _ _ h => h) (Or.inl ⟨by rfl, ?_⟩) ?_ ?_
      rotate_left
      · intro w'
        go_simp
        with_reducible rfl
      rotate_left
      · simp only [Act.put, List.setIfInBounds_toArray, List.set_cons_zero, List.set_cons_succ, i64_w, i32_w]
        rfl
      refine take_ (i := 9) (N := some 50) (v := ?_) (a' := ?_) #[true, true, true, true, true, true, true, true, true, true, false, false, false, false, false, false, false] rfl rfl (take_ofW HT_.out HW_.out (by kernel_rfl)) (fun _ _ _ h => h) (Or.inl ⟨by rfl, ?_⟩) hHeld ?_ ?_
      rotate_left
      · rintro w' ⟨s0, s1⟩
        go_simp
        with_reducible rfl
      rotate_left
      · simp only [Act.put, List.setIfInBounds_toArray, List.set_cons_zero, List.set_cons_succ, i64_w, i32_w]
        rfl
      refine pure_ (i := 10) (N := some 51) (v := ?_) (a' := ?_) #[true, true, true, true, true, true, true, true, true, true, true, false, false, false, false, false, false] rfl rfl (any_of HT_.out (by kernel_rfl)) (fun _ _ _ h => h) (Or.inl ⟨by rfl, ?_⟩) ?_ ?_
      rotate_left
      · intro w'
        go_simp
        with_reducible rfl
      rotate_left
      · simp only [Act.put, List.setIfInBounds_toArray, List.set_cons_zero, List.set_cons_succ, i64_w, i32_w]
        rfl
      refine pure_ (i := 11) (N := some 52) (v := ?_) (a' := ?_) #[true, true, true, true, true, true, true, true, true, true, true, true, false, false, false, false, false] rfl rfl (any_of HT_.out (by kernel_rfl)) (fun _ _ _ h => h) (Or.inl ⟨by rfl, ?_⟩) ?_ ?_
      rotate_left
      · intro w'
        go_simp
        with_reducible rfl
      rotate_left
      · simp only [Act.put, List.setIfInBounds_toArray, List.set_cons_zero, List.set_cons_succ, i64_w, i32_w]
        rfl
      refine one_ (i := 12) (N := some 53) #[true, true, true, true, true, true, true, true, true, true, true, true, true, false, false, false, false] rfl rfl (one_of HT_.out (by kernel_rfl)) (by decide) (fun K hK => ?_)
      refine value_ (w1 := ?_) (v := ?_) (by rfl) rfl ?_ ?_
      rotate_left 2
      · go_simp
        constructor
        · rfl
        · rfl
      have hB9 := below_alloc (Below.refl w201_.heap.size w201_) (.cells #[.int .u32 m.g, .slice A_l l.length c_l] 46)
      replace hw_7 := (hB9.cell (World.block_lt_of_cell? _ _ hw_7)).trans hw_7
      replace hw_0 := (hB9.cell (World.block_lt_of_cell? _ _ hw_0)).trans hw_0
      clear hB9 hf_7 hf_0
      refine hK.out _ _ ⟨hw_7, hw_0⟩ (fun hHeld => ?_)
      clear hK K
      refine norm_ (a' := ?_) ?_ ?_
      rotate_left
      · show Act.put _ (some 53) _ = _
        simp only [Act.put, List.setIfInBounds_toArray, List.set_cons_zero, List.set_cons_succ, i64_w, i32_w]
        rfl
      refine last_ (i := 13) (N := some 54) #[true, true, true, true, true, true, true, true, true, true, true, true, true, true, false, false, false] rfl rfl (one_of HT_.out (by kernel_rfl)) (by decide) (fun K hK => ?_)
      refine Kd.R_append_step k46 (w0 := w201_) base (by rfl) (.tmp 45) (.tmp 53) 35 46 (.agg #[(.int .u32 0), (.slice none 0 0)]) 32 rfl Try.underlying35 info46 rfl (by decide) (by decide) _ m.asks (⟨m.g, l⟩ : S46) [.int .u32 m.g, .slice A_l l.length c_l] (fun _ => True) (fun k => some k = (.slice A_l l.length c_l : Value).ownBlock) rfl rfl ?aP (fun k hk => ⟨trivial, fun e => ?aQ⟩) (fun _ _ => trivial) HW.out.A (Below.refl _ _) (Nat.le_trans XBS.out HF.out.size) (by have := XQ.out; omega) ?_
      (case aP => exact k46_mkM _ _ _ (⟨m.g, l⟩ : S46) (Kd.R_mono (Kd.R_tight rfl HA_l.out) (fun k hk => hk)))
      (case aQ => (obtain ⟨c1_, h1_⟩ := Kd.R_typed HA_l.out k hk.symm; obtain ⟨c2_, h2_⟩ := Kd.R_typed HW.out.A k e.symm; rw [h1_] at h2_; injection h2_ with h2_; injection h2_ with _ h2_ _; exact absurd h2_ (by decide)))
      intro v9 w202_ hR9 hB9 hG9 hat9
      obtain ⟨A9, c9, e9⟩ := Kd.R_slice hR9
      subst e9
      have hl9 : (m.asks ++ [(⟨m.g, l⟩ : S46)]).length = m.asks.length + 1 := by rw [List.length_append]; rfl
      rw [hl9] at hR9 ⊢
      clear hl9
      have HR9 := Aside0.mk hR9
      have HO9 := Aside0.mk (HW.out.overA (asks2 := m.asks) (vA2 := .slice none 0 0) hG9)
      have HK9 := Aside0.mk (show w202_.heap[gw]? = _ from HO9.out.1.trans HW.out.blk)
      clear hR9 hB9 hG9 hat9 hw_7 hw_0
      have hw_7 : w202_.cell? ⟨gw, 7, none⟩ = some (.slice A_A m.asks.length c_A) := (blk_cell HK9.out 7).trans rfl
      have hf_7 := blk_frozen HK9.out 7
      refine hK.out _ _ ?_
      clear hK K
      refine norm_ (a' := ?_) ?_ ?_
      rotate_left
      · show Act.put _ (some 54) _ = _
        simp only [Act.put, List.setIfInBounds_toArray, List.set_cons_zero, List.set_cons_succ, i64_w, i32_w]
        rfl
      refine pure_ (i := 14) (N := some 55) (v := ?_) (a' := ?_) #[true, true, true, true, true, true, true, true, true, true, true, true, true, true, true, false, false] rfl rfl (any_of HT_.out (by kernel_rfl)) (fun _ _ _ h => h) (Or.inl ⟨by rfl, ?_⟩) ?_ ?_
      rotate_left
      · intro w'
        go_simp
        with_reducible rfl
      rotate_left
      · simp only [Act.put, List.setIfInBounds_toArray, List.set_cons_zero, List.set_cons_succ, i64_w, i32_w]
        rfl
      refine pure_ (i := 15) (N := some 56) (v := ?_) (a' := ?_) #[true, true, true, true, true, true, true, true, true, true, true, true, true, true, true, true, false] rfl rfl (any_of HT_.out (by kernel_rfl)) (fun _ _ _ h => h) (Or.inl ⟨by rfl, ?_⟩) ?_ ?_
      rotate_left
      · intro w'
        go_simp
        with_reducible rfl
      rotate_left
      · simp only [Act.put, List.setIfInBounds_toArray, List.set_cons_zero, List.set_cons_succ, i64_w, i32_w]
        rfl
      refine last_ (i := 16) (N := none) #[true, true, true, true, true, true, true, true, true, true, true, true, true, true, true, true, true] rfl rfl (one_of HT_.out (by kernel_rfl)) (by decide) (fun K hK => ?_)
      refine skip_ (w1 := ?_) (by rfl) rfl ?_ ?_
      rotate_left
      · go_simp
        rfl
      obtain ⟨_, hB3, hS3, hF3⟩ := HO9.out
      have HFIN := Aside0.mk (show Wk base gw { m with srcs := askS m.last l m.srcs, asks := m.asks ++ [⟨m.g, l⟩] } (.slice A_S m.srcs.length c_S) (.slice A_B m.b.length c_B) (.slice A9 (m.asks.length + 1) c9) (w202_.setCell ⟨gw, 7, none⟩ (.slice A9 (m.asks.length + 1) c9)) from ⟨blk_put (cs := #[.int .u32 m.g, .bool m.ex, .int .i64 m.left, .slice A_S m.srcs.length c_S, .int .i64 m.keep, .int .i64 m.last, .slice A_B m.b.length c_B, .slice A_A m.asks.length c_A]) HK9.out 7 _ rfl, HW.out.ge, Kd.R_set hS3 HK9.out (by decide) 7 _, Kd.R_set hB3 HK9.out (by decide) 7 _, Kd.R_set HR9.out HK9.out (by decide) 7 _⟩)
      have HFF := Aside0.mk ((HF.out.trans hF3).trans (Fr.set 7 (.slice A9 (m.asks.length + 1) c9)))
      clear hB3 hS3 hF3 HK9 HR9 HO9 HW HF HA_l hw_7 hf_7
      generalize (w202_.setCell ⟨gw, 7, none⟩ (.slice A9 (m.asks.length + 1) c9)) = w203_ at HFIN HFF ⊢
      refine hK.out _ _ ?_
      clear hK K
      refine done_ (done_of HT_.out (by kernel_rfl)) ?_
      go_wp2
      go_end0
      exact ⟨rfl, ⟨_, _, by unfold askM; rw [if_neg XZ.out]; exact HFIN.out⟩, HFF.out⟩
end Go.Proofs.Ytbllchfgjginoaa
