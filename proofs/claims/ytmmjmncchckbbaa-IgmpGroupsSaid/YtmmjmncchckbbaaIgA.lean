/-
  The writer of messages: what lay does.
-/
import Derived.Test.YtmmjmncchckbbaaPIgx3
namespace Go.Proofs.Ytmmjmncchckbbaa
open Go.RowKit Go.Proofs.YtmmjmncchckbbaaW.PrintWords Go.Proofs.YtmmjmncchckbbaaW.PrintLast Go.Proofs.YtmmjmncchckbbaaW.PrintMore Go.Proofs.Ytmmjmncchckbbaa.PIg
set_option linter.unusedVariables false
set_option linter.unusedSimpArgs false
set_option maxHeartbeats 4000000 in
set_option maxRecDepth 100000 in
theorem lay_calls {base g : Nat} {v : Value} {xs ys : List Int} {A : Option Addr} {c : Nat} {w : World} (hb : w.heap[g]? = some (.cells #[v] 51 (0, 0))) (hR : Kd.R (Kd.int .u8) 5 w base (fun _ => True) v xs) (hbase : base ≤ w.heap.size) (hC : Kd.C (Kd.int .u8) w A ys.length ys) (hl : xs.length + ys.length ≤ 100000000) :
    Calls Try.prog 23 #[.pointer (some ⟨g, 0, none⟩), .slice A ys.length c] w fun e w' => e = .returned (.tuple #[]) ∧ ∃ v', w'.heap[g]? = some (.cells #[v'] 51 (0, 0)) ∧ Kd.R (Kd.int .u8) 5 w' base (fun _ => True) v' (xs ++ ys) ∧ Kept w w' (fun k => k = g ∨ some k = v.ownBlock) ∧ (v'.ownBlock = v.ownBlock ∨ ∃ b, v'.ownBlock = some b ∧ w.heap.size ≤ b) ∧ Below 0 w w' := by
  obtain ⟨Av, cv, rfl⟩ := Kd.R_slice hR
  have hc0 : w.cell? ⟨g, 0, none⟩ = some (.slice Av xs.length cv) := (blk_cell hb 0).trans rfl
  have hf0 := blk_frozen hb 0
  have HB := Aside0.mk hb
  have HR := Aside0.mk hR
  have HBS := Aside0.mk hbase
  have HC := Aside0.mk hC
  have HL := Aside0.mk hl
  clear hb hR hbase hC hl
  go_enter Try.func23, Try.ntmps23
  go_wp2_with (first | ((with_reducible refine gate_dst (N := 10) rfl ?_); refine Kd.R_append_rows (Kd.int .u8) (w0 := w) base rfl (.tmp 8) (.tmp 9) 30 5 (.int .u8 0) 1 rfl rfl Try.info5 rfl (by decide) (by decide) _ xs ys A ys.length c (fun _ => True) (fun _ => False) rfl rfl HR.out HC.out (fun _ _ h => h) (fun _ h => h.elim) (fun _ _ => trivial) (Below.refl _ _) HBS.out (by have := HL.out; omega) ?_; intro v1 w1 hR1 hB1 hg hat; have HB1 := Aside0.mk (show w1.heap[g]? = some (.cells #[.slice Av xs.length cv] 51 (0, 0)) from blk_grown HB.out hg (Kd.R_ne HR.out HB.out (by decide))); have hc1 : w1.cell? ⟨g, 0, none⟩ = some (.slice Av xs.length cv) := (blk_cell HB1.out 0).trans rfl; have hf1 := blk_frozen HB1.out 0; have HR1 := Aside0.mk hR1; have HG1 := Aside0.mk hg; have HBB := Aside0.mk hB1; have HAT := Aside0.mk hat; clear hR1 hB1 hg hat; obtain ⟨A1, c1, e1⟩ := Kd.R_slice HR1.out; subst e1))
  go_end0
  have hr1 := HR1.out
  have hat := HAT.out
  have hg1 : w.grownBy w1 (Value.slice Av xs.length cv).ownBlock := HG1.out
  rw [List.length_append] at hr1 hat
  refine ⟨rfl, _, blk_put (cs := #[.slice Av xs.length cv]) HB1.out 0 _ rfl, ?_, ⟨?_, fun i hi hn => ?_⟩, hat, ⟨HBB.out.os, HBB.out.tape, HBB.out.output, ?_, fun k hk => absurd hk (Nat.not_lt_zero _)⟩⟩
  · exact Kd.R_mono (Kd.R_far (p := ⟨g, 0, none⟩) (Kd.R_types hr1 HB1.out (by decide)) (fun _ hk => hk.2) _) (fun _ _ => trivial)
  · simpa [World.setCell] using hg1.size
  · have h1 : i ≠ g := fun e => hn (.inl e)
    have h2 : some i ≠ (Value.slice Av xs.length cv).ownBlock := fun e => hn (.inr e)
    exact (Below.heap_setCell w1 ⟨g, 0, none⟩ _ i h1).trans (hg1.block i hi h2)
  · simpa [World.setCell] using hg1.size

/-- What a call on the writer at block g may have turned: its box, its row. -/
structure WM (w w' : World) (g : Nat) (v v' : Value) : Prop where
  kept : Kept w w' (fun k => k = g ∨ some k = v.ownBlock)
  at_ : v'.ownBlock = v.ownBlock ∨ ∃ b, v'.ownBlock = some b ∧ w.heap.size ≤ b
  out : Below 0 w w'
/-- The writer at block g holds xs. -/
structure Wr (w : World) (base g : Nat) (xs : List Int) (v : Value) : Prop where
  box : w.heap[g]? = some (.cells #[v] 51 (0, 0))
  row : Kd.R (Kd.int .u8) 5 w base (fun _ => True) v xs
theorem WM.size {w w' : World} {g : Nat} {v v' : Value} (h : WM w w' g v v') : w.heap.size ≤ w'.heap.size := h.kept.1
theorem WM.block {w w' : World} {g : Nat} {v v' : Value} (h : WM w w' g v v') {b : Nat} (hb : b < w.heap.size) (h1 : b ≠ g) (h2 : some b ≠ v.ownBlock) : w'.heap[b]? = w.heap[b]? := h.kept.2 b hb (fun h => h.elim h1 h2)
theorem WM.of_below {w w' : World} {g : Nat} {v : Value} (h : Below w.heap.size w w') : WM w w' g v v := ⟨Kept.of_below h _, .inl rfl, h.mono (Nat.zero_le _)⟩
theorem WM.trans {w w1 w2 : World} {g : Nat} {v v1 v2 : Value} (h : WM w w1 g v v1) (k : WM w1 w2 g v1 v2) : WM w w2 g v v2 := by
  refine ⟨⟨Nat.le_trans h.size k.size, fun i hi hn => ?_⟩, ?_, h.out.trans k.out⟩
  · have h1 : i ≠ g := fun e => hn (.inl e)
    have h2 : some i ≠ v.ownBlock := fun e => hn (.inr e)
    refine (k.block (Nat.lt_of_lt_of_le hi h.size) h1 (fun e => ?_)).trans (h.block hi h1 h2)
    rcases h.at_ with h3 | ⟨b, h3, h4⟩
    · exact h2 (e.trans h3)
    · rw [h3] at e; injection e with e; omega
  · rcases k.at_ with h3 | ⟨b, h3, h4⟩
    · rcases h.at_ with h5 | ⟨b, h5, h6⟩
      · exact .inl (h3.trans h5)
      · exact .inr ⟨b, h3.trans h5, h6⟩
    · exact .inr ⟨b, h3, Nat.le_trans h.size h4⟩
theorem Wr.below {w w' : World} {base g : Nat} {xs : List Int} {v : Value} (h : Wr w base g xs v) (hb : Below w.heap.size w w') : Wr w' base g xs v := ⟨blk_below h.box hb, Kd.R_below h.row hb⟩
theorem WM.V {α : Type} {d : Kd α} {e b : Nat} {u : Value} {xs : List α} {w w' : World} {g : Nat} {v v' : Value} (h : WM w w' g v v') (hV : Kd.V d e w b (fun k => k ≠ g ∧ some k ≠ v.ownBlock) u xs) : Kd.V d e w' b (fun k => k ≠ g ∧ some k ≠ v'.ownBlock) u xs :=
  Kd.V_mono (Kd.V_step (Kd.V_bound hV) (fun k hk hlt => h.block hlt hk.1.1 hk.1.2)) (fun k hk => ⟨hk.1.1, fun e => by
    rcases h.at_ with h3 | ⟨b, h3, h4⟩
    · exact hk.1.2 (e.trans h3)
    · rw [h3] at e; injection e with e; have := hk.2; omega⟩)
theorem lay_w {base g : Nat} {v : Value} {xs ys : List Int} {A : Option Addr} {c : Nat} {w : World} (h : Wr w base g xs v) (hbase : base ≤ w.heap.size) (hC : Kd.C (Kd.int .u8) w A ys.length ys) (hl : xs.length + ys.length ≤ 100000000) :
    Calls Try.prog 23 #[.pointer (some ⟨g, 0, none⟩), .slice A ys.length c] w fun e w' => e = .returned (.tuple #[]) ∧ ∃ v', Wr w' base g (xs ++ ys) v' ∧ WM w w' g v v' :=
  (lay_calls h.box h.row hbase hC hl).mono fun _ _ ⟨h1, v', h2, h3, h4, h5, h6⟩ => ⟨h1, v', ⟨h2, h3⟩, ⟨h4, h5, h6⟩⟩
/-- An address's bytes. -/
def ab (a : Int) : List Int := [a / 16777216 % 256, a / 65536 % 256, a / 256 % 256, a % 256]
theorem w64' {i : Int} (h0 : -9223372036854775808 ≤ i) (h1 : i ≤ 9223372036854775807) : wrap64 i = i := by unfold wrap64; omega
theorem part_some {a : Int} (i : Int) (h0 : 0 ≤ i) (h1 : i < 4) : addr_part.f a i = some ((a / 2 ^ (24 - 8 * i).toNat) % 256) := by
  unfold addr_part.f
  rw [w64' (i := 8 * i) (by omega) (by omega), w64' (i := 24 - 8 * i) (by omega) (by omega), if_pos (by omega)]
  unfold shr
  rw [show min (24 - 8 * i).toNat IntKind.u32.bits = (24 - 8 * i).toNat from Nat.min_eq_left (by simp [IntKind.bits]; omega)]
theorem addr_bytes_some {a : Int} (k : Nat) : addr_Bytes.f (k + 5) a = some (ab a) := by
  unfold addr_Bytes.f
  rw [if_pos (by omega), Option.bind_some]
  simp only [addr_Bytes.l0, List.length_replicate, List.length_set]
  rw [part_some 0 (by omega) (by omega)]
  have e1 : wrap64 ((0 : Int) + 1) = 1 := (w64' (by omega) (by omega)).trans (by omega)
  have e2 : wrap64 ((1 : Int) + 1) = 2 := (w64' (by omega) (by omega)).trans (by omega)
  have e3 : wrap64 ((2 : Int) + 1) = 3 := (w64' (by omega) (by omega)).trans (by omega)
  have e4 : wrap64 ((3 : Int) + 1) = 4 := (w64' (by omega) (by omega)).trans (by omega)
  simp only [e1, e2, e3, e4]
  rw [part_some 1 (by omega) (by omega), part_some 2 (by omega) (by omega), part_some 3 (by omega) (by omega)]
  simp [ab]
theorem abytes_calls (a : Int) (w : World) : Calls Try.prog 25 #[.int .u32 a] w fun e w' => ∃ v, e = .returned v ∧ Kd.R (Kd.int .u8) 5 w' w.heap.size (fun _ => True) v (ab a) ∧ Below w.heap.size w w' :=
  (addr_Bytes.calls 5 a (ab a) w (addr_bytes_some 0)).mono fun _ _ ⟨v, h1, h2, h3⟩ => ⟨v, h1, Kd.R_mono h2 (fun _ _ => trivial), h3⟩
/-- How many, what stands between, and they. -/
def wrow (G L : List Int) : List Int := [(L.length : Int) / 256 % 256, (L.length : Int) % 256] ++ G ++ L.flatMap ab
theorem flat_len (L : List Int) : (L.flatMap ab).length = 4 * L.length := by
  induction L with
  | nil => rfl
  | cons a L ih => rw [List.flatMap_cons, List.length_append, ih, List.length_cons]; simp only [ab, List.length_cons, List.length_nil]; omega
set_option maxHeartbeats 4000000 in
set_option maxRecDepth 100000 in
theorem addrs_w {base g : Nat} {v : Value} {xs G L : List Int} {A_G A_L : Option Addr} {c_G c_L : Nat} {w : World} (h : Wr w base g xs v) (hbase : base ≤ w.heap.size) (hG : Kd.V (Kd.int .u8) 5 w 0 (fun k => k ≠ g ∧ some k ≠ v.ownBlock) (.slice A_G G.length c_G) G) (hL : Kd.V (Kd.int .u32) 23 w 0 (fun k => k ≠ g ∧ some k ≠ v.ownBlock) (.slice A_L L.length c_L) L) (hl : xs.length + G.length + 4 * L.length ≤ 10000000) (hw : ∀ a ∈ L, 0 ≤ a ∧ a < 4294967296) :
    Calls Try.prog 24 #[.pointer (some ⟨g, 0, none⟩), .slice A_G G.length c_G, .slice A_L L.length c_L] w fun e w' => e = .returned (.tuple #[]) ∧ ∃ v', Wr w' base g (xs ++ wrow G L) v' ∧ WM w w' g v v' := by
  obtain ⟨y, hy⟩ : ∃ y_, y_ = [(L.length : Int) / 256 % 256, (L.length : Int) % 256] := ⟨_, rfl⟩
  have HY := Aside0.mk hy
  have Y2 : Aside0 (y.length = 2) := ⟨by rw [hy]; rfl⟩
  have HW := Aside0.mk h
  have HBS := Aside0.mk hbase
  have HG := Aside0.mk hG
  have HL := Aside0.mk hL
  have HLN := Aside0.mk hl
  have HRG := Aside0.mk hw
  clear hy h hbase hG hL hl hw
  go_enter Try.func24, Try.ntmps24
  go_wp2_with (first | ((with_reducible refine gate_dst (N := 16) rfl ?_); refine Kd.R_lit (Kd.int .u8) _ 5 ?hg (N := 16) ?hd (xs := [(L.length : Int) / 256 % 256, (L.length : Int) % 256]) (inner := [.int .u8 ((L.length : Int) / 256 % 256), .int .u8 ((L.length : Int) % 256)]) (ok := fun _ => True) (okp := fun _ => True) ?hr ?hp (fun _ hk => hk) trivial (Below.refl _ _) (Nat.le_refl _) (by simp) ?_; (case hd => rfl); (case hg => rfl); (case hr => first | (go_simp; done) | (go_simp; rfl)); (case hp => exact Reps.one (show Kd.M (Kd.int .u8) _ _ _ _ _ from rfl) (Reps.one (show Kd.M (Kd.int .u8) _ _ _ _ _ from rfl) (Reps.none _ _))); intro v16 w1 hR hb hg_ hn_; clear hg_ hn_; rw [← HY.out] at hR; have HW1 := Aside0.mk (HW.out.below hb); have HM1 := Aside0.mk (WM.of_below (g := g) (v := v) hb); obtain ⟨A_y, c_y, rfl⟩ := Kd.R_slice hR; have HC_y := Aside0.mk (Kd.R_reads' hR).2.2; clear hR hb) | (go_at_call 23; with_reducible refine (lay_w HW1.out (Nat.le_trans HBS.out HM1.out.size) HC_y.out (by have := HLN.out; have := Y2.out; omega)).mono ?_; rintro e w2 ⟨rfl, v2, hW, hM⟩; have HW2 := Aside0.mk hW; have HM2 := Aside0.mk (HM1.out.trans hM); clear hW hM) | (go_at_call 23; with_reducible refine (lay_w HW2.out (Nat.le_trans HBS.out HM2.out.size) (Kd.V_reads' (HM2.out.V HG.out)).2.2 (by have := HLN.out; have := Y2.out; rw [List.length_append]; omega)).mono ?_; rintro e w3 ⟨rfl, v3, hW, hM⟩; have HW3 := Aside0.mk hW; have HM3 := Aside0.mk (HM2.out.trans hM); clear hW hM))
  go_loopg [23] L.length (fun gk v23 w' => ∃ (i : Nat) (v' : Value), v23 = .int .i64 i ∧ Aside0 (i ≤ L.length ∧ gk = L.length - i) ∧ Aside0 (Wr w' base g (xs ++ y ++ G ++ (L.take i).flatMap ab) v') ∧ Aside0 (WM w w' g v v'))
  case atStart => exact ⟨0, v3, rfl, ⟨Nat.zero_le _, by omega⟩, ⟨by simpa using HW3.out⟩, HM3⟩
  case round =>
    obtain ⟨i, v4, rfl, HI, HW4, HM4⟩ := hrel
    clear HW3 HM3 HW2 HM2 HW1 HM1
    obtain ⟨hi, hgk⟩ := HI.out
    by_cases hlt : i < L.length
    · have c5b0 : decide ((i : Int) < (L.length : Int)) = true := decide_eq_true (by omega)
      have p1 : (0 : Int) ≤ (i : Int) := by omega
      have p2 : (i : Int) < (L.length : Int) := by omega
      have hCL := (Kd.V_reads' (HM4.out.V HL.out)).2.2
      obtain ⟨ad, he, hx⟩ := Kd.at_int hCL (i : Int) p1 p2
      cases he
      obtain ⟨a0, ha⟩ : ∃ a_, a_ = rd L (i : Int) := ⟨_, rfl⟩
      rw [← ha, Int.toNat_natCast] at hx
      have HA0 := Aside0.mk (show rd L (i : Int) = L[i] from by rw [rd, Int.toNat_natCast, List.getD_eq_getElem?_getD, List.getElem?_eq_getElem hlt]; rfl)
      have HA := Aside0.mk ha
      have hfl : xs.length + y.length + G.length + ((L.take i).flatMap ab).length ≤ 10000000 := by
        have h1 : ((L.take i).flatMap ab).length = 4 * i := by
          rw [flat_len, List.length_take, Nat.min_eq_left hi]
        have := HLN.out; have := Y2.out; omega
      have HFL := Aside0.mk hfl
      clear ha hCL hfl
      replace p1 := eq_true p1
      replace p2 := eq_true p2
      go_wp2_with (first | (go_at_call 25; with_reducible refine (abytes_calls a0 _).mono ?_; rintro e w5 ⟨v_b, rfl, hR, hb⟩; have HW5 := Aside0.mk (HW4.out.below hb); have HM5 := Aside0.mk (HM4.out.trans (WM.of_below hb)); obtain ⟨A_b, c_b, rfl⟩ := Kd.R_slice hR; have HC_b := Aside0.mk (Kd.R_reads' hR).2.2; clear hR hb) | (go_at_call 23; with_reducible refine (lay_w HW5.out (Nat.le_trans HBS.out HM5.out.size) HC_b.out (by have := HFL.out; simp only [List.length_append]; simp only [ab, List.length_cons, List.length_nil]; omega)).mono ?_; rintro e w6 ⟨rfl, v6, hW, hM⟩; have HW6 := Aside0.mk hW; have HM6 := Aside0.mk (HM5.out.trans hM); clear hW hM))
      go_roundg (L.length - (i + 1))
      case measure => omega
      case rel =>
        refine ⟨i + 1, v6, ?_, ⟨by omega, rfl⟩, ⟨?_⟩, HM6⟩
        · show Value.int .i64 (wrap64 ((i : Int) + 1)) = _
          have hl := HLN.out
          rw [show wrap64 ((i : Int) + 1) = ((i + 1 : Nat) : Int) from by unfold wrap64; omega]
        · have h6 := HW6.out
          have h7 : (L.take (i + 1)).flatMap ab = (L.take i).flatMap ab ++ ab a0 := by
            rw [← List.take_append_getElem hlt, List.flatMap_append, HA.out, HA0.out]; simp
          rw [h7, ← List.append_assoc]
          exact h6
    · have c5b0 : decide ((i : Int) < (L.length : Int)) = false := decide_eq_false (by omega)
      go_wp2
      go_end0
      refine ⟨rfl, v4, ?_, HM4.out⟩
      have h4 := HW4.out
      obtain rfl : i = L.length := by omega
      rw [List.take_length, HY.out] at h4
      simpa [wrow] using h4
end Go.Proofs.Ytmmjmncchckbbaa
