/-
  The reader of messages: what take does.
-/
import Derived.Test.YtmmjmncchckbbaaPIgx3
namespace Go.Proofs.Ytmmjmncchckbbaa
open Go.RowKit Go.Proofs.YtmmjmncchckbbaaW.PrintWords Go.Proofs.YtmmjmncchckbbaaW.PrintLast Go.Proofs.YtmmjmncchckbbaaW.PrintMore Go.Proofs.Ytmmjmncchckbbaa.PIg
set_option linter.unusedVariables false
set_option linter.unusedSimpArgs false
/-- What a call on the reader at block g may have turned: its box. -/
structure RM (w w' : World) (g : Nat) : Prop where
  keep : KeepBut w w' g none
  out : Below 0 w w'
theorem RM.of_below {w w' : World} {g : Nat} (h : Below w.heap.size w w') : RM w w' g := ⟨KeepBut.of_below h g none, h.mono (Nat.zero_le _)⟩
theorem RM.trans {w w1 w2 : World} {g : Nat} (h : RM w w1 g) (k : RM w1 w2 g) : RM w w2 g := ⟨h.keep.trans k.keep (.inl rfl), h.out.trans k.out⟩
theorem RM.set {w w1 : World} {g : Nat} (h : RM w w1 g) (j : Nat) (u : Value) : RM w (w1.setCell ⟨g, j, none⟩ u) g :=
  ⟨h.keep.set_ j u, ⟨h.out.os, h.out.tape, h.out.output, by simpa [World.setCell] using h.keep.1, fun q hq => absurd hq (Nat.not_lt_zero _)⟩⟩
theorem RM.block {w w' : World} {g b : Nat} (h : RM w w' g) (hb : b < w.heap.size) (h1 : b ≠ g) : w'.heap[b]? = w.heap[b]? := h.keep.2 b hb h1 (by simp)
theorem RM.V {α : Type} {d : Kd α} {e b : Nat} {u : Value} {xs : List α} {w w' : World} {g : Nat} (h : RM w w' g) (hV : Kd.V d e w b (fun k => k ≠ g) u xs) : Kd.V d e w' b (fun k => k ≠ g) u xs := Kd.V_keep hV h.keep (fun _ hk => hk)
theorem RM.below {w0 w w' : World} {g : Nat} (h : RM w w' g) (hB : Below w0.heap.size w0 w) (hg : w0.heap.size ≤ g) : Below w0.heap.size w0 w' :=
  ⟨h.out.os.trans hB.os, h.out.tape.trans hB.tape, h.out.output.trans hB.output, Nat.le_trans hB.size h.keep.1, fun q hq => (h.block (Nat.lt_of_lt_of_le hq hB.size) (by omega)).trans (hB.block q hq)⟩
/-- What take takes, what stays, whether it was too short. -/
def tkx (m : Nat) (bs : List Int) (sh : Bool) : List Int := if sh = true ∨ bs.length < m then List.replicate m 0 else bs.take m
def tkb (m : Nat) (bs : List Int) (sh : Bool) : List Int := if sh = true ∨ bs.length < m then bs else bs.drop m
def tks (m : Nat) (bs : List Int) (sh : Bool) : Bool := sh || decide (bs.length < m)
theorem tkx_len (m : Nat) (bs : List Int) (sh : Bool) : (tkx m bs sh).length = m := by
  unfold tkx
  split
  · simp
  · rename_i h
    have h2 : ¬ bs.length < m := fun h' => h (.inr h')
    rw [List.length_take]; omega
set_option maxHeartbeats 8000000 in
set_option maxRecDepth 100000 in
theorem take_short {w0 w : World} {g : Nat} {A : Option Addr} {c : Nat} {bs : List Int} {k ver code grp rob every : Int} {quiet : Bool} {vS vR : Value} {sh : Bool} (hB : Below w0.heap.size w0 w) (hg : w0.heap.size ≤ g) (h : w.heap[g]? = some (.cells #[.slice A bs.length c, .int .u8 k, .int .i64 ver, .int .u8 code, .int .u32 grp, .bool quiet, .int .u8 rob, .int .u8 every, vS, vR, .bool sh] 66 (0, 0))) (hC : Kd.C (Kd.int .u8) w0 A bs.length bs) (hc : bs.length ≤ c) (m : Nat) (hm : m ≤ 1000) (hs : sh = true ∨ bs.length < m) :
    Calls Try.prog 55 #[.pointer (some ⟨g, 0, none⟩), .int .i64 m] w fun e w' => ∃ A1 c1 A2 c2, e = .returned (.slice A1 (tkx m bs sh).length c1) ∧ Kd.V (Kd.int .u8) 5 w' 0 (fun k => k ≠ g) (.slice A1 (tkx m bs sh).length c1) (tkx m bs sh) ∧ w'.heap[g]? = some (.cells #[.slice A2 (tkb m bs sh).length c2, .int .u8 k, .int .i64 ver, .int .u8 code, .int .u32 grp, .bool quiet, .int .u8 rob, .int .u8 every, vS, vR, .bool (tks m bs sh)] 66 (0, 0)) ∧ Kd.C (Kd.int .u8) w0 A2 (tkb m bs sh).length (tkb m bs sh) ∧ (tkb m bs sh).length ≤ c2 ∧ RM w w' g := by
  rw [show tkx m bs sh = List.replicate m 0 from if_pos hs, show tkb m bs sh = bs from if_pos hs, show tks m bs sh = true from by unfold tks; rcases hs with rfl | h'; { rfl }; { rw [decide_eq_true h']; simp }]
  obtain ⟨z, hz⟩ : ∃ z_, z_ = List.replicate m (0 : Int) := ⟨_, rfl⟩
  rw [← hz]
  have HZ := Aside0.mk hz
  clear hz
  have HM := Aside0.mk hm
  cases sh
  case true =>
    have HB := Aside0.mk hB
    have HG := Aside0.mk hg
    have BK := Aside0.mk h
    have HC := Aside0.mk hC
    have HK := Aside0.mk hc
    clear hB hg h hC hc
    have hc_0 : w.cell? ⟨g, 0, none⟩ = some (.slice A bs.length c) := (blk_cell BK.out 0).trans rfl
    have hf_0 := blk_frozen BK.out 0
    have hc_10 : w.cell? ⟨g, 10, none⟩ = some (.bool true) := (blk_cell BK.out 10).trans rfl
    have hf_10 := blk_frozen BK.out 10
    clear hs
    go_enter Try.func55, Try.ntmps55
    go_upto_region 3 with fail
    have hBK : (w.setCell ⟨g, 10, none⟩ (.bool true)).heap[g]? = some (.cells #[.slice A bs.length c, .int .u8 k, .int .i64 ver, .int .u8 code, .int .u32 grp, .bool quiet, .int .u8 rob, .int .u8 every, vS, vR, .bool true] 66 (0, 0)) := blk_put (cs := #[.slice A bs.length c, .int .u8 k, .int .i64 ver, .int .u8 code, .int .u32 grp, .bool quiet, .int .u8 rob, .int .u8 every, vS, vR, .bool true]) BK.out 10 (.bool true) rfl
    have hR := (RM.of_below (g := g) (Below.refl w.heap.size w)).set 10 (.bool true)
    clear hc_0 hf_0 hc_10 hf_10 BK
    generalize w.setCell ⟨g, 10, none⟩ (.bool true) = ws at hBK hR ⊢
    have BK := Aside0.mk hBK
    have HR := Aside0.mk hR
    clear hBK hR
    go_wp2_with (first | ((with_reducible refine gate_dst (N := 23) rfl ?_); refine Kd.R_make (Kd.int .u8) (w0 := ws) ws.heap.size 5 rfl rfl 30 (.tmp 22) (.tmp 22) rfl (m : Int) rfl rfl Try.underlying30 (.int .u8 0) 1 Try.info5 rfl (by decide) (by decide) 0 (ok := fun _ => True) (okp := fun _ => True) rfl (fun _ h => h) trivial (by omega) (by have := HM.out; omega) (Below.refl _ _) (Nat.le_refl _) ?_; intro v1 w1 hV hb hg_ hn_; clear hg_ hn_; rw [Int.toNat_natCast, ← HZ.out] at hV; obtain ⟨A1, c1, rfl⟩ := Kd.R_slice hV; have HV := Aside0.mk hV; have Hb := Aside0.mk hb; clear hV hb))
    go_ret
    have hlt1 := blk_lt BK.out
    exact ⟨A1, c1, A, c, rfl, Kd.V_mono (Kd.R_V (Kd.R_bound HV.out)) (fun q hq e => by have := hq.2.1; omega), blk_below BK.out Hb.out, HC.out, HK.out, HR.out.trans (RM.of_below Hb.out)⟩
  case false =>
    have HB := Aside0.mk hB
    have HG := Aside0.mk hg
    have BK := Aside0.mk h
    have HC := Aside0.mk hC
    have HK := Aside0.mk hc
    clear hB hg h hC hc
    have hc_0 : w.cell? ⟨g, 0, none⟩ = some (.slice A bs.length c) := (blk_cell BK.out 0).trans rfl
    have hf_0 := blk_frozen BK.out 0
    have hc_10 : w.cell? ⟨g, 10, none⟩ = some (.bool false) := (blk_cell BK.out 10).trans rfl
    have hf_10 := blk_frozen BK.out 10
    have hlt : decide ((bs.length : Int) < (m : Int)) = true := decide_eq_true (by simp at hs; omega)
    have hltn : bs.length < m := by simp at hs; exact hs
    clear hs
    go_enter Try.func55, Try.ntmps55
    go_upto_region 3 with fail
    have hBK : (w.setCell ⟨g, 10, none⟩ (.bool true)).heap[g]? = some (.cells #[.slice A bs.length c, .int .u8 k, .int .i64 ver, .int .u8 code, .int .u32 grp, .bool quiet, .int .u8 rob, .int .u8 every, vS, vR, .bool true] 66 (0, 0)) := blk_put (cs := #[.slice A bs.length c, .int .u8 k, .int .i64 ver, .int .u8 code, .int .u32 grp, .bool quiet, .int .u8 rob, .int .u8 every, vS, vR, .bool false]) BK.out 10 (.bool true) rfl
    have hR := (RM.of_below (g := g) (Below.refl w.heap.size w)).set 10 (.bool true)
    clear hc_0 hf_0 hc_10 hf_10 BK
    generalize w.setCell ⟨g, 10, none⟩ (.bool true) = ws at hBK hR ⊢
    have BK := Aside0.mk hBK
    have HR := Aside0.mk hR
    clear hBK hR
    go_wp2_with (first | ((with_reducible refine gate_dst (N := 23) rfl ?_); refine Kd.R_make (Kd.int .u8) (w0 := ws) ws.heap.size 5 rfl rfl 30 (.tmp 22) (.tmp 22) rfl (m : Int) rfl rfl Try.underlying30 (.int .u8 0) 1 Try.info5 rfl (by decide) (by decide) 0 (ok := fun _ => True) (okp := fun _ => True) rfl (fun _ h => h) trivial (by omega) (by have := HM.out; omega) (Below.refl _ _) (Nat.le_refl _) ?_; intro v1 w1 hV hb hg_ hn_; clear hg_ hn_; rw [Int.toNat_natCast, ← HZ.out] at hV; obtain ⟨A1, c1, rfl⟩ := Kd.R_slice hV; have HV := Aside0.mk hV; have Hb := Aside0.mk hb; clear hV hb))
    go_ret
    have hlt1 := blk_lt BK.out
    exact ⟨A1, c1, A, c, rfl, Kd.V_mono (Kd.R_V (Kd.R_bound HV.out)) (fun q hq e => by have := hq.2.1; omega), blk_below BK.out Hb.out, HC.out, HK.out, HR.out.trans (RM.of_below Hb.out)⟩
set_option maxHeartbeats 8000000 in
set_option maxRecDepth 100000 in
theorem take_ok {w0 w : World} {g : Nat} {A : Option Addr} {c : Nat} {bs : List Int} {k ver code grp rob every : Int} {quiet : Bool} {vS vR : Value} {sh : Bool} (hB : Below w0.heap.size w0 w) (hg : w0.heap.size ≤ g) (h : w.heap[g]? = some (.cells #[.slice A bs.length c, .int .u8 k, .int .i64 ver, .int .u8 code, .int .u32 grp, .bool quiet, .int .u8 rob, .int .u8 every, vS, vR, .bool sh] 66 (0, 0))) (hC : Kd.C (Kd.int .u8) w0 A bs.length bs) (hc : bs.length ≤ c) (m : Nat) (hm : m ≤ 1000) (hs : ¬ (sh = true ∨ bs.length < m)) :
    Calls Try.prog 55 #[.pointer (some ⟨g, 0, none⟩), .int .i64 m] w fun e w' => ∃ A1 c1 A2 c2, e = .returned (.slice A1 (tkx m bs sh).length c1) ∧ Kd.V (Kd.int .u8) 5 w' 0 (fun k => k ≠ g) (.slice A1 (tkx m bs sh).length c1) (tkx m bs sh) ∧ w'.heap[g]? = some (.cells #[.slice A2 (tkb m bs sh).length c2, .int .u8 k, .int .i64 ver, .int .u8 code, .int .u32 grp, .bool quiet, .int .u8 rob, .int .u8 every, vS, vR, .bool (tks m bs sh)] 66 (0, 0)) ∧ Kd.C (Kd.int .u8) w0 A2 (tkb m bs sh).length (tkb m bs sh) ∧ (tkb m bs sh).length ≤ c2 ∧ RM w w' g := by
  obtain rfl : sh = false := by cases sh <;> simp_all
  have hml : m ≤ bs.length := by simp at hs; exact hs
  rw [show tkx m bs false = bs.take m from if_neg hs, show tkb m bs false = bs.drop m from if_neg hs, show tks m bs false = false from by unfold tks; rw [decide_eq_false (by omega)]; rfl]
  clear hs
  have HB := Aside0.mk hB
  have HG := Aside0.mk hg
  have BK := Aside0.mk h
  have HC := Aside0.mk hC
  have HK := Aside0.mk hc
  clear hB hg h hC hc
  have hc_0 : w.cell? ⟨g, 0, none⟩ = some (.slice A bs.length c) := (blk_cell BK.out 0).trans rfl
  have hf_0 := blk_frozen BK.out 0
  have hc_10 : w.cell? ⟨g, 10, none⟩ = some (.bool false) := (blk_cell BK.out 10).trans rfl
  have hf_10 := blk_frozen BK.out 10
  have hlt : decide ((bs.length : Int) < (m : Int)) = false := decide_eq_false (by omega)
  have hltn : ¬ bs.length < m := by omega
  obtain ⟨i_, hi_, _, hz_, _⟩ := info_parts Try.info5
  obtain ⟨hcutx, hAx, hKx⟩ := print_take_of (P := Try.prog) (Value.int .u8) 0 30 5 .i64 Try.underlying30 hi_ hz_ A c bs (m : Int) (by omega) (by omega) HK.out
  obtain ⟨A2, hcutb, hAb, hKb⟩ := print_drop_of (P := Try.prog) (Value.int .u8) 0 30 5 .i64 Try.underlying30 hi_ hz_ A c bs (m : Int) (by omega) (by omega) HK.out
  rw [Int.toNat_natCast] at hAx hKx hAb hKb
  simp only [Int.toNat_natCast] at hcutx hcutb
  obtain ⟨x, hx⟩ : ∃ x_, x_ = bs.take m := ⟨_, rfl⟩
  obtain ⟨y, hy⟩ : ∃ y_, y_ = bs.drop m := ⟨_, rfl⟩
  rw [← hx] at hAx hKx hcutx ⊢
  rw [← hy] at hAb hKb hcutb ⊢
  have HX0 := Aside0.mk (show Kd.C (Kd.int .u8) w0 A x.length x from Kd.C_of_reads (h1 := fun _ => rfl) (hAx w0 (Kd.reads_of_C HC.out)))
  have HY := Aside0.mk (show Kd.C (Kd.int .u8) w0 A2 y.length y from Kd.C_of_reads (h1 := fun _ => rfl) (hAb w0 (Kd.reads_of_C HC.out)))
  have HKX := Aside0.mk hKx
  have HKY := Aside0.mk hKb
  clear hAx hAb hKx hKb hi_ hz_ hx hy
  go_enter Try.func55, Try.ntmps55
  go_wp2
  go_ret
  refine ⟨A, c, A2, c - m, rfl, ?_, blk_put (cs := #[.slice A bs.length c, .int .u8 k, .int .i64 ver, .int .u8 code, .int .u32 grp, .bool quiet, .int .u8 rob, .int .u8 every, vS, vR, .bool false]) BK.out 0 (.slice A2 y.length (c - m)) rfl, HY.out, HKY.out, (RM.of_below (g := g) (Below.refl w.heap.size w)).set 0 _⟩
  exact ((RM.of_below (g := g) (Below.refl w.heap.size w)).set 0 _).V (Kd.V_mono (Kd.V_mk (e := 5) (base := 0) HKX.out (Kd.F_below (Kd.C_F (Kd.heap_int .u8) HX0.out) HB.out)) (fun q hq e => by have := HG.out; omega))
theorem take_w {w0 w : World} {g : Nat} {A : Option Addr} {c : Nat} {bs : List Int} {k ver code grp rob every : Int} {quiet : Bool} {vS vR : Value} {sh : Bool} (hB : Below w0.heap.size w0 w) (hg : w0.heap.size ≤ g) (h : w.heap[g]? = some (.cells #[.slice A bs.length c, .int .u8 k, .int .i64 ver, .int .u8 code, .int .u32 grp, .bool quiet, .int .u8 rob, .int .u8 every, vS, vR, .bool sh] 66 (0, 0))) (hC : Kd.C (Kd.int .u8) w0 A bs.length bs) (hc : bs.length ≤ c) (m : Nat) (hm : m ≤ 1000) :
    Calls Try.prog 55 #[.pointer (some ⟨g, 0, none⟩), .int .i64 m] w fun e w' => ∃ A1 c1 A2 c2, e = .returned (.slice A1 (tkx m bs sh).length c1) ∧ Kd.V (Kd.int .u8) 5 w' 0 (fun k => k ≠ g) (.slice A1 (tkx m bs sh).length c1) (tkx m bs sh) ∧ w'.heap[g]? = some (.cells #[.slice A2 (tkb m bs sh).length c2, .int .u8 k, .int .i64 ver, .int .u8 code, .int .u32 grp, .bool quiet, .int .u8 rob, .int .u8 every, vS, vR, .bool (tks m bs sh)] 66 (0, 0)) ∧ Kd.C (Kd.int .u8) w0 A2 (tkb m bs sh).length (tkb m bs sh) ∧ (tkb m bs sh).length ≤ c2 ∧ RM w w' g := by
  by_cases hs : sh = true ∨ bs.length < m
  · exact take_short hB hg h hC hc m hm hs
  · exact take_ok hB hg h hC hc m hm hs
theorem take_2 {w0 w : World} {g : Nat} {A : Option Addr} {c : Nat} {bs : List Int} {k ver code grp rob every : Int} {quiet : Bool} {vS vR : Value} {sh : Bool} (hB : Below w0.heap.size w0 w) (hg : w0.heap.size ≤ g) (h : w.heap[g]? = some (.cells #[.slice A bs.length c, .int .u8 k, .int .i64 ver, .int .u8 code, .int .u32 grp, .bool quiet, .int .u8 rob, .int .u8 every, vS, vR, .bool sh] 66 (0, 0))) (hC : Kd.C (Kd.int .u8) w0 A bs.length bs) (hc : bs.length ≤ c) :
    Calls Try.prog 55 #[.pointer (some ⟨g, 0, none⟩), .int .i64 2] w fun e w' => ∃ A1 c1 A2 c2, e = .returned (.slice A1 (tkx 2 bs sh).length c1) ∧ Kd.V (Kd.int .u8) 5 w' 0 (fun k => k ≠ g) (.slice A1 (tkx 2 bs sh).length c1) (tkx 2 bs sh) ∧ w'.heap[g]? = some (.cells #[.slice A2 (tkb 2 bs sh).length c2, .int .u8 k, .int .i64 ver, .int .u8 code, .int .u32 grp, .bool quiet, .int .u8 rob, .int .u8 every, vS, vR, .bool (tks 2 bs sh)] 66 (0, 0)) ∧ Kd.C (Kd.int .u8) w0 A2 (tkb 2 bs sh).length (tkb 2 bs sh) ∧ (tkb 2 bs sh).length ≤ c2 ∧ RM w w' g := take_w hB hg h hC hc 2 (by decide)
theorem take_4 {w0 w : World} {g : Nat} {A : Option Addr} {c : Nat} {bs : List Int} {k ver code grp rob every : Int} {quiet : Bool} {vS vR : Value} {sh : Bool} (hB : Below w0.heap.size w0 w) (hg : w0.heap.size ≤ g) (h : w.heap[g]? = some (.cells #[.slice A bs.length c, .int .u8 k, .int .i64 ver, .int .u8 code, .int .u32 grp, .bool quiet, .int .u8 rob, .int .u8 every, vS, vR, .bool sh] 66 (0, 0))) (hC : Kd.C (Kd.int .u8) w0 A bs.length bs) (hc : bs.length ≤ c) :
    Calls Try.prog 55 #[.pointer (some ⟨g, 0, none⟩), .int .i64 4] w fun e w' => ∃ A1 c1 A2 c2, e = .returned (.slice A1 (tkx 4 bs sh).length c1) ∧ Kd.V (Kd.int .u8) 5 w' 0 (fun k => k ≠ g) (.slice A1 (tkx 4 bs sh).length c1) (tkx 4 bs sh) ∧ w'.heap[g]? = some (.cells #[.slice A2 (tkb 4 bs sh).length c2, .int .u8 k, .int .i64 ver, .int .u8 code, .int .u32 grp, .bool quiet, .int .u8 rob, .int .u8 every, vS, vR, .bool (tks 4 bs sh)] 66 (0, 0)) ∧ Kd.C (Kd.int .u8) w0 A2 (tkb 4 bs sh).length (tkb 4 bs sh) ∧ (tkb 4 bs sh).length ≤ c2 ∧ RM w w' g := take_w hB hg h hC hc 4 (by decide)
/-- A row of bytes. -/
def Byt (l : List Int) : Prop := ∀ z ∈ l, 0 ≤ z ∧ z < 256
theorem Byt.rd {a : List Int} (ha : Byt a) (i : Int) : 0 ≤ rd a i ∧ rd a i < 256 := by
  show 0 ≤ a.getD i.toNat 0 ∧ a.getD i.toNat 0 < 256
  rw [List.getD_eq_getElem?_getD]
  rcases Nat.lt_or_ge i.toNat a.length with h | h
  · rw [List.getElem?_eq_getElem h]; exact ha _ (List.getElem_mem _)
  · rw [List.getElem?_eq_none h]; simp
theorem tkx_byt {m : Nat} {bs : List Int} {sh : Bool} (h : Byt bs) : Byt (tkx m bs sh) := by
  unfold tkx
  split
  · intro z hz; rw [List.eq_of_mem_replicate hz]; omega
  · exact fun z hz => h z (List.mem_of_mem_take hz)
theorem tkb_byt {m : Nat} {bs : List Int} {sh : Bool} (h : Byt bs) : Byt (tkb m bs sh) := by
  unfold tkb
  split
  · exact h
  · exact fun z hz => h z (List.mem_of_mem_drop hz)
theorem idx_cell {w : World} {ad : Addr} {l : List Int} (h : Kd.C (Kd.int .u8) w (some ad) l.length l) (n : Nat) (h0 : n ≠ 0) (hn : n < l.length) : w.cell? ⟨ad.block, ad.off + n, none⟩ = some (.int .u8 (rd l (n : Int))) := by
  obtain ⟨a2, e, hx⟩ := Kd.at_int h (n : Int) (by omega) (by omega)
  cases e
  rw [Int.toNat_natCast] at hx
  simpa [Addr.add, h0] using hx
theorem idx_cell0 {w : World} {ad : Addr} {l : List Int} (h : Kd.C (Kd.int .u8) w (some ad) l.length l) (hn : 0 < l.length) : w.cell? ad = some (.int .u8 (rd l 0)) := by
  obtain ⟨a2, e, hx⟩ := Kd.at_int h 0 (by omega) (by omega)
  cases e
  simpa [Addr.add] using hx
theorem or64 {x y : Int} (hx : 0 ≤ x) (hx1 : x < 256) (hy : 0 ≤ y) (hy1 : y < 256) : Go.bits .or .i64 (wrap64 ((wrap64 x) * 256)) (wrap64 y) = x * 256 + y := by
  rw [show wrap64 x = x from by unfold wrap64; omega, show wrap64 y = y from by unfold wrap64; omega, show wrap64 (x * 256) = x * 256 from by unfold wrap64; omega]
  exact bits_join .i64 32 (by decide) (fun n h0 h1 => by rw [IntKind.wrap_i64]; omega) 8 _ _ (by omega) (by omega) (by omega) hy (by omega) (by omega)
def be2 (x : List Int) : Int := rd x 0 * 256 + rd x 1
def two_T : Bool × List (List Nat × List Nat) := (true, [([], []), ([0], [0]), ([1], [1]), ([2], [2]), ([3], [3]), ([], []), ([5], [5]), ([6], [6]), ([7], [7]), ([4, 8], [4, 8]), ([9, 0, 1, 2, 3, 4, 5, 6, 7, 8, 9], [9])])
def two_B : List Nat := [0, 1, 3, 7, 15, 0, 32, 96, 224, 511, 1023]
theorem two_t : rtab .any (opsOf Try.f57 2) = two_T := by kernel_rfl
theorem two_b : waitsOk two_T.2 two_B = true := by kernel_rfl
set_option maxHeartbeats 8000000 in
set_option maxRecDepth 100000 in
theorem two_w {w0 w : World} {g : Nat} {A : Option Addr} {c : Nat} {bs : List Int} {k ver code grp rob every : Int} {quiet : Bool} {vS vR : Value} {sh : Bool} (hB : Below w0.heap.size w0 w) (hg : w0.heap.size ≤ g) (h : w.heap[g]? = some (.cells #[.slice A bs.length c, .int .u8 k, .int .i64 ver, .int .u8 code, .int .u32 grp, .bool quiet, .int .u8 rob, .int .u8 every, vS, vR, .bool sh] 66 (0, 0))) (hC : Kd.C (Kd.int .u8) w0 A bs.length bs) (hc : bs.length ≤ c) (hby : Byt bs) :
    Calls Try.prog 57 #[.pointer (some ⟨g, 0, none⟩)] w fun e w' => ∃ A2 c2, e = .returned (.int .i64 (be2 (tkx 2 bs sh))) ∧ w'.heap[g]? = some (.cells #[.slice A2 (tkb 2 bs sh).length c2, .int .u8 k, .int .i64 ver, .int .u8 code, .int .u32 grp, .bool quiet, .int .u8 rob, .int .u8 every, vS, vR, .bool (tks 2 bs sh)] 66 (0, 0)) ∧ Kd.C (Kd.int .u8) w0 A2 (tkb 2 bs sh).length (tkb 2 bs sh) ∧ (tkb 2 bs sh).length ≤ c2 ∧ RM w w' g := by
  have HB := Aside0.mk hB
  have HG := Aside0.mk hg
  have BK := Aside0.mk h
  have HC := Aside0.mk hC
  have HK := Aside0.mk hc
  clear hB hg h hC hc
  have HBY := Aside0.mk hby
  clear hby
  go_enter Try.func57, Try.ntmps57
  go_upto_region 2 with (first | (go_at_call 55; with_reducible refine (take_2 HB.out HG.out BK.out HC.out HK.out).mono ?_; rintro e w1 ⟨A1, c1, A2, c2, rfl, hV, hbx, hC2, hK2, hR⟩; have HV := Aside0.mk hV; have BX := Aside0.mk hbx; have HC2 := Aside0.mk hC2; have HK2 := Aside0.mk hK2; have HR := Aside0.mk hR; clear hV hbx hC2 hK2 hR))
  have hxl := tkx_len 2 bs sh
  have HXB := Aside0.mk (tkx_byt (m := 2) (sh := sh) HBY.out)
  obtain ⟨x, hx⟩ : ∃ x_, x_ = tkx 2 bs sh := ⟨_, rfl⟩
  rw [← hx] at HV HXB hxl ⊢
  have HXQ := Aside0.mk hx
  clear hx
  have hCx := (Kd.V_reads' HV.out).2.2
  obtain ⟨ad, rfl, _⟩ := Kd.at_int hCx 0 (by omega) (by omega)
  have y0 := idx_cell0 hCx (by omega)
  have y1 := idx_cell hCx 1 (by decide) (by omega)
  have bn0 : ((0 : Int) < (x.length : Int)) = True := eq_true (by omega)
  have bn1 : ((1 : Int) < (x.length : Int)) = True := eq_true (by omega)
  have hp0 : 0 < x.length := by omega
  have hxb0 := HXB.out.rd 0
  have hxb1 := HXB.out.rd 1
  have hor := or64 hxb0.1 hxb0.2 hxb1.1 hxb1.2
  clear HB hCx
  have HB := Aside0.mk (Below.refl w1.heap.size w1)
  refine start_ (n := 11) (S := fun w' => w'.cell? ad = some (.int .u8 (rd x 0)) ∧ w'.cell? ⟨ad.block, ad.off + 1, none⟩ = some (.int .u8 (rd x 1))) (ds := []) #[false, false, false, false, false, false, false, false, false, false, false] (by kernel_rfl) rfl rfl ⟨((HB.out.cell (World.block_lt_of_cell? w1 _ y0)).trans y0), ((HB.out.cell (World.block_lt_of_cell? w1 _ y1)).trans y1)⟩ (fun hHeld => ?_); refine with_tabW two_t two_b (fun HT_ HW_ => ?_)
  have hB : Below w1.heap.size w1 w1.drew := below_drew (Below.refl _ _)
  generalize w1.drew = w101_ at hB hHeld ⊢
  have nHB := Aside0.mk (HB.out.trans (hB.mono HB.out.size))
  clear HB
  have HB := nHB
  clear nHB
  clear hB
  refine pure_ (i := 0) (N := some 6) (v := ?_) (a' := ?_) #[true, false, false, false, false, false, false, false, false, false, false] rfl rfl (any_of HT_.out (by kernel_rfl)) (fun _ _ _ h => h) (Or.inl ⟨by rfl, ?_⟩) ?_ ?_
  rotate_left
  · intro w'
    go_simp
    with_reducible rfl
  rotate_left
  · simp only [Act.put, List.setIfInBounds_toArray, List.set_cons_zero, List.set_cons_succ, i64_w, i32_w]
    rfl
  refine pure_ (i := 1) (N := some 7) (v := ?_) (a' := ?_) #[true, true, false, false, false, false, false, false, false, false, false] rfl rfl (any_of HT_.out (by kernel_rfl)) (fun _ _ _ h => h) (Or.inl ⟨by rfl, ?_⟩) ?_ ?_
  rotate_left
  · intro w'
    go_simp
    with_reducible rfl
  rotate_left
  · simp only [Act.put, List.setIfInBounds_toArray, List.set_cons_zero, List.set_cons_succ, i64_w, i32_w]
    rfl
  refine take_ (i := 2) (N := some 8) (v := ?_) (a' := ?_) #[true, true, true, false, false, false, false, false, false, false, false] rfl rfl (take_ofW HT_.out HW_.out (by kernel_rfl)) (fun _ _ _ h => h) (Or.inl ⟨by rfl, ?_⟩) hHeld ?_ ?_
  rotate_left
  · rintro w' ⟨s0, s1⟩
    go_simp
    with_reducible rfl
  rotate_left
  · simp only [Act.put, List.setIfInBounds_toArray, List.set_cons_zero, List.set_cons_succ, i64_w, i32_w]
    rfl
  refine pure_ (i := 3) (N := some 9) (v := ?_) (a' := ?_) #[true, true, true, true, false, false, false, false, false, false, false] rfl rfl (any_of HT_.out (by kernel_rfl)) (fun _ _ _ h => h) (Or.inl ⟨by rfl, ?_⟩) ?_ ?_
  rotate_left
  · intro w'
    go_simp
    with_reducible rfl
  rotate_left
  · simp only [Act.put, List.setIfInBounds_toArray, List.set_cons_zero, List.set_cons_succ, i64_w, i32_w]
    rfl
  refine pure_ (i := 4) (N := some 10) (v := ?_) (a' := ?_) #[true, true, true, true, true, false, false, false, false, false, false] rfl rfl (any_of HT_.out (by kernel_rfl)) (fun _ _ _ h => h) (Or.inl ⟨by rfl, ?_⟩) ?_ ?_
  rotate_left
  · intro w'
    go_simp
    with_reducible rfl
  rotate_left
  · simp only [Act.put, List.setIfInBounds_toArray, List.set_cons_zero, List.set_cons_succ, i64_w, i32_w]
    rfl
  refine pure_ (i := 5) (N := some 11) (v := ?_) (a' := ?_) #[true, true, true, true, true, true, false, false, false, false, false] rfl rfl (any_of HT_.out (by kernel_rfl)) (fun _ _ _ h => h) (Or.inl ⟨by rfl, ?_⟩) ?_ ?_
  rotate_left
  · intro w'
    go_simp
    with_reducible rfl
  rotate_left
  · simp only [Act.put, List.setIfInBounds_toArray, List.set_cons_zero, List.set_cons_succ, i64_w, i32_w]
    rfl
  refine pure_ (i := 6) (N := some 12) (v := ?_) (a' := ?_) #[true, true, true, true, true, true, true, false, false, false, false] rfl rfl (any_of HT_.out (by kernel_rfl)) (fun _ _ _ h => h) (Or.inl ⟨by rfl, ?_⟩) ?_ ?_
  rotate_left
  · intro w'
    go_simp
    with_reducible rfl
  rotate_left
  · simp only [Act.put, List.setIfInBounds_toArray, List.set_cons_zero, List.set_cons_succ, i64_w, i32_w]
    rfl
  refine take_ (i := 7) (N := some 13) (v := ?_) (a' := ?_) #[true, true, true, true, true, true, true, true, false, false, false] rfl rfl (take_ofW HT_.out HW_.out (by kernel_rfl)) (fun _ _ _ h => h) (Or.inl ⟨by rfl, ?_⟩) hHeld ?_ ?_
  rotate_left
  · rintro w' ⟨s0, s1⟩
    go_simp
    with_reducible rfl
  rotate_left
  · simp only [Act.put, List.setIfInBounds_toArray, List.set_cons_zero, List.set_cons_succ, i64_w, i32_w]
    rfl
  refine pure_ (i := 8) (N := some 14) (v := ?_) (a' := ?_) #[true, true, true, true, true, true, true, true, true, false, false] rfl rfl (any_of HT_.out (by kernel_rfl)) (fun _ _ _ h => h) (Or.inl ⟨by rfl, ?_⟩) ?_ ?_
  rotate_left
  · intro w'
    go_simp
    with_reducible rfl
  rotate_left
  · simp only [Act.put, List.setIfInBounds_toArray, List.set_cons_zero, List.set_cons_succ, i64_w, i32_w]
    rfl
  refine pure_ (i := 9) (N := some 15) (v := ?_) (a' := ?_) #[true, true, true, true, true, true, true, true, true, true, false] rfl rfl (any_of HT_.out (by kernel_rfl)) (fun _ _ _ h => h) (Or.inl ⟨by rfl, ?_⟩) ?_ ?_
  rotate_left
  · intro w'
    go_simp
    with_reducible rfl
  rotate_left
  · simp only [Act.put, List.setIfInBounds_toArray, List.set_cons_zero, List.set_cons_succ, i64_w, i32_w]
    rfl
  refine pure_ (i := 10) (N := some 2) (v := ?_) (a' := ?_) #[true, true, true, true, true, true, true, true, true, true, true] rfl rfl (any_of HT_.out (by kernel_rfl)) (fun _ _ _ h => h) (Or.inl ⟨by rfl, ?_⟩) ?_ ?_
  rotate_left
  · intro w'
    go_simp
    with_reducible rfl
  rotate_left
  · simp only [Act.put, List.setIfInBounds_toArray, List.set_cons_zero, List.set_cons_succ, i64_w, i32_w]
    rfl
  refine done_ (done_of HT_.out (by kernel_rfl)) ?_
  go_wp2
  go_ret
  exact ⟨A2, c2, by rw [← HXQ.out]; rfl, blk_below BX.out HB.out, HC2.out, HK2.out, HR.out.trans (RM.of_below HB.out)⟩
end Go.Proofs.Ytmmjmncchckbbaa
