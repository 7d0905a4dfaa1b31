/-
  The reader of messages: what take does.
-/
import Derived.Test.YtmmjmncchckbbaaPIgx3
import Derived.Test.YtmmjmncchckbbaaProg
import Derived.Below
import Derived.Deep.Draws
import Derived.Deep.AppendLies
import Derived.Maps.AppendAt
import Derived.OwnWalk
import Derived.Laws.BytesArg
import Derived.Laws.MakeOwn
import Derived.Laws.OwnMore
import Derived.Deep.OwnRows
import Derived.Tactics
import Derived.Lib.ConvBytes
import Derived.Laws.Slices
import Derived.WalkKit
import Derived.KernelRfl
import Derived.RowKit3
import Derived.Deep.LoopGhost
import Derived.Deep.QuietTactic
import Derived.BigQuiet
import Derived.WideLaws
import Derived.Deep.DeepCutAuto
import Derived.Deep.CutBlock
import Derived.Deep.RegionHeld3
import Derived.Laws.Rows
import Derived.Lib.AppendStr
import Derived.ArgAppend
import Derived.Laws.IdiomCopy
import Derived.OrdersHeld
import Derived.Laws.BitsLemmas
import Derived.RowKit
import Derived.Test.YtmmjmncchckbbaaVWords
import Derived.Test.YtmmjmncchckbbaaVLast
import Derived.Test.YtmmjmncchckbbaaVTab
import Derived.Test.YtmmjmncchckbbaaVQPut
import Derived.Test.YtmmjmncchckbbaaVApart
import Derived.Test.YtmmjmncchckbbaaVArr
import Derived.Test.YtmmjmncchckbbaaVZeros
import Derived.Test.YtmmjmncchckbbaaVFoot
import Derived.Test.YtmmjmncchckbbaaVKept
import Derived.Test.YtmmjmncchckbbaaVShare
import Derived.Test.YtmmjmncchckbbaaVN
import Derived.Test.YtmmjmncchckbbaaVRepsOne
import Derived.Test.YtmmjmncchckbbaaVGuard
import Derived.Test.YtmmjmncchckbbaaVNEv
import Derived.Test.YtmmjmncchckbbaaVMore
namespace Go.Proofs.Ytmmjmncchckbbaa
open Go.RowKit Go.Proofs.YtmmjmncchckbbaaW.PrintWords Go.Proofs.YtmmjmncchckbbaaW.PrintLast Go.Proofs.YtmmjmncchckbbaaW.PrintMore Go.Proofs.Ytmmjmncchckbbaa.PIg
set_option linter.unusedVariables false
set_option linter.unusedSimpArgs false
/-- What a call on the reader at block g may have turned: its box. -/
structure RM (w w' : World) (g : Nat) : Prop where
  keep : KeepBut w w' g none
  out : Below 0 w w'
theorem RM.of_below {w w' : World} {g : Nat} (h : Below w.heap.size w w') : RM w w' g := ⟨KeepBut.of_below h g none, h.mono (Nat.zero_le _)⟩
theorem RM.trans {w w1 w2 : World} {g : Nat} (h : RM w w1 g) (k : RM w1 w2 g) : RM w w2 g := ⟨h.keep.trans k.keep (.inl rfl), h.out.trans k.out⟩
theorem RM.set {w w1 : World} {g : Nat} (h : RM w w1 g) (j : Nat) (u : Value) : RM w (w1.setCell ⟨g, j, none⟩ u) g :=
  ⟨h.keep.set_ j u, ⟨h.out.os, h.out.tape, h.out.output, by simpa [World.setCell] using h.keep.1, fun q hq => absurd hq (Nat.not_lt_zero _)⟩⟩
theorem RM.block {w w' : World} {g b : Nat} (h : RM w w' g) (hb : b < w.heap.size) (h1 : b ≠ g) : w'.heap[b]? = w.heap[b]? := h.keep.2 b hb h1 (by simp)
theorem RM.V {α : Type} {d : Kd α} {e b : Nat} {u : Value} {xs : List α} {w w' : World} {g : Nat} (h : RM w w' g) (hV : Kd.V d e w b (fun k => k ≠ g) u xs) : Kd.V d e w' b (fun k => k ≠ g) u xs := Kd.V_keep hV h.keep (fun _ hk => hk)
theorem RM.below {w0 w w' : World} {g : Nat} (h : RM w w' g) (hB : Below w0.heap.size w0 w) (hg : w0.heap.size ≤ g) : Below w0.heap.size w0 w' :=
  ⟨h.out.os.trans hB.os, h.out.tape.trans hB.tape, h.out.output.trans hB.output, Nat.le_trans hB.size h.keep.1, fun q hq => (h.block (Nat.lt_of_lt_of_le hq hB.size) (by omega)).trans (hB.block q hq)⟩
/-- What take takes, what stays, whether it was too short. -/
def tkx (m : Nat) (bs : List Int) (sh : Bool) : List Int := if sh = true ∨ bs.length < m then List.replicate m 0 else bs.take m
def tkb (m : Nat) (bs : List Int) (sh : Bool) : List Int := if sh = true ∨ bs.length < m then bs else bs.drop m
def tks (m : Nat) (bs : List Int) (sh : Bool) : Bool := sh || decide (bs.length < m)
theorem tkx_len (m : Nat) (bs : List Int) (sh : Bool) : (tkx m bs sh).length = m := by
  unfold tkx
  split
  · simp
  · rename_i h
    have h2 : ¬ bs.length < m := fun h' => h (.inr h')
    rw [List.length_take]; omega
set_option maxHeartbeats 8000000 in
set_option maxRecDepth 100000 in
theorem take_short {w0 w : World} {g : Nat} {A : Option Addr} {c : Nat} {bs : List Int} {k ver code grp rob every : Int} {quiet : Bool} {vS vR : Value} {sh : Bool} (hB : Below w0.heap.size w0 w) (hg : w0.heap.size ≤ g) (h : w.heap[g]? = some (.cells #[.slice A bs.length c, .int .u8 k, .int .i64 ver, .int .u8 code, .int .u32 grp, .bool quiet, .int .u8 rob, .int .u8 every, vS, vR, .bool sh] 66 (0, 0))) (hC : Kd.C (Kd.int .u8) w0 A bs.length bs) (hc : bs.length ≤ c) (m : Nat) (hm : m ≤ 1000) (hs : sh = true ∨ bs.length < m) :
    Calls Try.prog 55 #[.pointer (some ⟨g, 0, none⟩), .int .i64 m] w fun e w' => ∃ A1 c1 A2 c2, e = .returned (.slice A1 (tkx m bs sh).length c1) ∧ Kd.V (Kd.int .u8) 5 w' 0 (fun k => k ≠ g) (.slice A1 (tkx m bs sh).length c1) (tkx m bs sh) ∧ w'.heap[g]? = some (.cells #[.slice A2 (tkb m bs sh).length c2, .int .u8 k, .int .i64 ver, .int .u8 code, .int .u32 grp, .bool quiet, .int .u8 rob, .int .u8 every, vS, vR, .bool (tks m bs sh)] 66 (0, 0)) ∧ Kd.C (Kd.int .u8) w0 A2 (tkb m bs sh).length (tkb m bs sh) ∧ (tkb m bs sh).length ≤ c2 ∧ RM w w' g := by
  rw [show tkx m bs sh = List.replicate m 0 from if_pos hs, show tkb m bs sh = bs from if_pos hs, show tks m bs sh = true from by unfold tks; rcases hs with rfl | h'; { rfl }; { rw [decide_eq_true h']; simp }]
  obtain ⟨z, hz⟩ : ∃ z_, z_ = List.replicate m (0 : Int) := ⟨_, rfl⟩
  rw [← hz]
  have HZ := Aside0.mk hz
  clear hz
  have HM := Aside0.mk hm
  cases sh
  case true =>
    have HB := Aside0.mk hB
    have HG := Aside0.mk hg
    have BK := Aside0.mk h
    have HC := Aside0.mk hC
    have HK := Aside0.mk hc
    clear hB hg h hC hc
    have hc_0 : w.cell? ⟨g, 0, none⟩ = some (.slice A bs.length c) := (blk_cell BK.out 0).trans rfl
    have hf_0 := blk_frozen BK.out 0
    have hc_10 : w.cell? ⟨g, 10, none⟩ = some (.bool true) := (blk_cell BK.out 10).trans rfl
    have hf_10 := blk_frozen BK.out 10
    clear hs
    go_enter Try.func55, Try.ntmps55
    go_upto_region 3 with fail
    have hBK : (w.setCell ⟨g, 10, none⟩ (.bool true)).heap[g]? = some (.cells #[.slice A bs.length c, .int .u8 k, .int .i64 ver, .int .u8 code, .int .u32 grp, .bool quiet, .int .u8 rob, .int .u8 every, vS, vR, .bool true] 66 (0, 0)) := blk_put (cs := #[.slice A bs.length c, .int .u8 k, .int .i64 ver, .int .u8 code, .int .u32 grp, .bool quiet, .int .u8 rob, .int .u8 every, vS, vR, .bool true]) BK.out 10 (.bool true) rfl
    have hR := (RM.of_below (g := g) (Below.refl w.heap.size w)).set 10 (.bool true)
    clear hc_0 hf_0 hc_10 hf_10 BK
    generalize w.setCell ⟨g, 10, none⟩ (.bool true) = ws at hBK hR ⊢
    have BK := Aside0.mk hBK
    have HR := Aside0.mk hR
    clear hBK hR
    go_wp2_with (first | ((with_reducible refine gate_dst (N := 23) rfl ?_); refine Kd.R_make (Kd.int .u8) (w0 := ws) ws.heap.size 5 rfl rfl 30 (.tmp 22) (.tmp 22) rfl (m : Int) rfl rfl Try.underlying30 (.int .u8 0) 1 Try.info5 rfl (by decide) (by decide) 0 (ok := fun _ => True) (okp := fun _ => True) rfl (fun _ h => h) trivial (by omega) (by have := HM.out; omega) (Below.refl _ _) (Nat.le_refl _) ?_; intro v1 w1 hV hb hg_ hn_; clear hg_ hn_; rw [Int.toNat_natCast, ← HZ.out] at hV; obtain ⟨A1, c1, rfl⟩ := Kd.R_slice hV; have HV := Aside0.mk hV; have Hb := Aside0.mk hb; clear hV hb))
    go_ret
    have hlt1 := blk_lt BK.out
    exact ⟨A1, c1, A, c, rfl, Kd.V_mono (Kd.R_V (Kd.R_bound HV.out)) (fun q hq e => by have := hq.2.1; omega), blk_below BK.out Hb.out, HC.out, HK.out, HR.out.trans (RM.of_below Hb.out)⟩
  case false =>
    have HB := Aside0.mk hB
    have HG := Aside0.mk hg
    have BK := Aside0.mk h
    have HC := Aside0.mk hC
    have HK := Aside0.mk hc
    clear hB hg h hC hc
    have hc_0 : w.cell? ⟨g, 0, none⟩ = some (.slice A bs.length c) := (blk_cell BK.out 0).trans rfl
    have hf_0 := blk_frozen BK.out 0
    have hc_10 : w.cell? ⟨g, 10, none⟩ = some (.bool false) := (blk_cell BK.out 10).trans rfl
    have hf_10 := blk_frozen BK.out 10
    have hlt : decide ((bs.length : Int) < (m : Int)) = true := decide_eq_true (by simp at hs; omega)
    have hltn : bs.length < m := by simp at hs; exact hs
    clear hs
    go_enter Try.func55, Try.ntmps55
    go_upto_region 3 with fail
    have hBK : (w.setCell ⟨g, 10, none⟩ (.bool true)).heap[g]? = some (.cells #[.slice A bs.length c, .int .u8 k, .int .i64 ver, .int .u8 code, .int .u32 grp, .bool quiet, .int .u8 rob, .int .u8 every, vS, vR, .bool true] 66 (0, 0)) := blk_put (cs := #[.slice A bs.length c, .int .u8 k, .int .i64 ver, .int .u8 code, .int .u32 grp, .bool quiet, .int .u8 rob, .int .u8 every, vS, vR, .bool false]) BK.out 10 (.bool true) rfl
    have hR := (RM.of_below (g := g) (Below.refl w.heap.size w)).set 10 (.bool true)
    clear hc_0 hf_0 hc_10 hf_10 BK
    generalize w.setCell ⟨g, 10, none⟩ (.bool true) = ws at hBK hR ⊢
    have BK := Aside0.mk hBK
    have HR := Aside0.mk hR
    clear hBK hR
    go_wp2_with (first | ((with_reducible refine gate_dst (N := 23) rfl ?_); refine Kd.R_make (Kd.int .u8) (w0 := ws) ws.heap.size 5 rfl rfl 30 (.tmp 22) (.tmp 22) rfl (m : Int) rfl rfl Try.underlying30 (.int .u8 0) 1 Try.info5 rfl (by decide) (by decide) 0 (ok := fun _ => True) (okp := fun _ => True) rfl (fun _ h => h) trivial (by omega) (by have := HM.out; omega) (Below.refl _ _) (Nat.le_refl _) ?_; intro v1 w1 hV hb hg_ hn_; clear hg_ hn_; rw [Int.toNat_natCast, ← HZ.out] at hV; obtain ⟨A1, c1, rfl⟩ := Kd.R_slice hV; have HV := Aside0.mk hV; have Hb := Aside0.mk hb; clear hV hb))
    go_ret
    have hlt1 := blk_lt BK.out
    exact ⟨A1, c1, A, c, rfl, Kd.V_mono (Kd.R_V (Kd.R_bound HV.out)) (fun q hq e => by have := hq.2.1; omega), blk_below BK.out Hb.out, HC.out, HK.out, HR.out.trans (RM.of_below Hb.out)⟩
set_option maxHeartbeats 8000000 in
set_option maxRecDepth 100000 in
theorem take_ok {w0 w : World} {g : Nat} {A : Option Addr} {c : Nat} {bs : List Int} {k ver code grp rob every : Int} {quiet : Bool} {vS vR : Value} {sh : Bool} (hB : Below w0.heap.size w0 w) (hg : w0.heap.size ≤ g) (h : w.heap[g]? = some (.cells #[.slice A bs.length c, .int .u8 k, .int .i64 ver, .int .u8 code, .int .u32 grp, .bool quiet, .int .u8 rob, .int .u8 every, vS, vR, .bool sh] 66 (0, 0))) (hC : Kd.C (Kd.int .u8) w0 A bs.length bs) (hc : bs.length ≤ c) (m : Nat) (hm : m ≤ 1000) (hs : ¬ (sh = true ∨ bs.length < m)) :
    Calls Try.prog 55 #[.pointer (some ⟨g, 0, none⟩), .int .i64 m] w fun e w' => ∃ A1 c1 A2 c2, e = .returned (.slice A1 (tkx m bs sh).length c1) ∧ Kd.V (Kd.int .u8) 5 w' 0 (fun k => k ≠ g) (.slice A1 (tkx m bs sh).length c1) (tkx m bs sh) ∧ w'.heap[g]? = some (.cells #[.slice A2 (tkb m bs sh).length c2, .int .u8 k, .int .i64 ver, .int .u8 code, .int .u32 grp, .bool quiet, .int .u8 rob, .int .u8 every, vS, vR, .bool (tks m bs sh)] 66 (0, 0)) ∧ Kd.C (Kd.int .u8) w0 A2 (tkb m bs sh).length (tkb m bs sh) ∧ (tkb m bs sh).length ≤ c2 ∧ RM w w' g := by
  obtain rfl : sh = false := by cases sh <;> simp_all
  have hml : m ≤ bs.length := by simp at hs; exact hs
  rw [show tkx m bs false = bs.take m from if_neg hs, show tkb m bs false = bs.drop m from if_neg hs, show tks m bs false = false from by unfold tks; rw [decide_eq_false (by omega)]; rfl]
  clear hs
  have HB := Aside0.mk hB
  have HG := Aside0.mk hg
  have BK := Aside0.mk h
  have HC := Aside0.mk hC
  have HK := Aside0.mk hc
  clear hB hg h hC hc
  have hc_0 : w.cell? ⟨g, 0, none⟩ = some (.slice A bs.length c) := (blk_cell BK.out 0).trans rfl
  have hf_0 := blk_frozen BK.out 0
  have hc_10 : w.cell? ⟨g, 10, none⟩ = some (.bool false) := (blk_cell BK.out 10).trans rfl
  have hf_10 := blk_frozen BK.out 10
  have hlt : decide ((bs.length : Int) < (m : Int)) = false := decide_eq_false (by omega)
  have hltn : ¬ bs.length < m := by omega
  obtain ⟨i_, hi_, _, hz_, _⟩ := info_parts Try.info5
  obtain ⟨hcutx, hAx, hKx⟩ := print_take_of (P := Try.prog) (Value.int .u8) 0 30 5 .i64 Try.underlying30 hi_ hz_ A c bs (m : Int) (by omega) (by omega) HK.out
  obtain ⟨A2, hcutb, hAb, hKb⟩ := print_drop_of (P := Try.prog) (Value.int .u8) 0 30 5 .i64 Try.underlying30 hi_ hz_ A c bs (m : Int) (by omega) (by omega) HK.out
  rw [Int.toNat_natCast] at hAx hKx hAb hKb
  simp only [Int.toNat_natCast] at hcutx hcutb
  obtain ⟨x, hx⟩ : ∃ x_, x_ = bs.take m := ⟨_, rfl⟩
  obtain ⟨y, hy⟩ : ∃ y_, y_ = bs.drop m := ⟨_, rfl⟩
  rw [← hx] at hAx hKx hcutx ⊢
  rw [← hy] at hAb hKb hcutb ⊢
  have HX0 := Aside0.mk (show Kd.C (Kd.int .u8) w0 A x.length x from Kd.C_of_reads (h1 := fun _ => rfl) (hAx w0 (Kd.reads_of_C HC.out)))
  have HY := Aside0.mk (show Kd.C (Kd.int .u8) w0 A2 y.length y from Kd.C_of_reads (h1 := fun _ => rfl) (hAb w0 (Kd.reads_of_C HC.out)))
  have HKX := Aside0.mk hKx
  have HKY := Aside0.mk hKb
  clear hAx hAb hKx hKb hi_ hz_ hx hy
  go_enter Try.func55, Try.ntmps55
  go_wp2
  go_ret
  refine ⟨A, c, A2, c - m, rfl, ?_, blk_put (cs := #[.slice A bs.length c, .int .u8 k, .int .i64 ver, .int .u8 code, .int .u32 grp, .bool quiet, .int .u8 rob, .int .u8 every, vS, vR, .bool false]) BK.out 0 (.slice A2 y.length (c - m)) rfl, HY.out, HKY.out, (RM.of_below (g := g) (Below.refl w.heap.size w)).set 0 _⟩
  exact ((RM.of_below (g := g) (Below.refl w.heap.size w)).set 0 _).V (Kd.V_mono (Kd.V_mk (e := 5) (base := 0) HKX.out (Kd.F_below (Kd.C_F (Kd.heap_int .u8) HX0.out) HB.out)) (fun q hq e => by have := HG.out; omega))
theorem take_w {w0 w : World} {g : Nat} {A : Option Addr} {c : Nat} {bs : List Int} {k ver code grp rob every : Int} {quiet : Bool} {vS vR : Value} {sh : Bool} (hB : Below w0.heap.size w0 w) (hg : w0.heap.size ≤ g) (h : w.heap[g]? = some (.cells #[.slice A bs.length c, .int .u8 k, .int .i64 ver, .int .u8 code, .int .u32 grp, .bool quiet, .int .u8 rob, .int .u8 every, vS, vR, .bool sh] 66 (0, 0))) (hC : Kd.C (Kd.int .u8) w0 A bs.length bs) (hc : bs.length ≤ c) (m : Nat) (hm : m ≤ 1000) :
    Calls Try.prog 55 #[.pointer (some ⟨g, 0, none⟩), .int .i64 m] w fun e w' => ∃ A1 c1 A2 c2, e = .returned (.slice A1 (tkx m bs sh).length c1) ∧ Kd.V (Kd.int .u8) 5 w' 0 (fun k => k ≠ g) (.slice A1 (tkx m bs sh).length c1) (tkx m bs sh) ∧ w'.heap[g]? = some (.cells #[.slice A2 (tkb m bs sh).length c2, .int .u8 k, .int .i64 ver, .int .u8 code, .int .u32 grp, .bool quiet, .int .u8 rob, .int .u8 every, vS, vR, .bool (tks m bs sh)] 66 (0, 0)) ∧ Kd.C (Kd.int .u8) w0 A2 (tkb m bs sh).length (tkb m bs sh) ∧ (tkb m bs sh).length ≤ c2 ∧ RM w w' g := by
  by_cases hs : sh = true ∨ bs.length < m
  · exact take_short hB hg h hC hc m hm hs
  · exact take_ok hB hg h hC hc m hm hs
theorem take_2 {w0 w : World} {g : Nat} {A : Option Addr} {c : Nat} {bs : List Int} {k ver code grp rob every : Int} {quiet : Bool} {vS vR : Value} {sh : Bool} (hB : Below w0.heap.size w0 w) (hg : w0.heap.size ≤ g) (h : w.heap[g]? = some (.cells #[.slice A bs.length c, .int .u8 k, .int .i64 ver, .int .u8 code, .int .u32 grp, .bool quiet, .int .u8 rob, .int .u8 every, vS, vR, .bool sh] 66 (0, 0))) (hC : Kd.C (Kd.int .u8) w0 A bs.length bs) (hc : bs.length ≤ c) :
    Calls Try.prog 55 #[.pointer (some ⟨g, 0, none⟩), .int .i64 2] w fun e w' => ∃ A1 c1 A2 c2, e = .returned (.slice A1 (tkx 2 bs sh).length c1) ∧ Kd.V (Kd.int .u8) 5 w' 0 (fun k => k ≠ g) (.slice A1 (tkx 2 bs sh).length c1) (tkx 2 bs sh) ∧ w'.heap[g]? = some (.cells #[.slice A2 (tkb 2 bs sh).length c2, .int .u8 k, .int .i64 ver, .int .u8 code, .int .u32 grp, .bool quiet, .int .u8 rob, .int .u8 every, vS, vR, .bool (tks 2 bs sh)] 66 (0, 0)) ∧ Kd.C (Kd.int .u8) w0 A2 (tkb 2 bs sh).length (tkb 2 bs sh) ∧ (tkb 2 bs sh).length ≤ c2 ∧ RM w w' g := take_w hB hg h hC hc 2 (by decide)
theorem take_4 {w0 w : World} {g : Nat} {A : Option Addr} {c : Nat} {bs : List Int} {k ver code grp rob every : Int} {quiet : Bool} {vS vR : Value} {sh : Bool} (hB : Below w0.heap.size w0 w) (hg : w0.heap.size ≤ g) (h : w.heap[g]? = some (.cells #[.slice A bs.length c, .int .u8 k, .int .i64 ver, .int .u8 code, .int .u32 grp, .bool quiet, .int .u8 rob, .int .u8 every, vS, vR, .bool sh] 66 (0, 0))) (hC : Kd.C (Kd.int .u8) w0 A bs.length bs) (hc : bs.length ≤ c) :
    Calls Try.prog 55 #[.pointer (some ⟨g, 0, none⟩), .int .i64 4] w fun e w' => ∃ A1 c1 A2 c2, e = .returned (.slice A1 (tkx 4 bs sh).length c1) ∧ Kd.V (Kd.int .u8) 5 w' 0 (fun k => k ≠ g) (.slice A1 (tkx 4 bs sh).length c1) (tkx 4 bs sh) ∧ w'.heap[g]? = some (.cells #[.slice A2 (tkb 4 bs sh).length c2, .int .u8 k, .int .i64 ver, .int .u8 code, .int .u32 grp, .bool quiet, .int .u8 rob, .int .u8 every, vS, vR, .bool (tks 4 bs sh)] 66 (0, 0)) ∧ Kd.C (Kd.int .u8) w0 A2 (tkb 4 bs sh).length (tkb 4 bs sh) ∧ (tkb 4 bs sh).length ≤ c2 ∧ RM w w' g := take_w hB hg h hC hc 4 (by decide)
/-- A row of bytes. -/
def Byt (l : List Int) : Prop := ∀ z ∈ l, 0 ≤ z ∧ z < 256
theorem Byt.rd {a : List Int} (ha : Byt a) (i : Int) : 0 ≤ rd a i ∧ rd a i < 256 := by
  show 0 ≤ a.getD i.toNat 0 ∧ a.getD i.toNat 0 < 256
  rw [List.getD_eq_getElem?_getD]
  rcases Nat.lt_or_ge i.toNat a.length with h | h
  · rw [List.getElem?_eq_getElem h]; exact ha _ (List.getElem_mem _)
  · rw [List.getElem?_eq_none h]; simp
theorem tkx_byt {m : Nat} {bs : List Int} {sh : Bool} (h : Byt bs) : Byt (tkx m bs sh) := by
  unfold tkx
  split
  · intro z hz; rw [List.eq_of_mem_replicate hz]; omega
  · exact fun z hz => h z (List.mem_of_mem_take hz)
theorem tkb_byt {m : Nat} {bs : List Int} {sh : Bool} (h : Byt bs) : Byt (tkb m bs sh) := by
  unfold tkb
  split
  · exact h
  · exact fun z hz => h z (List.mem_of_mem_drop hz)
theorem idx_cell {w : World} {ad : Addr} {l : List Int} (h : Kd.C (Kd.int .u8) w (some ad) l.length l) (n : Nat) (h0 : n ≠ 0) (hn : n < l.length) : w.cell? ⟨ad.block, ad.off + n, none⟩ = some (.int .u8 (rd l (n : Int))) := by
  obtain ⟨a2, e, hx⟩ := Kd.at_int h (n : Int) (by omega) (by omega)
  cases e
  rw [Int.toNat_natCast] at hx
  simpa [Addr.add, h0] using hx
theorem idx_cell0 {w : World} {ad : Addr} {l : List Int} (h : Kd.C (Kd.int .u8) w (some ad) l.length l) (hn : 0 < l.length) : w.cell? ad = some (.int .u8 (rd l 0)) := by
  obtain ⟨a2, e, hx⟩ := Kd.at_int h 0 (by omega) (by omega)
  cases e
  simpa [Addr.add] using hx
theorem or64 {x y : Int} (hx : 0 ≤ x) (hx1 : x < 256) (hy : 0 ≤ y) (hy1 : y < 256) : Go.bits .or .i64 (wrap64 ((wrap64 x) * 256)) (wrap64 y) = x * 256 + y := by
  rw [show wrap64 x = x from by unfold wrap64; omega, show wrap64 y = y from by unfold wrap64; omega, show wrap64 (x * 256) = x * 256 from by unfold wrap64; omega]
  exact bits_join .i64 32 (by decide) (fun n h0 h1 => by rw [IntKind.wrap_i64]; omega) 8 _ _ (by omega) (by omega) (by omega) hy (by omega) (by omega)
def be2 (x : List Int) : Int := rd x 0 * 256 + rd x 1
def two_T : Bool × List (List Nat × List Nat) := (true, [([], []), ([0], [0]), ([1], [1]), ([2], [2]), ([3], [3]), ([], []), ([5], [5]), ([6], [6]), ([7], [7]), ([4, 8], [4, 8]), ([9, 0, 1, 2, 3, 4, 5, 6, 7, 8, 9], [9])])
def two_B : List Nat := [0, 1, 3, 7, 15, 0, 32, 96, 224, 511, 1023]
theorem two_t : rtab .any (opsOf Try.f57 2) = two_T := by kernel_rfl
theorem two_b : waitsOk two_T.2 two_B = true := by kernel_rfl
set_option maxHeartbeats 8000000 in
set_option maxRecDepth 100000 in
theorem two_w {w0 w : World} {g : Nat} {A : Option Addr} {c : Nat} {bs : List Int} {k ver code grp rob every : Int} {quiet : Bool} {vS vR : Value} {sh : Bool} (hB : Below w0.heap.size w0 w) (hg : w0.heap.size ≤ g) (h : w.heap[g]? = some (.cells #[.slice A bs.length c, .int .u8 k, .int .i64 ver, .int .u8 code, .int .u32 grp, .bool quiet, .int .u8 rob, .int .u8 every, vS, vR, .bool sh] 66 (0, 0))) (hC : Kd.C (Kd.int .u8) w0 A bs.length bs) (hc : bs.length ≤ c) (hby : Byt bs) :
    Calls Try.prog 57 #[.pointer (some ⟨g, 0, none⟩)] w fun e w' => ∃ A2 c2, e = .returned (.int .i64 (be2 (tkx 2 bs sh))) ∧ w'.heap[g]? = some (.cells #[.slice A2 (tkb 2 bs sh).length c2, .int .u8 k, .int .i64 ver, .int .u8 code, .int .u32 grp, .bool quiet, .int .u8 rob, .int .u8 every, vS, vR, .bool (tks 2 bs sh)] 66 (0, 0)) ∧ Kd.C (Kd.int .u8) w0 A2 (tkb 2 bs sh).length (tkb 2 bs sh) ∧ (tkb 2 bs sh).length ≤ c2 ∧ RM w w' g := by
  have HB := Aside0.mk hB
  have HG := Aside0.mk hg
  have BK := Aside0.mk h
  have HC := Aside0.mk hC
  have HK := Aside0.mk hc
  clear hB hg h hC hc
  have HBY := Aside0.mk hby
  clear hby
  go_enter Try.func57, Try.ntmps57
  go_upto_region 2 with (first | (go_at_call 55; with_reducible refine (take_2 HB.out HG.out BK.out HC.out HK.out).mono ?_; rintro e w1 ⟨A1, c1, A2, c2, rfl, hV, hbx, hC2, hK2, hR⟩; have HV := Aside0.mk hV; have BX := Aside0.mk hbx; have HC2 := Aside0.mk hC2; have HK2 := Aside0.mk hK2; have HR := Aside0.mk hR; clear hV hbx hC2 hK2 hR))
  have hxl := tkx_len 2 bs sh
  have HXB := Aside0.mk (tkx_byt (m := 2) (sh := sh) HBY.out)
  obtain ⟨x, hx⟩ : ∃ x_, x_ = tkx 2 bs sh := ⟨_, rfl⟩
  rw [← hx] at HV HXB hxl ⊢
  have HXQ := Aside0.mk hx
  clear hx
  have hCx := (Kd.V_reads' HV.out).2.2
  obtain ⟨ad, rfl, _⟩ := Kd.at_int hCx 0 (by omega) (by omega)
  have y0 := idx_cell0 hCx (by omega)
  have y1 := idx_cell hCx 1 (by decide) (by omega)
  have bn0 : ((0 : Int) < (x.length : Int)) = True := eq_true (by omega)
  have bn1 : ((1 : Int) < (x.length : Int)) = True := eq_true (by omega)
  have hp0 : 0 < x.length := by omega
  have hxb0 := HXB.out.rd 0
  have hxb1 := HXB.out.rd 1
  have hor := or64 hxb0.1 hxb0.2 hxb1.1 hxb1.2
  clear HB hCx
  have HB := Aside0.mk (Below.refl w1.heap.size w1)
  refine start_ (n := 11) (S := fun w' => w'.cell? ad = some (.int .u8 (rd x 0)) ∧ w'.cell? ⟨ad.block, ad.off + 1, none⟩ = some (.int .u8 (rd x 1))) (ds := []) #[false, false, false, false, false, false, false, false, false, false, false] (by kernel_rfl) rfl rfl ⟨((HB.out.cell (World.block_lt_of_cell? w1 _ y0)).trans y0), ((HB.out.cell (World.block_lt_of_cell? w1 _ y1)).trans y1)⟩ (fun hHeld => ?_); refine with_tabW two_t two_b (fun HT_ HW_ => ?_)
  have hB : Below w1.heap.size w1 w1.drew := below_drew (Below.refl _ _)
  generalize w1.drew = w101_ at hB hHeld ⊢
  have nHB := Aside0.mk (HB.out.trans (hB.mono HB.out.size))
  clear HB
  have HB := nHB
  clear nHB
  clear hB
  refine pure_ (i := 0) (N := some 6) (v := ?_) (a' := ?_) #[true, false, false, false, false, false, false, false, false, false, false] rfl rfl (any_of HT_.out (by kernel_rfl)) (fun _ _ _ h => h) (Or.inl ⟨by rfl, ?_⟩) ?_ ?_
  rotate_left
  · intro w'
    go_simp
    with_reducible rfl
  rotate_left
  · simp only [Act.put, List.setIfInBounds_toArray, List.set_cons_zero, List.set_cons_succ, i64_w, i32_w]
    rfl
  refine pure_ (i := 1) (N := some 7) (v := ?_) (a' := ?_) #[true, true, false, false, false, false, false, false, false, false, false] rfl rfl (any_of HT_.out (by kernel_rfl)) (fun _ _ _ h => h) (Or.inl ⟨by rfl, ?_⟩) ?_ ?_
  rotate_left
  · intro w'
    go_simp
    with_reducible rfl
  rotate_left
  · simp only [Act.put, List.setIfInBounds_toArray, List.set_cons_zero, List.set_cons_succ, i64_w, i32_w]
    rfl
  refine take_ (i := 2) (N := some 8) (v := ?_) (a' := ?_) #[true, true, true, false, false, false, false, false, false, false, false] rfl rfl (take_ofW HT_.out HW_.out (by kernel_rfl)) (fun _ _ _ h => h) (Or.inl ⟨by rfl, ?_⟩) hHeld ?_ ?_
  rotate_left
  · rintro w' ⟨s0, s1⟩
    go_simp
    with_reducible rfl
  rotate_left
  · simp only [Act.put, List.setIfInBounds_toArray, List.set_cons_zero, List.set_cons_succ, i64_w, i32_w]
    rfl
  refine pure_ (i := 3) (N := some 9) (v := ?_) (a' := ?_) #[true, true, true, true, false, false, false, false, false, false, false] rfl rfl (any_of HT_.out (by kernel_rfl)) (fun _ _ _ h => h) (Or.inl ⟨by rfl, ?_⟩) ?_ ?_
  rotate_left
  · intro w'
    go_simp
    with_reducible rfl
  rotate_left
  · simp only [Act.put, List.setIfInBounds_toArray, List.set_cons_zero, List.set_cons_succ, i64_w, i32_w]
    rfl
  refine pure_ (i := 4) (N := some 10) (v := ?_) (a' := ?_) #[true, true, true, true, true, false, false, false, false, false, false] rfl rfl (any_of HT_.out (by kernel_rfl)) (fun _ _ _ h => h) (Or.inl ⟨by rfl, ?_⟩) ?_ ?_
  rotate_left
  · intro w'
    go_simp
    with_reducible rfl
  rotate_left
  · simp only [Act.put, List.setIfInBounds_toArray, List.set_cons_zero, List.set_cons_succ, i64_w, i32_w]
    rfl
  refine pure_ (i := 5) (N := some 11) (v := ?_) (a' := ?_) #[true, true, true, true, true, true, false, false, false, false, false] rfl rfl (any_of HT_.out (by kernel_rfl)) (fun _ _ _ h => h) (Or.inl ⟨by rfl, ?_⟩) ?_ ?_
  rotate_left
  · intro w'
    go_simp
    with_reducible rfl
  rotate_left
  · simp only [Act.put, List.setIfInBounds_toArray, List.set_cons_zero, List.set_cons_succ, i64_w, i32_w]
    rfl
  refine pure_ (i := 6) (N := some 12) (v := ?_) (a' := ?_) #[true, true, true, true, true, true, true, false, false, false, false] rfl rfl (any_of HT_.out (by kernel_rfl)) (fun _ _ _ h => h) (Or.inl ⟨by rfl, ?_⟩) ?_ ?_
  rotate_left
  · intro w'
    go_simp
    with_reducible rfl
  rotate_left
  · simp only [Act.put, List.setIfInBounds_toArray, List.set_cons_zero, List.set_cons_succ, i64_w, i32_w]
    rfl
  refine take_ (i := 7) (N := some 13) (v := ?_) (a' := ?_) #[true, true, true, true, true, true, true, true, false, false, false] rfl rfl (take_ofW HT_.out HW_.out (by kernel_rfl)) (fun _ _ _ h => h) (Or.inl ⟨by rfl, ?_⟩) hHeld ?_ ?_
  rotate_left
  · rintro w' ⟨s0, s1⟩
    go_simp
    with_reducible rfl
  rotate_left
  · simp only [Act.put, List.setIfInBounds_toArray, List.set_cons_zero, List.set_cons_succ, i64_w, i32_w]
    rfl
  refine pure_ (i := 8) (N := some 14) (v := ?_) (a' := ?_) #[true, true, true, true, true, true, true, true, true, false, false] rfl rfl (any_of HT_.out (by kernel_rfl)) (fun _ _ _ h => h) (Or.inl ⟨by rfl, ?_⟩) ?_ ?_
  rotate_left
  · intro w'
    go_simp
    with_reducible rfl
  rotate_left
  · simp only [Act.put, List.setIfInBounds_toArray, List.set_cons_zero, List.set_cons_succ, i64_w, i32_w]
    rfl
  refine pure_ (i := 9) (N := some 15) (v := ?_) (a' := ?_) #[true, true, true, true, true, true, true, true, true, true, false] rfl rfl (any_of HT_.out (by kernel_rfl)) (fun _ _ _ h => h) (Or.inl ⟨by rfl, ?_⟩) ?_ ?_
  rotate_left
  · intro w'
    go_simp
    with_reducible rfl
  rotate_left
  · simp only [Act.put, List.setIfInBounds_toArray, List.set_cons_zero, List.set_cons_succ, i64_w, i32_w]
    rfl
  refine pure_ (i := 10) (N := some 2) (v := ?_) (a' := ?_) #[true, true, true, true, true, true, true, true, true, true, true] rfl rfl (any_of HT_.out (by kernel_rfl)) (fun _ _ _ h => h) (Or.inl ⟨by rfl, ?_⟩) ?_ ?_
  rotate_left
  · intro w'
    go_simp
    with_reducible rfl
  rotate_left
  · simp only [Act.put, List.setIfInBounds_toArray, List.set_cons_zero, List.set_cons_succ, i64_w, i32_w]
    rfl
  refine done_ (done_of HT_.out (by kernel_rfl)) ?_
  go_wp2
  go_ret
  exact ⟨A2, c2, by rw [← HXQ.out]; rfl, blk_below BX.out HB.out, HC2.out, HK2.out, HR.out.trans (RM.of_below HB.out)⟩
end Go.Proofs.Ytmmjmncchckbbaa
-- written by a program of this session (hprint.py), over the kit's printer






namespace Go.Proofs.Ytmmjmncchckbbaa.PIh
open Go.RowKit Go.Proofs.YtmmjmncchckbbaaW.PrintWords Go.Proofs.YtmmjmncchckbbaaW.PrintLast Go.Proofs.YtmmjmncchckbbaaW.PrintMore
attribute [local go_sem] max2_int min2_int max_two min_two max_three min_three max_four min_four   -- for this text's walks alone
set_option linter.unusedVariables false
set_option linter.unusedSimpArgs false



def errW : Option Int → Value
  | none => .nilIface
  | some c => .iface 0 (.int .i64 c)
theorem errW_none : errW none = .nilIface := rfl
theorem errW_some (c : Int) : errW (some c) = .iface 0 (.int .i64 c) := rfl

-- the values' own types

end Go.Proofs.Ytmmjmncchckbbaa.PIh
-- written by a program of this session (hprint.py), over the kit's printer
namespace Go.Proofs.Ytmmjmncchckbbaa.PIh
open Go.RowKit Go.Proofs.YtmmjmncchckbbaaW.PrintWords Go.Proofs.YtmmjmncchckbbaaW.PrintLast Go.Proofs.YtmmjmncchckbbaaW.PrintMore
attribute [local go_sem] max2_int min2_int max_two min_two max_three min_three max_four min_four   -- for this text's walks alone
set_option linter.unusedVariables false
set_option linter.unusedSimpArgs false

-- NOT PRINTED: function 55 (igmp_reader_take)

/-! ### addr_Of: function 63 -/
def addr_Of.l0 : Nat → Int → List Int → Int → Int → Option (Int × Int)
  | 0, _, _, _, _ => none
  | k + 1, x4, x15, x16, x17 => if x17 < x16 then (if 0 ≤ x17 then (if x17 < (x15.length : Int) then (addr_Of.l0 k (Go.bits .or .u32 ((x4 * 256) % 4294967296) ((rd x15 x17) % 4294967296)) x15 x16 (wrap64 (x17 + 1))) else (none)) else (none)) else (some (x4, 0))
def addr_Of.f (k : Nat) (l0 : List Int) : Option (Int × Int) := if (l0.length : Int) < 4 then (some (0, 3)) else (if (l0.length : Int) > 4 then (some (0, 2)) else (addr_Of.l0 k 0 l0 (l0.length : Int) 0))
theorem addr_Of.mono_l : ∀ k, (∀ y0 y1 y2 y3, LeO (addr_Of.l0 k y0 y1 y2 y3) (addr_Of.l0 (k + 1) y0 y1 y2 y3))
  | 0 => fun _ _ _ _ r h => by simp [addr_Of.l0] at h
  | k + 1 => by
    have ih0 := addr_Of.mono_l k
    · intro y0 y1 y2 y3
      unfold addr_Of.l0
      repeat' first
      | (with_reducible exact ih0 _ _ _ _)
      | (with_reducible exact LeO.refl _)
      | (with_reducible exact LeO.none _)
      | (with_reducible refine LeO.ite ?_ ?_)
      | (with_reducible refine LeO.bind ?_ (fun _ => ?_))
      | exact ih0 _ _ _ _
      | exact LeO.none _
      | refine LeO.ite ?_ ?_
      | refine LeO.bind ?_ (fun _ => ?_)
theorem addr_Of.mono : ∀ a0 k, LeO (addr_Of.f k a0) (addr_Of.f (k + 1) a0) := by
  intro a0 k
  have ih0 := addr_Of.mono_l k
  unfold addr_Of.f
  repeat' first
      | (with_reducible exact ih0 _ _ _ _)
      | (with_reducible exact LeO.refl _)
      | (with_reducible exact LeO.none _)
      | (with_reducible refine LeO.ite ?_ ?_)
      | (with_reducible refine LeO.bind ?_ (fun _ => ?_))
      | exact ih0 _ _ _ _
      | exact LeO.none _
      | refine LeO.ite ?_ ?_
      | refine LeO.bind ?_ (fun _ => ?_)
set_option maxHeartbeats 8000000 in
set_option maxRecDepth 100000 in
theorem addr_Of.calls (k : Nat) (A0 : Option Addr) (c0 : Nat) (l0 : List Int) (r1 : Int) (r2 : Int) (w : World) (hr0 : Kd.C (Kd.int .u8) w A0 l0.length l0) (hc0 : l0.length ≤ c0) (h : addr_Of.f k l0 = some (r1, r2)) :
    Calls Try.prog 63 #[.slice A0 l0.length c0] w fun e w' => e = .returned (.tuple #[.int .u32 r1, .int .i64 r2]) ∧ Drawn0 w w' := by
  have HR0 := Aside0.mk hr0
  have HC0 := Aside0.mk hc0
  clear hr0 hc0
  have H : (if (l0.length : Int) < 4 then (some (0, 3)) else (if (l0.length : Int) > 4 then (some (0, 2)) else (addr_Of.l0 k 0 l0 (l0.length : Int) 0))) = some (r1, r2) := h
  clear h
  by_cases c2 : (l0.length : Int) < 4
  · rw [if_pos c2] at H
    have c2b0 : decide ((l0.length : Int) < 4) = true := decide_eq_true c2
    have c2b1 : decide (l0.length < 4) = true := decide_eq_true (by omega)
    clear c2
    simp only [Option.some.injEq, Prod.mk.injEq] at H
    obtain ⟨rfl, rfl⟩ := H
    go_enter Try.func63, Try.ntmps63
    go_wp2
    go_ret2
    exact ⟨by first | rfl | (simp; done) | (simp [*]; done), by repeat (first | exact Drawn0.refl _ | apply Drawn0.step)⟩
  · rw [if_neg c2] at H
    have c2b0 : decide ((l0.length : Int) < 4) = false := decide_eq_false c2
    have c2b1 : decide (l0.length < 4) = false := decide_eq_false (by omega)
    clear c2
    by_cases c3 : (l0.length : Int) > 4
    · rw [if_pos c3] at H
      have c3b0 : decide (4 < (l0.length : Int)) = true := decide_eq_true c3
      have c3b1 : decide (4 < l0.length) = true := decide_eq_true (by omega)
      clear c3
      simp only [Option.some.injEq, Prod.mk.injEq] at H
      obtain ⟨rfl, rfl⟩ := H
      go_enter Try.func63, Try.ntmps63
      go_wp2
      go_ret2
      exact ⟨by first | rfl | (simp; done) | (simp [*]; done), by repeat (first | exact Drawn0.refl _ | apply Drawn0.step)⟩
    · rw [if_neg c3] at H
      have c3b0 : decide (4 < (l0.length : Int)) = false := decide_eq_false c3
      have c3b1 : decide (4 < l0.length) = false := decide_eq_false (by omega)
      clear c3
      have H' := Aside0.mk H
      clear H
      go_enter Try.func63, Try.ntmps63
      go_wp2
      go_loopg [4, 17] k (fun kq v4 v17 w' => ∃ (x4_1 : Int) (x17_1 : Int), v4 = .int .u32 x4_1 ∧ v17 = .int .i64 x17_1 ∧ Aside0 (addr_Of.l0 kq x4_1 l0 (l0.length : Int) x17_1 = some (r1, r2)) ∧ Aside0 (kq ≤ k) ∧ Drawn0 w w')
      case atStart => exact ⟨(0), (0), (by first | rfl | (simp; done) | (simp [*]; done)), (by first | rfl | (simp; done) | (simp [*]; done)), H', ⟨Nat.le_refl _⟩, by repeat (first | exact Drawn0.refl _ | apply Drawn0.step)⟩
      case round =>
        clear H'
        try clear c2
        try clear c2b0
        try clear c2b1
        try clear p2
        try clear c3
        try clear c3b0
        try clear c3b1
        obtain ⟨x4_1, x17_1, rfl, rfl, HA, HK1, ⟨m1, rfl⟩⟩ := hrel
        cases gk with
        | zero => exact absurd HA.out (by simp [addr_Of.l0])
        | succ k1 =>
          have H := HA.out
          clear HA
          simp only [addr_Of.l0] at H
          by_cases c4 : x17_1 < (l0.length : Int)
          · rw [if_pos c4] at H
            have c4b0 : decide (x17_1 < (l0.length : Int)) = true := decide_eq_true c4
            clear c4
            by_cases c5 : 0 ≤ x17_1
            · rw [if_pos c5] at H
              have c5b0 : decide (0 ≤ x17_1) = true := decide_eq_true c5
              clear c5
              by_cases c6 : x17_1 < (l0.length : Int)
              · rw [if_pos c6] at H
                have c6b0 : decide (x17_1 < (l0.length : Int)) = true := decide_eq_true c6
                clear c6
                have H' := Aside0.mk H
                clear H
                have p107 : 0 ≤ (x17_1 : Int) := of_decide_eq_true (by first | (with_reducible assumption) | assumption)
                have q107 : x17_1 < (l0.length : Int) := of_decide_eq_true (by first | (with_reducible assumption) | assumption)
                obtain ⟨ad107, e107, hx107_0⟩ := Kd.at_int HR0.out x17_1 p107 q107
                cases e107
                replace p107 := eq_true p107
                replace q107 := eq_true q107
                go_wp2
                go_roundg k1
                case measure => have := HK1.out; omega
                case rel => exact ⟨(Go.bits .or .u32 ((x4_1 * 256) % 4294967296) ((rd l0 x17_1) % 4294967296)), (wrap64 (x17_1 + 1)), (by first | rfl | (simp; done) | (simp [*]; done)), (by first | rfl | (simp; done) | (simp [*]; done)), H', ⟨by have := HK1.out; omega⟩, by repeat (first | exact Drawn0.refl _ | apply Drawn0.step)⟩
              · rw [if_neg c6] at H
                exact absurd H (by simp)
            · rw [if_neg c5] at H
              exact absurd H (by simp)
          · rw [if_neg c4] at H
            have c4b0 : decide (x17_1 < (l0.length : Int)) = false := decide_eq_false c4
            clear c4
            simp only [Option.some.injEq, Prod.mk.injEq] at H
            obtain ⟨rfl, rfl⟩ := H
            go_wp2
            go_ret2
            exact ⟨by first | rfl | (simp; done) | (simp [*]; done), by repeat (first | exact Drawn0.refl _ | apply Drawn0.step)⟩

-- NOT PRINTED: function 58 (igmp_reader_addr)

-- NOT PRINTED: function 56 (igmp_reader_addrs)

-- NOT PRINTED: function 57 (igmp_reader_two)

-- NOT PRINTED: function 43 (igmp_reader_report)

-- NOT PRINTED: function 42 (igmp_reader_plain)

-- NOT PRINTED: function 41 (igmp_reader_query)

end Go.Proofs.Ytmmjmncchckbbaa.PIh
/-
  The reader of messages: addresses.
-/
namespace Go.Proofs.Ytmmjmncchckbbaa
open Go.RowKit Go.Proofs.YtmmjmncchckbbaaW.PrintWords Go.Proofs.YtmmjmncchckbbaaW.PrintLast Go.Proofs.YtmmjmncchckbbaaW.PrintMore Go.Proofs.Ytmmjmncchckbbaa.PIg
set_option linter.unusedVariables false
set_option linter.unusedSimpArgs false
theorem rw64 {i : Int} (h0 : -9223372036854775808 ≤ i) (h1 : i ≤ 9223372036854775807) : wrap64 i = i := by unfold wrap64; omega
theorem or32 {x y : Int} (hx : 0 ≤ x) (hx1 : x < 16777216) (hy : 0 ≤ y) (hy1 : y < 256) : Go.bits .or .u32 ((x * 256) % 4294967296) (y % 4294967296) = x * 256 + y := by
  rw [show (x * 256) % 4294967296 = x * 256 from by omega, show y % 4294967296 = y from by omega]
  exact bits_join .u32 32 (by decide) (fun n h0 h1 => by rw [IntKind.wrap_u32]; omega) 8 _ _ (by omega) (by omega) (by omega) hy (by omega) (by omega)
theorem addr_of_some {a b c d : Int} (ha : 0 ≤ a ∧ a < 256) (hb : 0 ≤ b ∧ b < 256) (hc : 0 ≤ c ∧ c < 256) (hd : 0 ≤ d ∧ d < 256) (k : Nat) : PIh.addr_Of.f (k + 5) [a, b, c, d] = some (a * 16777216 + b * 65536 + c * 256 + d, 0) := by
  unfold PIh.addr_Of.f
  simp only [List.length_cons, List.length_nil]
  rw [if_neg (by omega), if_neg (by omega)]
  have e1 : wrap64 ((0 : Int) + 1) = 1 := (rw64 (by omega) (by omega)).trans (by omega)
  have e2 : wrap64 ((1 : Int) + 1) = 2 := (rw64 (by omega) (by omega)).trans (by omega)
  have e3 : wrap64 ((2 : Int) + 1) = 3 := (rw64 (by omega) (by omega)).trans (by omega)
  have e4 : wrap64 ((3 : Int) + 1) = 4 := (rw64 (by omega) (by omega)).trans (by omega)
  simp only [PIh.addr_Of.l0, List.length_cons, List.length_nil, e1, e2, e3, e4]
  rw [show rd [a, b, c, d] 0 = a from rfl, show rd [a, b, c, d] 1 = b from rfl, show rd [a, b, c, d] 2 = c from rfl, show rd [a, b, c, d] 3 = d from rfl]
  rw [or32 (by omega) (by omega) ha.1 ha.2, or32 (by omega) (by omega) hb.1 hb.2, or32 (by omega) (by omega) hc.1 hc.2, or32 (by omega) (by omega) hd.1 hd.2]
  simp
  omega

/-- The address of four bytes. -/
def av (x : List Int) : Int := rd x 0 * 16777216 + rd x 1 * 65536 + rd x 2 * 256 + rd x 3
theorem four_eq (x : List Int) (h : x.length = 4) : x = [rd x 0, rd x 1, rd x 2, rd x 3] := by
  match x, h with
  | [a, b, c, d], _ => rfl
theorem av_range {x : List Int} (h : Byt x) : 0 ≤ av x ∧ av x < 4294967296 := by
  have h0 := h.rd 0; have h1 := h.rd 1; have h2 := h.rd 2; have h3 := h.rd 3
  unfold av; omega
theorem of_w {x : List Int} (hx : Byt x) (hl : x.length = 4) (A : Option Addr) (c : Nat) (w : World) (hr : Kd.C (Kd.int .u8) w A x.length x) (hc : x.length ≤ c) :
    Calls Try.prog 63 #[.slice A x.length c] w fun e w' => e = .returned (.tuple #[.int .u32 (av x), .int .i64 0]) ∧ Below w.heap.size w w' :=
  (PIh.addr_Of.calls 5 A c x (av x) 0 w hr hc (by
    have h := addr_of_some (hx.rd 0) (hx.rd 1) (hx.rd 2) (hx.rd 3) 0
    rw [← four_eq x hl] at h
    exact h)).mono fun _ _ hh => ⟨hh.1, by obtain ⟨_, n, rfl⟩ := hh; exact pw_below_drewN (Below.refl _ _) _⟩
set_option maxHeartbeats 8000000 in
set_option maxRecDepth 100000 in
theorem addr_w {w0 w : World} {g : Nat} {A : Option Addr} {c : Nat} {bs : List Int} {k ver code grp rob every : Int} {quiet : Bool} {vS vR : Value} {sh : Bool} (hB : Below w0.heap.size w0 w) (hg : w0.heap.size ≤ g) (h : w.heap[g]? = some (.cells #[.slice A bs.length c, .int .u8 k, .int .i64 ver, .int .u8 code, .int .u32 grp, .bool quiet, .int .u8 rob, .int .u8 every, vS, vR, .bool sh] 66 (0, 0))) (hC : Kd.C (Kd.int .u8) w0 A bs.length bs) (hc : bs.length ≤ c) (hby : Byt bs) :
    Calls Try.prog 58 #[.pointer (some ⟨g, 0, none⟩)] w fun e w' => ∃ A2 c2, e = .returned (.int .u32 (av (tkx 4 bs sh))) ∧ w'.heap[g]? = some (.cells #[.slice A2 (tkb 4 bs sh).length c2, .int .u8 k, .int .i64 ver, .int .u8 code, .int .u32 grp, .bool quiet, .int .u8 rob, .int .u8 every, vS, vR, .bool (tks 4 bs sh)] 66 (0, 0)) ∧ Kd.C (Kd.int .u8) w0 A2 (tkb 4 bs sh).length (tkb 4 bs sh) ∧ (tkb 4 bs sh).length ≤ c2 ∧ RM w w' g := by
  have HB := Aside0.mk hB
  have HG := Aside0.mk hg
  have BK := Aside0.mk h
  have HC := Aside0.mk hC
  have HK := Aside0.mk hc
  clear hB hg h hC hc
  have HBY := Aside0.mk hby
  clear hby
  have hxl := tkx_len 4 bs sh
  have HXB := Aside0.mk (tkx_byt (m := 4) (sh := sh) HBY.out)
  have HXL := Aside0.mk hxl
  clear hxl
  go_enter Try.func58, Try.ntmps58
  go_wp2_with (first | (go_at_call 55; with_reducible refine (take_4 HB.out HG.out BK.out HC.out HK.out).mono ?_; rintro e w1 ⟨A1, c1, A2, c2, rfl, hV, hbx, hC2, hK2, hR⟩; have HV := Aside0.mk hV; have BX := Aside0.mk hbx; have HC2 := Aside0.mk hC2; have HK2 := Aside0.mk hK2; have HR := Aside0.mk hR; clear hV hbx hC2 hK2 hR) | (go_at_call 63; with_reducible refine (of_w HXB.out HXL.out _ _ _ (Kd.V_reads' HV.out).2.2 (Kd.V_reads' HV.out).2.1).mono ?_; rintro e w2 ⟨rfl, hb⟩; have Hb := Aside0.mk hb; clear hb))
  go_ret
  exact ⟨A2, c2, rfl, blk_below BX.out Hb.out, HC2.out, HK2.out, HR.out.trans (RM.of_below Hb.out)⟩
/-- So many addresses, as far as there are bytes: they, what stays, whether it was too short. -/
def ads : Nat → List Int → Bool → List Int × List Int × Bool
  | 0, bs, sh => ([], bs, sh)
  | n + 1, bs, sh => if sh = true then ([], bs, sh) else (av (tkx 4 bs sh) :: (ads n (tkb 4 bs sh) (tks 4 bs sh)).1, (ads n (tkb 4 bs sh) (tks 4 bs sh)).2)
theorem ads_sh (n : Nat) (bs : List Int) : ads n bs true = ([], bs, true) := by cases n <;> rfl
theorem ads_byt : ∀ (n : Nat) (bs : List Int) (sh : Bool), Byt bs → Byt (ads n bs sh).2.1
  | 0, bs, sh, h => h
  | n + 1, bs, sh, h => by
    unfold ads
    split
    · exact h
    · exact ads_byt n _ _ (tkb_byt h)
set_option maxHeartbeats 8000000 in
set_option maxRecDepth 100000 in
theorem addrs_r {w0 w : World} {g : Nat} {A : Option Addr} {c : Nat} {bs : List Int} {k ver code grp rob every : Int} {quiet : Bool} {vS vR : Value} {sh : Bool} (hB : Below w0.heap.size w0 w) (hg : w0.heap.size ≤ g) (h : w.heap[g]? = some (.cells #[.slice A bs.length c, .int .u8 k, .int .i64 ver, .int .u8 code, .int .u32 grp, .bool quiet, .int .u8 rob, .int .u8 every, vS, vR, .bool sh] 66 (0, 0))) (hC : Kd.C (Kd.int .u8) w0 A bs.length bs) (hc : bs.length ≤ c) (hby : Byt bs) (n : Nat) (hn : n ≤ 100000) :
    Calls Try.prog 56 #[.pointer (some ⟨g, 0, none⟩), .int .i64 n] w fun e w' => ∃ v A2 c2, e = .returned v ∧ Kd.R (Kd.int .u32) 23 w' w.heap.size (fun k => k ≠ g) v (ads n bs sh).1 ∧ w'.heap[g]? = some (.cells #[.slice A2 (ads n bs sh).2.1.length c2, .int .u8 k, .int .i64 ver, .int .u8 code, .int .u32 grp, .bool quiet, .int .u8 rob, .int .u8 every, vS, vR, .bool (ads n bs sh).2.2] 66 (0, 0)) ∧ Kd.C (Kd.int .u8) w0 A2 (ads n bs sh).2.1.length (ads n bs sh).2.1 ∧ (ads n bs sh).2.1.length ≤ c2 ∧ RM w w' g := by
  have HB := Aside0.mk hB
  have HG := Aside0.mk hg
  have BK := Aside0.mk h
  have HC := Aside0.mk hC
  have HK := Aside0.mk hc
  clear hB hg h hC hc
  have HBY := Aside0.mk hby
  have HN := Aside0.mk hn
  have HGW := Aside0.mk (blk_lt BK.out)
  clear hby hn
  go_enter Try.func56, Try.ntmps56
  go_wp2
  go_loopg [5, 6] n (fun gk v5 v6 w' => ∃ (i : Nat) (l b1 : List Int) (s1 : Bool) (A1 : Option Addr) (c1 : Nat), v6 = .int .i64 i ∧ Aside0 (i ≤ n ∧ gk = n - i ∧ l.length ≤ i) ∧ Aside0 (l ++ (ads (n - i) b1 s1).1 = (ads n bs sh).1 ∧ (ads (n - i) b1 s1).2 = (ads n bs sh).2) ∧ Aside0 (Kd.R (Kd.int .u32) 23 w' w.heap.size (fun k => k ≠ g) v5 l) ∧ Aside0 (w'.heap[g]? = some (.cells #[.slice A1 b1.length c1, .int .u8 k, .int .i64 ver, .int .u8 code, .int .u32 grp, .bool quiet, .int .u8 rob, .int .u8 every, vS, vR, .bool s1] 66 (0, 0))) ∧ Aside0 (Kd.C (Kd.int .u8) w0 A1 b1.length b1) ∧ Aside0 (b1.length ≤ c1) ∧ Aside0 (Byt b1) ∧ Aside0 (RM w w' g))
  case atStart => exact ⟨0, [], bs, sh, A, c, rfl, ⟨Nat.zero_le _, by omega, Nat.zero_le _⟩, ⟨rfl, rfl⟩, ⟨Kd.R_nil _ _ _ _ _⟩, BK, HC, HK, HBY, ⟨RM.of_below (Below.refl _ _)⟩⟩
  case round =>
    clear BK HC HK HBY
    obtain ⟨i, l, b1, s1, A1, c1, rfl, HI, HL, HO, BK, HC, HK, HBY, HR⟩ := hrel
    obtain ⟨hi, hgk, hll⟩ := HI.out
    by_cases hlt : i < n
    · have c5b0 : decide ((i : Int) < (n : Int)) = true := decide_eq_true (by omega)
      cases s1
      case true =>
        have hc_10 : wr.cell? ⟨g, 10, none⟩ = some (.bool true) := (blk_cell BK.out 10).trans rfl
        have hf_10 := blk_frozen BK.out 10
        go_wp2
        go_ret
        have hl := HL.out
        rw [ads_sh] at hl
        rw [← hl.1, ← hl.2, List.append_nil]
        exact ⟨_, A1, c1, rfl, HO.out, BK.out, HC.out, HK.out, HR.out⟩
      case false =>
        have hc_10 : wr.cell? ⟨g, 10, none⟩ = some (.bool false) := (blk_cell BK.out 10).trans rfl
        have hf_10 := blk_frozen BK.out 10
        have HBB := Aside0.mk (HR.out.below HB.out HG.out)
        obtain ⟨A_l, c_l, rfl⟩ := Kd.R_slice HO.out
        obtain ⟨x, hx⟩ : ∃ x_, x_ = av (tkx 4 b1 false) := ⟨_, rfl⟩
        have HX := Aside0.mk hx
        clear hx
        go_wp2_with (first | (go_at_call 58; with_reducible refine (addr_w HBB.out HG.out BK.out HC.out HK.out HBY.out).mono ?_; rintro e w1 ⟨A2, c2, rfl, hbx, hC2, hK2, hR⟩; have BX := Aside0.mk hbx; have HC2 := Aside0.mk hC2; have HK2 := Aside0.mk hK2; have HO2 := Aside0.mk (Kd.R_keep HO.out hR.keep (fun _ hk => hk)); have HR2 := Aside0.mk (HR.out.trans hR); clear hbx hC2 hK2 hR; rw [← HX.out]) | ((with_reducible refine gate_builtin (b := .append) (xs := #[.tmp 19, .tmp 22]) rfl ?_); at_builtin; refine Kd.R_append (Kd.int .u32) (w0 := w1) w.heap.size rfl (.tmp 19) (.tmp 22) 24 23 (.int .u32 0) 4 rfl Try.underlying24 info23 rfl (by decide) (by omega) _ l x [.int .u32 x] (fun k => k ≠ g) (fun _ => False) rfl rfl rfl (fun _ hk => hk.elim) (fun q hq e => by have h1 := blk_lt BX.out; omega) HO2.out (Below.refl _ _) HR2.out.keep.1 (by have := HN.out; omega) ?_; intro v1 w2 ho hb hg hat; have HO3 := Aside0.mk ho; have BX3 := Aside0.mk (blk_grown BX.out hg (fun e => (Kd.R_ne HO2.out BX.out (by decide)) e)); have HR3 := Aside0.mk (show RM w w2 g from ⟨⟨Nat.le_trans HR2.out.keep.1 hg.size, fun q hq hq1 _ => (hg.block q (Nat.lt_of_lt_of_le hq HR2.out.keep.1) (fun e => by have := Kd.R_base HO2.out q e.symm; omega)).trans (HR2.out.block hq hq1)⟩, HR2.out.out.trans (hb.mono (Nat.zero_le _))⟩); clear ho hb hg hat))
        go_roundg (n - (i + 1))
        case measure => omega
        case rel =>
          refine ⟨i + 1, l ++ [x], _, _, A2, c2, ?_, ⟨by omega, rfl, by simp; omega⟩, ⟨?_⟩, HO3, BX3, HC2, HK2, ⟨tkb_byt HBY.out⟩, HR3⟩
          · have hn := HN.out
            show Value.int .i64 (wrap64 ((i : Int) + 1)) = _
            rw [rw64 (by omega) (by omega)]
            rfl
          · have hl := HL.out
            rw [show n - i = (n - (i + 1)) + 1 from by omega] at hl
            simp only [ads, Bool.false_eq_true, if_false] at hl
            rw [← HX.out] at hl
            exact ⟨by rw [← hl.1]; simp, hl.2⟩
    · have c5b0 : decide ((i : Int) < (n : Int)) = false := decide_eq_false (by omega)
      go_wp2
      go_ret
      have hl := HL.out
      rw [show n - i = 0 from by omega] at hl
      simp only [ads] at hl
      rw [← hl.1, ← hl.2, List.append_nil]
      exact ⟨_, A1, c1, rfl, HO.out, BK.out, HC.out, HK.out, HR.out⟩
end Go.Proofs.Ytmmjmncchckbbaa
