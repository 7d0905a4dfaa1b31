/-
  The reader of messages: what take does.
-/
import Derived.Test.YtmmjmncchckbbaaPIgx3
import Derived.Test.YtmmjmncchckbbaaProg
import Derived.Below
import Derived.Deep.Draws
import Derived.Deep.AppendLies
import Derived.Maps.AppendAt
import Derived.OwnWalk
import Derived.Laws.BytesArg
import Derived.Laws.MakeOwn
import Derived.Laws.OwnMore
import Derived.Deep.OwnRows
import Derived.Tactics
import Derived.Lib.ConvBytes
import Derived.Laws.Slices
import Derived.WalkKit
import Derived.KernelRfl
import Derived.RowKit3
import Derived.Deep.LoopGhost
import Derived.Deep.QuietTactic
import Derived.BigQuiet
import Derived.WideLaws
import Derived.Deep.DeepCutAuto
import Derived.Deep.CutBlock
import Derived.Deep.RegionHeld3
import Derived.Laws.Rows
import Derived.Lib.AppendStr
import Derived.ArgAppend
import Derived.Laws.IdiomCopy
import Derived.OrdersHeld
import Derived.Laws.BitsLemmas
import Derived.RowKit
import Derived.Test.YtmmjmncchckbbaaWWords
import Derived.Test.YtmmjmncchckbbaaWLast
import Derived.Test.YtmmjmncchckbbaaWTab
import Derived.Test.YtmmjmncchckbbaaWQPut
import Derived.Test.YtmmjmncchckbbaaWApart
import Derived.Test.YtmmjmncchckbbaaWArr
import Derived.Test.YtmmjmncchckbbaaWZeros
import Derived.Test.YtmmjmncchckbbaaWFoot
import Derived.Test.YtmmjmncchckbbaaWKept
import Derived.Test.YtmmjmncchckbbaaWShare
import Derived.Test.YtmmjmncchckbbaaWN
import Derived.Test.YtmmjmncchckbbaaWRepsOne
import Derived.Test.YtmmjmncchckbbaaWGuard
import Derived.Test.YtmmjmncchckbbaaWNEv
import Derived.Test.YtmmjmncchckbbaaWMore
import Derived.MapFrom
import Derived.ChangeMaps4
namespace Go.Proofs.Ytmmjmncchckbbaa
open Go.RowKit Go.Proofs.YtmmjmncchckbbaaW.PrintWords Go.Proofs.YtmmjmncchckbbaaW.PrintLast Go.Proofs.YtmmjmncchckbbaaW.PrintMore Go.Proofs.Ytmmjmncchckbbaa.PIg
set_option linter.unusedVariables false
set_option linter.unusedSimpArgs false
/-- What a call on the reader at block g may have turned: its box. -/
structure RM (w w' : World) (g : Nat) : Prop where
  keep : KeepBut w w' g none
  out : Below 0 w w'
theorem RM.of_below {w w' : World} {g : Nat} (h : Below w.heap.size w w') : RM w w' g := ⟨KeepBut.of_below h g none, h.mono (Nat.zero_le _)⟩
theorem RM.trans {w w1 w2 : World} {g : Nat} (h : RM w w1 g) (k : RM w1 w2 g) : RM w w2 g := ⟨h.keep.trans k.keep (.inl rfl), h.out.trans k.out⟩
theorem RM.set {w w1 : World} {g : Nat} (h : RM w w1 g) (j : Nat) (u : Value) : RM w (w1.setCell ⟨g, j, none⟩ u) g :=
  ⟨h.keep.set_ j u, ⟨h.out.os, h.out.tape, h.out.output, by simpa [World.setCell] using h.keep.1, fun q hq => absurd hq (Nat.not_lt_zero _)⟩⟩
theorem RM.block {w w' : World} {g b : Nat} (h : RM w w' g) (hb : b < w.heap.size) (h1 : b ≠ g) : w'.heap[b]? = w.heap[b]? := h.keep.2 b hb h1 (by simp)
theorem RM.V {α : Type} {d : Kd α} {e b : Nat} {u : Value} {xs : List α} {w w' : World} {g : Nat} (h : RM w w' g) (hV : Kd.V d e w b (fun k => k ≠ g) u xs) : Kd.V d e w' b (fun k => k ≠ g) u xs := Kd.V_keep hV h.keep (fun _ hk => hk)
theorem RM.below {w0 w w' : World} {g : Nat} (h : RM w w' g) (hB : Below w0.heap.size w0 w) (hg : w0.heap.size ≤ g) : Below w0.heap.size w0 w' :=
  ⟨h.out.os.trans hB.os, h.out.tape.trans hB.tape, h.out.output.trans hB.output, Nat.le_trans hB.size h.keep.1, fun q hq => (h.block (Nat.lt_of_lt_of_le hq hB.size) (by omega)).trans (hB.block q hq)⟩
/-- What take takes, what stays, whether it was too short. -/
def tkx (m : Nat) (bs : List Int) (sh : Bool) : List Int := if sh = true ∨ bs.length < m then List.replicate m 0 else bs.take m
def tkb (m : Nat) (bs : List Int) (sh : Bool) : List Int := if sh = true ∨ bs.length < m then bs else bs.drop m
def tks (m : Nat) (bs : List Int) (sh : Bool) : Bool := sh || decide (bs.length < m)
theorem tkx_len (m : Nat) (bs : List Int) (sh : Bool) : (tkx m bs sh).length = m := by
  unfold tkx
  split
  · simp
  · rename_i h
    have h2 : ¬ bs.length < m := fun h' => h (.inr h')
    rw [List.length_take]; omega
set_option maxHeartbeats 8000000 in
set_option maxRecDepth 100000 in
theorem take_short {w0 w : World} {g : Nat} {A : Option Addr} {c : Nat} {bs : List Int} {k ver code grp rob every : Int} {quiet : Bool} {vS vR : Value} {sh : Bool} (hB : Below w0.heap.size w0 w) (hg : w0.heap.size ≤ g) (h : w.heap[g]? = some (.cells #[.slice A bs.length c, .int .u8 k, .int .i64 ver, .int .u8 code, .int .u32 grp, .bool quiet, .int .u8 rob, .int .u8 every, vS, vR, .bool sh] 66 (0, 0))) (hC : Kd.C (Kd.int .u8) w0 A bs.length bs) (hc : bs.length ≤ c) (m : Nat) (hm : m ≤ 1000) (hs : sh = true ∨ bs.length < m) :
    Calls Try.prog 55 #[.pointer (some ⟨g, 0, none⟩), .int .i64 m] w fun e w' => ∃ A1 c1 A2 c2, e = .returned (.slice A1 (tkx m bs sh).length c1) ∧ Kd.V (Kd.int .u8) 5 w' 0 (fun k => k ≠ g) (.slice A1 (tkx m bs sh).length c1) (tkx m bs sh) ∧ w'.heap[g]? = some (.cells #[.slice A2 (tkb m bs sh).length c2, .int .u8 k, .int .i64 ver, .int .u8 code, .int .u32 grp, .bool quiet, .int .u8 rob, .int .u8 every, vS, vR, .bool (tks m bs sh)] 66 (0, 0)) ∧ Kd.C (Kd.int .u8) w0 A2 (tkb m bs sh).length (tkb m bs sh) ∧ (tkb m bs sh).length ≤ c2 ∧ RM w w' g := by
  rw [show tkx m bs sh = List.replicate m 0 from if_pos hs, show tkb m bs sh = bs from if_pos hs, show tks m bs sh = true from by unfold tks; rcases hs with rfl | h'; { rfl }; { rw [decide_eq_true h']; simp }]
  obtain ⟨z, hz⟩ : ∃ z_, z_ = List.replicate m (0 : Int) := ⟨_, rfl⟩
  rw [← hz]
  have HZ := Aside0.mk hz
  clear hz
  have HM := Aside0.mk hm
  cases sh
  case true =>
    have HB := Aside0.mk hB
    have HG := Aside0.mk hg
    have BK := Aside0.mk h
    have HC := Aside0.mk hC
    have HK := Aside0.mk hc
    clear hB hg h hC hc
    have hc_0 : w.cell? ⟨g, 0, none⟩ = some (.slice A bs.length c) := (blk_cell BK.out 0).trans rfl
    have hf_0 := blk_frozen BK.out 0
    have hc_10 : w.cell? ⟨g, 10, none⟩ = some (.bool true) := (blk_cell BK.out 10).trans rfl
    have hf_10 := blk_frozen BK.out 10
    clear hs
    go_enter Try.func55, Try.ntmps55
    go_upto_region 3 with fail
    have hBK : (w.setCell ⟨g, 10, none⟩ (.bool true)).heap[g]? = some (.cells #[.slice A bs.length c, .int .u8 k, .int .i64 ver, .int .u8 code, .int .u32 grp, .bool quiet, .int .u8 rob, .int .u8 every, vS, vR, .bool true] 66 (0, 0)) := blk_put (cs := #[.slice A bs.length c, .int .u8 k, .int .i64 ver, .int .u8 code, .int .u32 grp, .bool quiet, .int .u8 rob, .int .u8 every, vS, vR, .bool true]) BK.out 10 (.bool true) rfl
    have hR := (RM.of_below (g := g) (Below.refl w.heap.size w)).set 10 (.bool true)
    clear hc_0 hf_0 hc_10 hf_10 BK
    generalize w.setCell ⟨g, 10, none⟩ (.bool true) = ws at hBK hR ⊢
    have BK := Aside0.mk hBK
    have HR := Aside0.mk hR
    clear hBK hR
    go_wp2_with (first | ((with_reducible refine gate_dst (N := 23) rfl ?_); refine Kd.R_make (Kd.int .u8) (w0 := ws) ws.heap.size 5 rfl rfl 30 (.tmp 22) (.tmp 22) rfl (m : Int) rfl rfl Try.underlying30 (.int .u8 0) 1 Try.info5 rfl (by decide) (by decide) 0 (ok := fun _ => True) (okp := fun _ => True) rfl (fun _ h => h) trivial (by omega) (by have := HM.out; omega) (Below.refl _ _) (Nat.le_refl _) ?_; intro v1 w1 hV hb hg_ hn_; clear hg_ hn_; rw [Int.toNat_natCast, ← HZ.out] at hV; obtain ⟨A1, c1, rfl⟩ := Kd.R_slice hV; have HV := Aside0.mk hV; have Hb := Aside0.mk hb; clear hV hb))
    go_ret
    have hlt1 := blk_lt BK.out
    exact ⟨A1, c1, A, c, rfl, Kd.V_mono (Kd.R_V (Kd.R_bound HV.out)) (fun q hq e => by have := hq.2.1; omega), blk_below BK.out Hb.out, HC.out, HK.out, HR.out.trans (RM.of_below Hb.out)⟩
  case false =>
    have HB := Aside0.mk hB
    have HG := Aside0.mk hg
    have BK := Aside0.mk h
    have HC := Aside0.mk hC
    have HK := Aside0.mk hc
    clear hB hg h hC hc
    have hc_0 : w.cell? ⟨g, 0, none⟩ = some (.slice A bs.length c) := (blk_cell BK.out 0).trans rfl
    have hf_0 := blk_frozen BK.out 0
    have hc_10 : w.cell? ⟨g, 10, none⟩ = some (.bool false) := (blk_cell BK.out 10).trans rfl
    have hf_10 := blk_frozen BK.out 10
    have hlt : decide ((bs.length : Int) < (m : Int)) = true := decide_eq_true (by simp at hs; omega)
    have hltn : bs.length < m := by simp at hs; exact hs
    clear hs
    go_enter Try.func55, Try.ntmps55
    go_upto_region 3 with fail
    have hBK : (w.setCell ⟨g, 10, none⟩ (.bool true)).heap[g]? = some (.cells #[.slice A bs.length c, .int .u8 k, .int .i64 ver, .int .u8 code, .int .u32 grp, .bool quiet, .int .u8 rob, .int .u8 every, vS, vR, .bool true] 66 (0, 0)) := blk_put (cs := #[.slice A bs.length c, .int .u8 k, .int .i64 ver, .int .u8 code, .int .u32 grp, .bool quiet, .int .u8 rob, .int .u8 every, vS, vR, .bool false]) BK.out 10 (.bool true) rfl
    have hR := (RM.of_below (g := g) (Below.refl w.heap.size w)).set 10 (.bool true)
    clear hc_0 hf_0 hc_10 hf_10 BK
    generalize w.setCell ⟨g, 10, none⟩ (.bool true) = ws at hBK hR ⊢
    have BK := Aside0.mk hBK
    have HR := Aside0.mk hR
    clear hBK hR
    go_wp2_with (first | ((with_reducible refine gate_dst (N := 23) rfl ?_); refine Kd.R_make (Kd.int .u8) (w0 := ws) ws.heap.size 5 rfl rfl 30 (.tmp 22) (.tmp 22) rfl (m : Int) rfl rfl Try.underlying30 (.int .u8 0) 1 Try.info5 rfl (by decide) (by decide) 0 (ok := fun _ => True) (okp := fun _ => True) rfl (fun _ h => h) trivial (by omega) (by have := HM.out; omega) (Below.refl _ _) (Nat.le_refl _) ?_; intro v1 w1 hV hb hg_ hn_; clear hg_ hn_; rw [Int.toNat_natCast, ← HZ.out] at hV; obtain ⟨A1, c1, rfl⟩ := Kd.R_slice hV; have HV := Aside0.mk hV; have Hb := Aside0.mk hb; clear hV hb))
    go_ret
    have hlt1 := blk_lt BK.out
    exact ⟨A1, c1, A, c, rfl, Kd.V_mono (Kd.R_V (Kd.R_bound HV.out)) (fun q hq e => by have := hq.2.1; omega), blk_below BK.out Hb.out, HC.out, HK.out, HR.out.trans (RM.of_below Hb.out)⟩
set_option maxHeartbeats 8000000 in
set_option maxRecDepth 100000 in
theorem take_ok {w0 w : World} {g : Nat} {A : Option Addr} {c : Nat} {bs : List Int} {k ver code grp rob every : Int} {quiet : Bool} {vS vR : Value} {sh : Bool} (hB : Below w0.heap.size w0 w) (hg : w0.heap.size ≤ g) (h : w.heap[g]? = some (.cells #[.slice A bs.length c, .int .u8 k, .int .i64 ver, .int .u8 code, .int .u32 grp, .bool quiet, .int .u8 rob, .int .u8 every, vS, vR, .bool sh] 66 (0, 0))) (hC : Kd.C (Kd.int .u8) w0 A bs.length bs) (hc : bs.length ≤ c) (m : Nat) (hm : m ≤ 1000) (hs : ¬ (sh = true ∨ bs.length < m)) :
    Calls Try.prog 55 #[.pointer (some ⟨g, 0, none⟩), .int .i64 m] w fun e w' => ∃ A1 c1 A2 c2, e = .returned (.slice A1 (tkx m bs sh).length c1) ∧ Kd.V (Kd.int .u8) 5 w' 0 (fun k => k ≠ g) (.slice A1 (tkx m bs sh).length c1) (tkx m bs sh) ∧ w'.heap[g]? = some (.cells #[.slice A2 (tkb m bs sh).length c2, .int .u8 k, .int .i64 ver, .int .u8 code, .int .u32 grp, .bool quiet, .int .u8 rob, .int .u8 every, vS, vR, .bool (tks m bs sh)] 66 (0, 0)) ∧ Kd.C (Kd.int .u8) w0 A2 (tkb m bs sh).length (tkb m bs sh) ∧ (tkb m bs sh).length ≤ c2 ∧ RM w w' g := by
  obtain rfl : sh = false := by cases sh <;> simp_all
  have hml : m ≤ bs.length := by simp at hs; exact hs
  rw [show tkx m bs false = bs.take m from if_neg hs, show tkb m bs false = bs.drop m from if_neg hs, show tks m bs false = false from by unfold tks; rw [decide_eq_false (by omega)]; rfl]
  clear hs
  have HB := Aside0.mk hB
  have HG := Aside0.mk hg
  have BK := Aside0.mk h
  have HC := Aside0.mk hC
  have HK := Aside0.mk hc
  clear hB hg h hC hc
  have hc_0 : w.cell? ⟨g, 0, none⟩ = some (.slice A bs.length c) := (blk_cell BK.out 0).trans rfl
  have hf_0 := blk_frozen BK.out 0
  have hc_10 : w.cell? ⟨g, 10, none⟩ = some (.bool false) := (blk_cell BK.out 10).trans rfl
  have hf_10 := blk_frozen BK.out 10
  have hlt : decide ((bs.length : Int) < (m : Int)) = false := decide_eq_false (by omega)
  have hltn : ¬ bs.length < m := by omega
  obtain ⟨i_, hi_, _, hz_, _⟩ := info_parts Try.info5
  obtain ⟨hcutx, hAx, hKx⟩ := print_take_of (P := Try.prog) (Value.int .u8) 0 30 5 .i64 Try.underlying30 hi_ hz_ A c bs (m : Int) (by omega) (by omega) HK.out
  obtain ⟨A2, hcutb, hAb, hKb⟩ := print_drop_of (P := Try.prog) (Value.int .u8) 0 30 5 .i64 Try.underlying30 hi_ hz_ A c bs (m : Int) (by omega) (by omega) HK.out
  rw [Int.toNat_natCast] at hAx hKx hAb hKb
  simp only [Int.toNat_natCast] at hcutx hcutb
  obtain ⟨x, hx⟩ : ∃ x_, x_ = bs.take m := ⟨_, rfl⟩
  obtain ⟨y, hy⟩ : ∃ y_, y_ = bs.drop m := ⟨_, rfl⟩
  rw [← hx] at hAx hKx hcutx ⊢
  rw [← hy] at hAb hKb hcutb ⊢
  have HX0 := Aside0.mk (show Kd.C (Kd.int .u8) w0 A x.length x from Kd.C_of_reads (h1 := fun _ => rfl) (hAx w0 (Kd.reads_of_C HC.out)))
  have HY := Aside0.mk (show Kd.C (Kd.int .u8) w0 A2 y.length y from Kd.C_of_reads (h1 := fun _ => rfl) (hAb w0 (Kd.reads_of_C HC.out)))
  have HKX := Aside0.mk hKx
  have HKY := Aside0.mk hKb
  clear hAx hAb hKx hKb hi_ hz_ hx hy
  go_enter Try.func55, Try.ntmps55
  go_wp2
  go_ret
  refine ⟨A, c, A2, c - m, rfl, ?_, blk_put (cs := #[.slice A bs.length c, .int .u8 k, .int .i64 ver, .int .u8 code, .int .u32 grp, .bool quiet, .int .u8 rob, .int .u8 every, vS, vR, .bool false]) BK.out 0 (.slice A2 y.length (c - m)) rfl, HY.out, HKY.out, (RM.of_below (g := g) (Below.refl w.heap.size w)).set 0 _⟩
  exact ((RM.of_below (g := g) (Below.refl w.heap.size w)).set 0 _).V (Kd.V_mono (Kd.V_mk (e := 5) (base := 0) HKX.out (Kd.F_below (Kd.C_F (Kd.heap_int .u8) HX0.out) HB.out)) (fun q hq e => by have := HG.out; omega))
theorem take_w {w0 w : World} {g : Nat} {A : Option Addr} {c : Nat} {bs : List Int} {k ver code grp rob every : Int} {quiet : Bool} {vS vR : Value} {sh : Bool} (hB : Below w0.heap.size w0 w) (hg : w0.heap.size ≤ g) (h : w.heap[g]? = some (.cells #[.slice A bs.length c, .int .u8 k, .int .i64 ver, .int .u8 code, .int .u32 grp, .bool quiet, .int .u8 rob, .int .u8 every, vS, vR, .bool sh] 66 (0, 0))) (hC : Kd.C (Kd.int .u8) w0 A bs.length bs) (hc : bs.length ≤ c) (m : Nat) (hm : m ≤ 1000) :
    Calls Try.prog 55 #[.pointer (some ⟨g, 0, none⟩), .int .i64 m] w fun e w' => ∃ A1 c1 A2 c2, e = .returned (.slice A1 (tkx m bs sh).length c1) ∧ Kd.V (Kd.int .u8) 5 w' 0 (fun k => k ≠ g) (.slice A1 (tkx m bs sh).length c1) (tkx m bs sh) ∧ w'.heap[g]? = some (.cells #[.slice A2 (tkb m bs sh).length c2, .int .u8 k, .int .i64 ver, .int .u8 code, .int .u32 grp, .bool quiet, .int .u8 rob, .int .u8 every, vS, vR, .bool (tks m bs sh)] 66 (0, 0)) ∧ Kd.C (Kd.int .u8) w0 A2 (tkb m bs sh).length (tkb m bs sh) ∧ (tkb m bs sh).length ≤ c2 ∧ RM w w' g := by
  by_cases hs : sh = true ∨ bs.length < m
  · exact take_short hB hg h hC hc m hm hs
  · exact take_ok hB hg h hC hc m hm hs
theorem take_4 {w0 w : World} {g : Nat} {A : Option Addr} {c : Nat} {bs : List Int} {k ver code grp rob every : Int} {quiet : Bool} {vS vR : Value} {sh : Bool} (hB : Below w0.heap.size w0 w) (hg : w0.heap.size ≤ g) (h : w.heap[g]? = some (.cells #[.slice A bs.length c, .int .u8 k, .int .i64 ver, .int .u8 code, .int .u32 grp, .bool quiet, .int .u8 rob, .int .u8 every, vS, vR, .bool sh] 66 (0, 0))) (hC : Kd.C (Kd.int .u8) w0 A bs.length bs) (hc : bs.length ≤ c) :
    Calls Try.prog 55 #[.pointer (some ⟨g, 0, none⟩), .int .i64 4] w fun e w' => ∃ A1 c1 A2 c2, e = .returned (.slice A1 (tkx 4 bs sh).length c1) ∧ Kd.V (Kd.int .u8) 5 w' 0 (fun k => k ≠ g) (.slice A1 (tkx 4 bs sh).length c1) (tkx 4 bs sh) ∧ w'.heap[g]? = some (.cells #[.slice A2 (tkb 4 bs sh).length c2, .int .u8 k, .int .i64 ver, .int .u8 code, .int .u32 grp, .bool quiet, .int .u8 rob, .int .u8 every, vS, vR, .bool (tks 4 bs sh)] 66 (0, 0)) ∧ Kd.C (Kd.int .u8) w0 A2 (tkb 4 bs sh).length (tkb 4 bs sh) ∧ (tkb 4 bs sh).length ≤ c2 ∧ RM w w' g := take_w hB hg h hC hc 4 (by decide)
/-- A row of bytes. -/
def Byt (l : List Int) : Prop := ∀ z ∈ l, 0 ≤ z ∧ z < 256
theorem Byt.rd {a : List Int} (ha : Byt a) (i : Int) : 0 ≤ rd a i ∧ rd a i < 256 := by
  show 0 ≤ a.getD i.toNat 0 ∧ a.getD i.toNat 0 < 256
  rw [List.getD_eq_getElem?_getD]
  rcases Nat.lt_or_ge i.toNat a.length with h | h
  · rw [List.getElem?_eq_getElem h]; exact ha _ (List.getElem_mem _)
  · rw [List.getElem?_eq_none h]; simp
theorem tkx_byt {m : Nat} {bs : List Int} {sh : Bool} (h : Byt bs) : Byt (tkx m bs sh) := by
  unfold tkx
  split
  · intro z hz; rw [List.eq_of_mem_replicate hz]; omega
  · exact fun z hz => h z (List.mem_of_mem_take hz)
theorem idx_cell {w : World} {ad : Addr} {l : List Int} (h : Kd.C (Kd.int .u8) w (some ad) l.length l) (n : Nat) (h0 : n ≠ 0) (hn : n < l.length) : w.cell? ⟨ad.block, ad.off + n, none⟩ = some (.int .u8 (rd l (n : Int))) := by
  obtain ⟨a2, e, hx⟩ := Kd.at_int h (n : Int) (by omega) (by omega)
  cases e
  rw [Int.toNat_natCast] at hx
  simpa [Addr.add, h0] using hx
theorem idx_cell0 {w : World} {ad : Addr} {l : List Int} (h : Kd.C (Kd.int .u8) w (some ad) l.length l) (hn : 0 < l.length) : w.cell? ad = some (.int .u8 (rd l 0)) := by
  obtain ⟨a2, e, hx⟩ := Kd.at_int h 0 (by omega) (by omega)
  cases e
  simpa [Addr.add] using hx
end Go.Proofs.Ytmmjmncchckbbaa
-- written by a program of this session (hprint.py), over the kit's printer






namespace Go.Proofs.Ytmmjmncchckbbaa.PIh
open Go.RowKit Go.Proofs.YtmmjmncchckbbaaW.PrintWords Go.Proofs.YtmmjmncchckbbaaW.PrintLast Go.Proofs.YtmmjmncchckbbaaW.PrintMore
attribute [local go_sem] max2_int min2_int max_two min_two max_three min_three max_four min_four   -- for this text's walks alone
set_option linter.unusedVariables false
set_option linter.unusedSimpArgs false



def errW : Option Int → Value
  | none => .nilIface
  | some c => .iface 0 (.int .i64 c)
theorem errW_none : errW none = .nilIface := rfl
theorem errW_some (c : Int) : errW (some c) = .iface 0 (.int .i64 c) := rfl

-- the values' own types

end Go.Proofs.Ytmmjmncchckbbaa.PIh
-- written by a program of this session (hprint.py), over the kit's printer
namespace Go.Proofs.Ytmmjmncchckbbaa.PIh
open Go.RowKit Go.Proofs.YtmmjmncchckbbaaW.PrintWords Go.Proofs.YtmmjmncchckbbaaW.PrintLast Go.Proofs.YtmmjmncchckbbaaW.PrintMore
attribute [local go_sem] max2_int min2_int max_two min_two max_three min_three max_four min_four   -- for this text's walks alone
set_option linter.unusedVariables false
set_option linter.unusedSimpArgs false

-- NOT PRINTED: function 55 (igmp_reader_take)

/-! ### addr_Of: function 63 -/
def addr_Of.l0 : Nat → Int → List Int → Int → Int → Option (Int × Int)
  | 0, _, _, _, _ => none
  | k + 1, x4, x15, x16, x17 => if x17 < x16 then (if 0 ≤ x17 then (if x17 < (x15.length : Int) then (addr_Of.l0 k (Go.bits .or .u32 ((x4 * 256) % 4294967296) ((rd x15 x17) % 4294967296)) x15 x16 (wrap64 (x17 + 1))) else (none)) else (none)) else (some (x4, 0))
def addr_Of.f (k : Nat) (l0 : List Int) : Option (Int × Int) := if (l0.length : Int) < 4 then (some (0, 3)) else (if (l0.length : Int) > 4 then (some (0, 2)) else (addr_Of.l0 k 0 l0 (l0.length : Int) 0))
theorem addr_Of.mono_l : ∀ k, (∀ y0 y1 y2 y3, LeO (addr_Of.l0 k y0 y1 y2 y3) (addr_Of.l0 (k + 1) y0 y1 y2 y3))
  | 0 => fun _ _ _ _ r h => by simp [addr_Of.l0] at h
  | k + 1 => by
    have ih0 := addr_Of.mono_l k
    · intro y0 y1 y2 y3
      unfold addr_Of.l0
      repeat' first
      | (with_reducible exact ih0 _ _ _ _)
      | (with_reducible exact LeO.refl _)
      | (with_reducible exact LeO.none _)
      | (with_reducible refine LeO.ite ?_ ?_)
      | (with_reducible refine LeO.bind ?_ (fun _ => ?_))
      | exact ih0 _ _ _ _
      | exact LeO.none _
      | refine LeO.ite ?_ ?_
      | refine LeO.bind ?_ (fun _ => ?_)
theorem addr_Of.mono : ∀ a0 k, LeO (addr_Of.f k a0) (addr_Of.f (k + 1) a0) := by
  intro a0 k
  have ih0 := addr_Of.mono_l k
  unfold addr_Of.f
  repeat' first
      | (with_reducible exact ih0 _ _ _ _)
      | (with_reducible exact LeO.refl _)
      | (with_reducible exact LeO.none _)
      | (with_reducible refine LeO.ite ?_ ?_)
      | (with_reducible refine LeO.bind ?_ (fun _ => ?_))
      | exact ih0 _ _ _ _
      | exact LeO.none _
      | refine LeO.ite ?_ ?_
      | refine LeO.bind ?_ (fun _ => ?_)
set_option maxHeartbeats 8000000 in
set_option maxRecDepth 100000 in
theorem addr_Of.calls (k : Nat) (A0 : Option Addr) (c0 : Nat) (l0 : List Int) (r1 : Int) (r2 : Int) (w : World) (hr0 : Kd.C (Kd.int .u8) w A0 l0.length l0) (hc0 : l0.length ≤ c0) (h : addr_Of.f k l0 = some (r1, r2)) :
    Calls Try.prog 63 #[.slice A0 l0.length c0] w fun e w' => e = .returned (.tuple #[.int .u32 r1, .int .i64 r2]) ∧ Drawn0 w w' := by
  have HR0 := Aside0.mk hr0
  have HC0 := Aside0.mk hc0
  clear hr0 hc0
  have H : (if (l0.length : Int) < 4 then (some (0, 3)) else (if (l0.length : Int) > 4 then (some (0, 2)) else (addr_Of.l0 k 0 l0 (l0.length : Int) 0))) = some (r1, r2) := h
  clear h
  by_cases c2 : (l0.length : Int) < 4
  · rw [if_pos c2] at H
    have c2b0 : decide ((l0.length : Int) < 4) = true := decide_eq_true c2
    have c2b1 : decide (l0.length < 4) = true := decide_eq_true (by omega)
    clear c2
    simp only [Option.some.injEq, Prod.mk.injEq] at H
    obtain ⟨rfl, rfl⟩ := H
    go_enter Try.func63, Try.ntmps63
    go_wp2
    go_ret2
    exact ⟨by first | rfl | (simp; done) | (simp [*]; done), by repeat (first | exact Drawn0.refl _ | apply Drawn0.step)⟩
  · rw [if_neg c2] at H
    have c2b0 : decide ((l0.length : Int) < 4) = false := decide_eq_false c2
    have c2b1 : decide (l0.length < 4) = false := decide_eq_false (by omega)
    clear c2
    by_cases c3 : (l0.length : Int) > 4
    · rw [if_pos c3] at H
      have c3b0 : decide (4 < (l0.length : Int)) = true := decide_eq_true c3
      have c3b1 : decide (4 < l0.length) = true := decide_eq_true (by omega)
      clear c3
      simp only [Option.some.injEq, Prod.mk.injEq] at H
      obtain ⟨rfl, rfl⟩ := H
      go_enter Try.func63, Try.ntmps63
      go_wp2
      go_ret2
      exact ⟨by first | rfl | (simp; done) | (simp [*]; done), by repeat (first | exact Drawn0.refl _ | apply Drawn0.step)⟩
    · rw [if_neg c3] at H
      have c3b0 : decide (4 < (l0.length : Int)) = false := decide_eq_false c3
      have c3b1 : decide (4 < l0.length) = false := decide_eq_false (by omega)
      clear c3
      have H' := Aside0.mk H
      clear H
      go_enter Try.func63, Try.ntmps63
      go_wp2
      go_loopg [4, 17] k (fun kq v4 v17 w' => ∃ (x4_1 : Int) (x17_1 : Int), v4 = .int .u32 x4_1 ∧ v17 = .int .i64 x17_1 ∧ Aside0 (addr_Of.l0 kq x4_1 l0 (l0.length : Int) x17_1 = some (r1, r2)) ∧ Aside0 (kq ≤ k) ∧ Drawn0 w w')
      case atStart => exact ⟨(0), (0), (by first | rfl | (simp; done) | (simp [*]; done)), (by first | rfl | (simp; done) | (simp [*]; done)), H', ⟨Nat.le_refl _⟩, by repeat (first | exact Drawn0.refl _ | apply Drawn0.step)⟩
      case round =>
        clear H'
        try clear c2
        try clear c2b0
        try clear c2b1
        try clear p2
        try clear c3
        try clear c3b0
        try clear c3b1
        obtain ⟨x4_1, x17_1, rfl, rfl, HA, HK1, ⟨m1, rfl⟩⟩ := hrel
        cases gk with
        | zero => exact absurd HA.out (by simp [addr_Of.l0])
        | succ k1 =>
          have H := HA.out
          clear HA
          simp only [addr_Of.l0] at H
          by_cases c4 : x17_1 < (l0.length : Int)
          · rw [if_pos c4] at H
            have c4b0 : decide (x17_1 < (l0.length : Int)) = true := decide_eq_true c4
            clear c4
            by_cases c5 : 0 ≤ x17_1
            · rw [if_pos c5] at H
              have c5b0 : decide (0 ≤ x17_1) = true := decide_eq_true c5
              clear c5
              by_cases c6 : x17_1 < (l0.length : Int)
              · rw [if_pos c6] at H
                have c6b0 : decide (x17_1 < (l0.length : Int)) = true := decide_eq_true c6
                clear c6
                have H' := Aside0.mk H
                clear H
                have p107 : 0 ≤ (x17_1 : Int) := of_decide_eq_true (by first | (with_reducible assumption) | assumption)
                have q107 : x17_1 < (l0.length : Int) := of_decide_eq_true (by first | (with_reducible assumption) | assumption)
                obtain ⟨ad107, e107, hx107_0⟩ := Kd.at_int HR0.out x17_1 p107 q107
                cases e107
                replace p107 := eq_true p107
                replace q107 := eq_true q107
                go_wp2
                go_roundg k1
                case measure => have := HK1.out; omega
                case rel => exact ⟨(Go.bits .or .u32 ((x4_1 * 256) % 4294967296) ((rd l0 x17_1) % 4294967296)), (wrap64 (x17_1 + 1)), (by first | rfl | (simp; done) | (simp [*]; done)), (by first | rfl | (simp; done) | (simp [*]; done)), H', ⟨by have := HK1.out; omega⟩, by repeat (first | exact Drawn0.refl _ | apply Drawn0.step)⟩
              · rw [if_neg c6] at H
                exact absurd H (by simp)
            · rw [if_neg c5] at H
              exact absurd H (by simp)
          · rw [if_neg c4] at H
            have c4b0 : decide (x17_1 < (l0.length : Int)) = false := decide_eq_false c4
            clear c4
            simp only [Option.some.injEq, Prod.mk.injEq] at H
            obtain ⟨rfl, rfl⟩ := H
            go_wp2
            go_ret2
            exact ⟨by first | rfl | (simp; done) | (simp [*]; done), by repeat (first | exact Drawn0.refl _ | apply Drawn0.step)⟩

-- NOT PRINTED: function 58 (igmp_reader_addr)

-- NOT PRINTED: function 56 (igmp_reader_addrs)

-- NOT PRINTED: function 57 (igmp_reader_two)

-- NOT PRINTED: function 43 (igmp_reader_report)

-- NOT PRINTED: function 42 (igmp_reader_plain)

-- NOT PRINTED: function 41 (igmp_reader_query)

end Go.Proofs.Ytmmjmncchckbbaa.PIh
/-
  The reader of messages: addresses.
-/
namespace Go.Proofs.Ytmmjmncchckbbaa
open Go.RowKit Go.Proofs.YtmmjmncchckbbaaW.PrintWords Go.Proofs.YtmmjmncchckbbaaW.PrintLast Go.Proofs.YtmmjmncchckbbaaW.PrintMore Go.Proofs.Ytmmjmncchckbbaa.PIg
set_option linter.unusedVariables false
set_option linter.unusedSimpArgs false
theorem rw64 {i : Int} (h0 : -9223372036854775808 ≤ i) (h1 : i ≤ 9223372036854775807) : wrap64 i = i := by unfold wrap64; omega
theorem or32 {x y : Int} (hx : 0 ≤ x) (hx1 : x < 16777216) (hy : 0 ≤ y) (hy1 : y < 256) : Go.bits .or .u32 ((x * 256) % 4294967296) (y % 4294967296) = x * 256 + y := by
  rw [show (x * 256) % 4294967296 = x * 256 from by omega, show y % 4294967296 = y from by omega]
  exact bits_join .u32 32 (by decide) (fun n h0 h1 => by rw [IntKind.wrap_u32]; omega) 8 _ _ (by omega) (by omega) (by omega) hy (by omega) (by omega)
theorem addr_of_some {a b c d : Int} (ha : 0 ≤ a ∧ a < 256) (hb : 0 ≤ b ∧ b < 256) (hc : 0 ≤ c ∧ c < 256) (hd : 0 ≤ d ∧ d < 256) (k : Nat) : PIh.addr_Of.f (k + 5) [a, b, c, d] = some (a * 16777216 + b * 65536 + c * 256 + d, 0) := by
  unfold PIh.addr_Of.f
  simp only [List.length_cons, List.length_nil]
  rw [if_neg (by omega), if_neg (by omega)]
  have e1 : wrap64 ((0 : Int) + 1) = 1 := (rw64 (by omega) (by omega)).trans (by omega)
  have e2 : wrap64 ((1 : Int) + 1) = 2 := (rw64 (by omega) (by omega)).trans (by omega)
  have e3 : wrap64 ((2 : Int) + 1) = 3 := (rw64 (by omega) (by omega)).trans (by omega)
  have e4 : wrap64 ((3 : Int) + 1) = 4 := (rw64 (by omega) (by omega)).trans (by omega)
  simp only [PIh.addr_Of.l0, List.length_cons, List.length_nil, e1, e2, e3, e4]
  rw [show rd [a, b, c, d] 0 = a from rfl, show rd [a, b, c, d] 1 = b from rfl, show rd [a, b, c, d] 2 = c from rfl, show rd [a, b, c, d] 3 = d from rfl]
  rw [or32 (by omega) (by omega) ha.1 ha.2, or32 (by omega) (by omega) hb.1 hb.2, or32 (by omega) (by omega) hc.1 hc.2, or32 (by omega) (by omega) hd.1 hd.2]
  simp
  omega

/-- The address of four bytes. -/
def av (x : List Int) : Int := rd x 0 * 16777216 + rd x 1 * 65536 + rd x 2 * 256 + rd x 3
theorem four_eq (x : List Int) (h : x.length = 4) : x = [rd x 0, rd x 1, rd x 2, rd x 3] := by
  match x, h with
  | [a, b, c, d], _ => rfl
theorem of_w {x : List Int} (hx : Byt x) (hl : x.length = 4) (A : Option Addr) (c : Nat) (w : World) (hr : Kd.C (Kd.int .u8) w A x.length x) (hc : x.length ≤ c) :
    Calls Try.prog 63 #[.slice A x.length c] w fun e w' => e = .returned (.tuple #[.int .u32 (av x), .int .i64 0]) ∧ Below w.heap.size w w' :=
  (PIh.addr_Of.calls 5 A c x (av x) 0 w hr hc (by
    have h := addr_of_some (hx.rd 0) (hx.rd 1) (hx.rd 2) (hx.rd 3) 0
    rw [← four_eq x hl] at h
    exact h)).mono fun _ _ hh => ⟨hh.1, by obtain ⟨_, n, rfl⟩ := hh; exact pw_below_drewN (Below.refl _ _) _⟩
set_option maxHeartbeats 8000000 in
set_option maxRecDepth 100000 in
theorem addr_w {w0 w : World} {g : Nat} {A : Option Addr} {c : Nat} {bs : List Int} {k ver code grp rob every : Int} {quiet : Bool} {vS vR : Value} {sh : Bool} (hB : Below w0.heap.size w0 w) (hg : w0.heap.size ≤ g) (h : w.heap[g]? = some (.cells #[.slice A bs.length c, .int .u8 k, .int .i64 ver, .int .u8 code, .int .u32 grp, .bool quiet, .int .u8 rob, .int .u8 every, vS, vR, .bool sh] 66 (0, 0))) (hC : Kd.C (Kd.int .u8) w0 A bs.length bs) (hc : bs.length ≤ c) (hby : Byt bs) :
    Calls Try.prog 58 #[.pointer (some ⟨g, 0, none⟩)] w fun e w' => ∃ A2 c2, e = .returned (.int .u32 (av (tkx 4 bs sh))) ∧ w'.heap[g]? = some (.cells #[.slice A2 (tkb 4 bs sh).length c2, .int .u8 k, .int .i64 ver, .int .u8 code, .int .u32 grp, .bool quiet, .int .u8 rob, .int .u8 every, vS, vR, .bool (tks 4 bs sh)] 66 (0, 0)) ∧ Kd.C (Kd.int .u8) w0 A2 (tkb 4 bs sh).length (tkb 4 bs sh) ∧ (tkb 4 bs sh).length ≤ c2 ∧ RM w w' g := by
  have HB := Aside0.mk hB
  have HG := Aside0.mk hg
  have BK := Aside0.mk h
  have HC := Aside0.mk hC
  have HK := Aside0.mk hc
  clear hB hg h hC hc
  have HBY := Aside0.mk hby
  clear hby
  have hxl := tkx_len 4 bs sh
  have HXB := Aside0.mk (tkx_byt (m := 4) (sh := sh) HBY.out)
  have HXL := Aside0.mk hxl
  clear hxl
  go_enter Try.func58, Try.ntmps58
  go_wp2_with (first | (go_at_call 55; with_reducible refine (take_4 HB.out HG.out BK.out HC.out HK.out).mono ?_; rintro e w1 ⟨A1, c1, A2, c2, rfl, hV, hbx, hC2, hK2, hR⟩; have HV := Aside0.mk hV; have BX := Aside0.mk hbx; have HC2 := Aside0.mk hC2; have HK2 := Aside0.mk hK2; have HR := Aside0.mk hR; clear hV hbx hC2 hK2 hR) | (go_at_call 63; with_reducible refine (of_w HXB.out HXL.out _ _ _ (Kd.V_reads' HV.out).2.2 (Kd.V_reads' HV.out).2.1).mono ?_; rintro e w2 ⟨rfl, hb⟩; have Hb := Aside0.mk hb; clear hb))
  go_ret
  exact ⟨A2, c2, rfl, blk_below BX.out Hb.out, HC2.out, HK2.out, HR.out.trans (RM.of_below Hb.out)⟩
end Go.Proofs.Ytmmjmncchckbbaa
/-
  The reader of messages: plain, query.
-/
namespace Go.Proofs.Ytmmjmncchckbbaa
open Go.RowKit Go.Proofs.YtmmjmncchckbbaaW.PrintWords Go.Proofs.YtmmjmncchckbbaaW.PrintLast Go.Proofs.YtmmjmncchckbbaaW.PrintMore Go.Proofs.Ytmmjmncchckbbaa.PIg
set_option linter.unusedVariables false
set_option linter.unusedSimpArgs false
set_option maxHeartbeats 8000000 in
set_option maxRecDepth 100000 in
theorem plain_w {w0 w : World} {g : Nat} {A : Option Addr} {c : Nat} {bs : List Int} {k ver code grp rob every : Int} {quiet : Bool} {vS vR : Value} {sh : Bool} (hB : Below w0.heap.size w0 w) (hg : w0.heap.size ≤ g) (h : w.heap[g]? = some (.cells #[.slice A bs.length c, .int .u8 k, .int .i64 ver, .int .u8 code, .int .u32 grp, .bool quiet, .int .u8 rob, .int .u8 every, vS, vR, .bool sh] 66 (0, 0))) (hC : Kd.C (Kd.int .u8) w0 A bs.length bs) (hc : bs.length ≤ c) (hby : Byt bs) :
    Calls Try.prog 42 #[.pointer (some ⟨g, 0, none⟩)] w fun e w' => ∃ A2 c2, e = .returned (.tuple #[]) ∧ w'.heap[g]? = some (.cells #[.slice A2 (tkb 4 bs sh).length c2, .int .u8 k, .int .i64 ver, .int .u8 code, .int .u32 (av (tkx 4 bs sh)), .bool quiet, .int .u8 rob, .int .u8 every, vS, vR, .bool (tks 4 bs sh)] 66 (0, 0)) ∧ Kd.C (Kd.int .u8) w0 A2 (tkb 4 bs sh).length (tkb 4 bs sh) ∧ (tkb 4 bs sh).length ≤ c2 ∧ RM w w' g := by
  have HB := Aside0.mk hB
  have HG := Aside0.mk hg
  have BK := Aside0.mk h
  have HC := Aside0.mk hC
  have HK := Aside0.mk hc
  clear hB hg h hC hc
  have HBY := Aside0.mk hby
  clear hby
  go_enter Try.func42, Try.ntmps42
  go_wp2_with (first | (go_at_call 58; with_reducible refine (addr_w HB.out HG.out BK.out HC.out HK.out HBY.out).mono ?_; rintro e w1 ⟨A2, c2, rfl, hbx, hC2, hK2, hR⟩; clear BK; have BK := Aside0.mk hbx; have HC2 := Aside0.mk hC2; have HK2 := Aside0.mk hK2; have HR := Aside0.mk hR; clear hbx hC2 hK2 hR; have hc_4 : w1.cell? ⟨g, 4, none⟩ = some (.int .u32 grp) := (blk_cell BK.out 4).trans rfl; have hf_4 := blk_frozen BK.out 4))
  go_end0
  exact ⟨A2, c2, rfl, blk_put (cs := #[.slice A2 (tkb 4 bs sh).length c2, .int .u8 k, .int .i64 ver, .int .u8 code, .int .u32 grp, .bool quiet, .int .u8 rob, .int .u8 every, vS, vR, .bool (tks 4 bs sh)]) BK.out 4 _ rfl, HC2.out, HK2.out, HR.out.set 4 _⟩
def qs (bs : List Int) (sh : Bool) : Bool := tks 2 (tkb 4 bs sh) (tks 4 bs sh)
end Go.Proofs.Ytmmjmncchckbbaa
/-
  The reader of messages: report.
-/
namespace Go.Proofs.Ytmmjmncchckbbaa
open Go.RowKit Go.Proofs.YtmmjmncchckbbaaW.PrintWords Go.Proofs.YtmmjmncchckbbaaW.PrintLast Go.Proofs.YtmmjmncchckbbaaW.PrintMore Go.Proofs.Ytmmjmncchckbbaa.PIg
set_option linter.unusedVariables false
set_option linter.unusedSimpArgs false
def rs (bs : List Int) (sh : Bool) : Bool := tks 2 bs sh
end Go.Proofs.Ytmmjmncchckbbaa
/-
  A small map of function values: filled, looked up; a call of a method value.
-/
namespace Go.Proofs.Ytmmjmncchckbbaa
open Go.RowKit Go.Proofs.YtmmjmncchckbbaaW.PrintWords Go.Proofs.YtmmjmncchckbbaaW.PrintLast Go.Proofs.YtmmjmncchckbbaaW.PrintMore Go.Proofs.Ytmmjmncchckbbaa.PIg
set_option linter.unusedVariables false
set_option linter.unusedSimpArgs false
theorem ud67 : Try.prog.underlying 67 = some (.map 5 1) := by kernel_rfl
theorem ud5 : Try.prog.underlying 5 = some (.int .u8) := by kernel_rfl
theorem zv1 (w : World) : (zeroValue 1).run Try.prog w = .ok .nilFunc w := by rfl
section
variable {w : World} {b clock : Nat} {es : Array MapEntry} {kv : Int} {val : Value}
theorem run_ins (hb : w.heap[b]? = some (.map es clock)) (h1 : Instr.findNow (.int .u8) (.int .u8 kv) es.toList 0 = some none) :
    (Instr.mapUpdate 67 (.map (some b)) (.int .u8 kv) val).run Try.prog w = .ok () { w with heap := w.heap.setIfInBounds b (.map (es.push ⟨.int .u8 kv, val, clock⟩) (clock + 1)) } := by
  simp [Instr.mapUpdate, run_underlying ud67, MapKept.run_getObj_map hb, MapKept.run_checkKey ud5 (show MapKept.IsKey (.int .u8) (.int .u8 kv) from rfl), MapKept.run_findKey ud5 h1, MapKept.run_setObj_map _ hb, Result.andThen]
theorem run_look {z : Option (Nat × Value)} (hb : w.heap[b]? = some (.map es clock)) (h1 : Instr.findNow (.int .u8) (.int .u8 kv) es.toList 0 = some z) :
    (Instr.lookup 67 (.map (some b)) (.int .u8 kv) true).run Try.prog w = .ok (match z with | some (_, v) => .tuple #[v, .bool true] | none => .tuple #[.nilFunc, .bool false]) w := by
  cases z <;> simp [Instr.lookup, run_underlying ud67, MapKept.run_getObj_map hb, MapKept.run_checkKey ud5 (show MapKept.IsKey (.int .u8) (.int .u8 kv) from rfl), MapKept.run_findKey ud5 h1, zv1, Result.andThen]
end
section
variable {P : Program} {ops : Array Oper} {Q : Exit → Act → World → Prop}
theorem mk_ {W : World} {rest : List Oper} {o : Oper} {a : Act} (hg : o.guard = none) (t : TypeId) (hop : o.op = .makeMap t none)
    (h : ∀ b w1, b = W.heap.size → w1.heap[b]? = some (.map #[] 0) → Below W.heap.size W w1 → wpList P ops Q rest (a.put o.dst (.map (some b))) w1) : wpList P ops Q (o :: rest) a W := by
  refine wpList_plain hg fun K hK => ?_
  unfold Oper.wp
  simp only [execOp, hop, Option.map_none, Sem.run_bind, run_makeMap, Result.andThen]
  exact hK _ _ (h _ _ rfl (by show (W.heap.push (Obj.map #[] 0))[W.heap.size]? = _; simp) (below_alloc (Below.refl _ _) _))
theorem ins_ {w : World} {rest : List Oper} {o : Oper} {a : Act} (hg : o.guard = none) (m v : Operand) (kv : Int) (hop : o.op = .insert 67 m (.const (.int .u8 kv)) v)
    (b clock : Nat) (es : Array MapEntry) (hm : a.eval m = .map (some b)) (val : Value) (hv : a.eval v = val) (hb : w.heap[b]? = some (.map es clock)) (h1 : Instr.findNow (.int .u8) (.int .u8 kv) es.toList 0 = some none)
    (h : ∀ w1, w1.heap[b]? = some (.map (es.push ⟨.int .u8 kv, val, clock⟩) (clock + 1)) → RM w w1 b → wpList Try.prog ops Q rest (a.put o.dst undef) w1) : wpList Try.prog ops Q (o :: rest) a w := by
  refine wpList_plain hg fun K hK => ?_
  unfold Oper.wp
  have he : a.eval (.const (.int .u8 kv)) = .int .u8 kv := rfl
  simp only [execOp, hop, hm, hv, he, Sem.run_bind, run_ins hb h1, Result.andThen]
  refine hK _ _ (h _ (MapKept.heap_set hb).1 ⟨⟨?_, fun q hq hq1 _ => (MapKept.heap_set hb).2 q hq1⟩, ⟨rfl, rfl, rfl, ?_, fun q hq => absurd hq (Nat.not_lt_zero _)⟩⟩)
  · simp
  · simp
theorem goesB_ {rest : List Oper} {oi : Oper} {a : Act} {w : World} (N : Option Tmp) (hd : oi.dst = N) (hg : oi.guard = none) {f : FuncId} {fn : Func} {xs : Array Operand} {ts : Array TypeId} {cv : Operand} (hf : P.funcs[f]? = some fn) (hname : (fn.name == "runtime.NumGoroutine") = false) (hb : fn.body.isSome = true) (first args : Array Value)
    (hop : oi.op = .call { callee := .value cv, args := xs, argTypes := ts }) (hv : a.eval cv = .func (.func f) first #[]) (hargs : first ++ xs.map a.eval = args)
    (h : Calls P f args w fun e w' => ∃ v, e = .returned v ∧ wpList P ops Q rest (a.put N v) w') : wpList P ops Q (oi :: rest) a w := by
  refine wpList_plain hg fun K hK => ?_
  have he := enters_ hf hname hb args w
  have hrun : (execOp a.eval oi).run P w = .ok (.enter f args) w := by
    unfold execOp
    rw [hop]
    simp only [resolve, hv]
    simp [Deferred.ofValue, invoke, hargs, he]
  unfold Oper.wp
  rw [hrun, Oper.upon_enter]
  refine h.mono fun e w'' hh => ?_
  obtain ⟨v, rfl, hk⟩ := hh
  subst hd
  exact hK _ _ hk
end
end Go.Proofs.Ytmmjmncchckbbaa
/-
  What each kind of message is read as.
-/
namespace Go.Proofs.Ytmmjmncchckbbaa
open Go.RowKit Go.Proofs.YtmmjmncchckbbaaW.PrintWords Go.Proofs.YtmmjmncchckbbaaW.PrintLast Go.Proofs.YtmmjmncchckbbaaW.PrintMore Go.Proofs.Ytmmjmncchckbbaa.PIg
set_option linter.unusedVariables false
set_option linter.unusedSimpArgs false
/-- A message. -/
structure Msg where
  k : Int
  ver : Int
  code : Int
  grp : Int
  quiet : Bool
  rob : Int
  every : Int
  srcs : List Int
  recs : List S44
def Msg.vals (m : Msg) (vS vR : Value) : Array Value := #[.int .u8 m.k, .int .i64 m.ver, .int .u8 m.code, .int .u32 m.grp, .bool m.quiet, .int .u8 m.rob, .int .u8 m.every, vS, vR]
/-- The function f, called on a new reader of these bytes, leaves this message. -/
def ReadsTo (f : Nat) (k code : Int) (bs : List Int) (r : Msg × List Int × Bool) : Prop :=
  ∀ (w0 w : World) (g : Nat) (A : Option Addr) (c : Nat), Below w0.heap.size w0 w → w0.heap.size ≤ g → w.heap[g]? = some (.cells #[.slice A bs.length c, .int .u8 k, .int .i64 0, .int .u8 code, .int .u32 0, .bool false, .int .u8 0, .int .u8 0, .slice none 0 0, .slice none 0 0, .bool false] 66 (0, 0)) → Kd.C (Kd.int .u8) w0 A bs.length bs → bs.length ≤ c →
    Calls Try.prog f #[.pointer (some ⟨g, 0, none⟩)] w fun e w' => ∃ vS vR A2 c2, e = .returned (.tuple #[]) ∧ Kd.R (Kd.int .u32) 23 w' w.heap.size (fun k => k ≠ g) vS r.1.srcs ∧ Kd.N k44 44 w' w.heap.size (fun k => k ≠ g ∧ w.heap.size ≤ k) vR r.1.recs ∧ w'.heap[g]? = some (.cells #[.slice A2 r.2.1.length c2, .int .u8 r.1.k, .int .i64 r.1.ver, .int .u8 r.1.code, .int .u32 r.1.grp, .bool r.1.quiet, .int .u8 r.1.rob, .int .u8 r.1.every, vS, vR, .bool r.2.2] 66 (0, 0)) ∧ RM w w' g
def rdPlain (k code : Int) (bs : List Int) : Msg × List Int × Bool := (⟨k, 0, code, av (tkx 4 bs false), false, 0, 0, [], []⟩, tkb 4 bs false, tks 4 bs false)
theorem plain_reads (k code : Int) {bs : List Int} (hby : Byt bs) : ReadsTo 42 k code bs (rdPlain k code bs) := by
  intro w0 w g A c hB hg h hC hc
  refine (plain_w hB hg h hC hc hby).mono ?_
  rintro e w' ⟨A2, c2, rfl, hb, _, _, hR⟩
  exact ⟨.slice none 0 0, .slice none 0 0, A2, c2, rfl, Kd.R_nil _ _ _ _ _, Kd.N_nil _ _ _ _ _, hb, hR⟩
end Go.Proofs.Ytmmjmncchckbbaa
/-
  The writer of messages: what lay does.
-/
namespace Go.Proofs.Ytmmjmncchckbbaa
open Go.RowKit Go.Proofs.YtmmjmncchckbbaaW.PrintWords Go.Proofs.YtmmjmncchckbbaaW.PrintLast Go.Proofs.YtmmjmncchckbbaaW.PrintMore Go.Proofs.Ytmmjmncchckbbaa.PIg
set_option linter.unusedVariables false
set_option linter.unusedSimpArgs false
set_option maxHeartbeats 4000000 in
set_option maxRecDepth 100000 in
theorem lay_calls {base g : Nat} {v : Value} {xs ys : List Int} {A : Option Addr} {c : Nat} {w : World} (hb : w.heap[g]? = some (.cells #[v] 51 (0, 0))) (hR : Kd.R (Kd.int .u8) 5 w base (fun _ => True) v xs) (hbase : base ≤ w.heap.size) (hC : Kd.C (Kd.int .u8) w A ys.length ys) (hl : xs.length + ys.length ≤ 100000000) :
    Calls Try.prog 23 #[.pointer (some ⟨g, 0, none⟩), .slice A ys.length c] w fun e w' => e = .returned (.tuple #[]) ∧ ∃ v', w'.heap[g]? = some (.cells #[v'] 51 (0, 0)) ∧ Kd.R (Kd.int .u8) 5 w' base (fun _ => True) v' (xs ++ ys) ∧ Kept w w' (fun k => k = g ∨ some k = v.ownBlock) ∧ (v'.ownBlock = v.ownBlock ∨ ∃ b, v'.ownBlock = some b ∧ w.heap.size ≤ b) ∧ Below 0 w w' := by
  obtain ⟨Av, cv, rfl⟩ := Kd.R_slice hR
  have hc0 : w.cell? ⟨g, 0, none⟩ = some (.slice Av xs.length cv) := (blk_cell hb 0).trans rfl
  have hf0 := blk_frozen hb 0
  have HB := Aside0.mk hb
  have HR := Aside0.mk hR
  have HBS := Aside0.mk hbase
  have HC := Aside0.mk hC
  have HL := Aside0.mk hl
  clear hb hR hbase hC hl
  go_enter Try.func23, Try.ntmps23
  go_wp2_with (first | ((with_reducible refine gate_dst (N := 10) rfl ?_); refine Kd.R_append_rows (Kd.int .u8) (w0 := w) base rfl (.tmp 8) (.tmp 9) 30 5 (.int .u8 0) 1 rfl rfl Try.info5 rfl (by decide) (by decide) _ xs ys A ys.length c (fun _ => True) (fun _ => False) rfl rfl HR.out HC.out (fun _ _ h => h) (fun _ h => h.elim) (fun _ _ => trivial) (Below.refl _ _) HBS.out (by have := HL.out; omega) ?_; intro v1 w1 hR1 hB1 hg hat; have HB1 := Aside0.mk (show w1.heap[g]? = some (.cells #[.slice Av xs.length cv] 51 (0, 0)) from blk_grown HB.out hg (Kd.R_ne HR.out HB.out (by decide))); have hc1 : w1.cell? ⟨g, 0, none⟩ = some (.slice Av xs.length cv) := (blk_cell HB1.out 0).trans rfl; have hf1 := blk_frozen HB1.out 0; have HR1 := Aside0.mk hR1; have HG1 := Aside0.mk hg; have HBB := Aside0.mk hB1; have HAT := Aside0.mk hat; clear hR1 hB1 hg hat; obtain ⟨A1, c1, e1⟩ := Kd.R_slice HR1.out; subst e1))
  go_end0
  have hr1 := HR1.out
  have hat := HAT.out
  have hg1 : w.grownBy w1 (Value.slice Av xs.length cv).ownBlock := HG1.out
  rw [List.length_append] at hr1 hat
  refine ⟨rfl, _, blk_put (cs := #[.slice Av xs.length cv]) HB1.out 0 _ rfl, ?_, ⟨?_, fun i hi hn => ?_⟩, hat, ⟨HBB.out.os, HBB.out.tape, HBB.out.output, ?_, fun k hk => absurd hk (Nat.not_lt_zero _)⟩⟩
  · exact Kd.R_mono (Kd.R_far (p := ⟨g, 0, none⟩) (Kd.R_types hr1 HB1.out (by decide)) (fun _ hk => hk.2) _) (fun _ _ => trivial)
  · simpa [World.setCell] using hg1.size
  · have h1 : i ≠ g := fun e => hn (.inl e)
    have h2 : some i ≠ (Value.slice Av xs.length cv).ownBlock := fun e => hn (.inr e)
    exact (Below.heap_setCell w1 ⟨g, 0, none⟩ _ i h1).trans (hg1.block i hi h2)
  · simpa [World.setCell] using hg1.size

/-- What a call on the writer at block g may have turned: its box, its row. -/
structure WM (w w' : World) (g : Nat) (v v' : Value) : Prop where
  kept : Kept w w' (fun k => k = g ∨ some k = v.ownBlock)
  at_ : v'.ownBlock = v.ownBlock ∨ ∃ b, v'.ownBlock = some b ∧ w.heap.size ≤ b
  out : Below 0 w w'
/-- The writer at block g holds xs. -/
structure Wr (w : World) (base g : Nat) (xs : List Int) (v : Value) : Prop where
  box : w.heap[g]? = some (.cells #[v] 51 (0, 0))
  row : Kd.R (Kd.int .u8) 5 w base (fun _ => True) v xs
theorem WM.size {w w' : World} {g : Nat} {v v' : Value} (h : WM w w' g v v') : w.heap.size ≤ w'.heap.size := h.kept.1
theorem WM.block {w w' : World} {g : Nat} {v v' : Value} (h : WM w w' g v v') {b : Nat} (hb : b < w.heap.size) (h1 : b ≠ g) (h2 : some b ≠ v.ownBlock) : w'.heap[b]? = w.heap[b]? := h.kept.2 b hb (fun h => h.elim h1 h2)
theorem WM.of_below {w w' : World} {g : Nat} {v : Value} (h : Below w.heap.size w w') : WM w w' g v v := ⟨Kept.of_below h _, .inl rfl, h.mono (Nat.zero_le _)⟩
theorem WM.trans {w w1 w2 : World} {g : Nat} {v v1 v2 : Value} (h : WM w w1 g v v1) (k : WM w1 w2 g v1 v2) : WM w w2 g v v2 := by
  refine ⟨⟨Nat.le_trans h.size k.size, fun i hi hn => ?_⟩, ?_, h.out.trans k.out⟩
  · have h1 : i ≠ g := fun e => hn (.inl e)
    have h2 : some i ≠ v.ownBlock := fun e => hn (.inr e)
    refine (k.block (Nat.lt_of_lt_of_le hi h.size) h1 (fun e => ?_)).trans (h.block hi h1 h2)
    rcases h.at_ with h3 | ⟨b, h3, h4⟩
    · exact h2 (e.trans h3)
    · rw [h3] at e; injection e with e; omega
  · rcases k.at_ with h3 | ⟨b, h3, h4⟩
    · rcases h.at_ with h5 | ⟨b, h5, h6⟩
      · exact .inl (h3.trans h5)
      · exact .inr ⟨b, h3.trans h5, h6⟩
    · exact .inr ⟨b, h3, Nat.le_trans h.size h4⟩
theorem Wr.below {w w' : World} {base g : Nat} {xs : List Int} {v : Value} (h : Wr w base g xs v) (hb : Below w.heap.size w w') : Wr w' base g xs v := ⟨blk_below h.box hb, Kd.R_below h.row hb⟩
theorem WM.V {α : Type} {d : Kd α} {e b : Nat} {u : Value} {xs : List α} {w w' : World} {g : Nat} {v v' : Value} (h : WM w w' g v v') (hV : Kd.V d e w b (fun k => k ≠ g ∧ some k ≠ v.ownBlock) u xs) : Kd.V d e w' b (fun k => k ≠ g ∧ some k ≠ v'.ownBlock) u xs :=
  Kd.V_mono (Kd.V_step (Kd.V_bound hV) (fun k hk hlt => h.block hlt hk.1.1 hk.1.2)) (fun k hk => ⟨hk.1.1, fun e => by
    rcases h.at_ with h3 | ⟨b, h3, h4⟩
    · exact hk.1.2 (e.trans h3)
    · rw [h3] at e; injection e with e; have := hk.2; omega⟩)
theorem lay_w {base g : Nat} {v : Value} {xs ys : List Int} {A : Option Addr} {c : Nat} {w : World} (h : Wr w base g xs v) (hbase : base ≤ w.heap.size) (hC : Kd.C (Kd.int .u8) w A ys.length ys) (hl : xs.length + ys.length ≤ 100000000) :
    Calls Try.prog 23 #[.pointer (some ⟨g, 0, none⟩), .slice A ys.length c] w fun e w' => e = .returned (.tuple #[]) ∧ ∃ v', Wr w' base g (xs ++ ys) v' ∧ WM w w' g v v' :=
  (lay_calls h.box h.row hbase hC hl).mono fun _ _ ⟨h1, v', h2, h3, h4, h5, h6⟩ => ⟨h1, v', ⟨h2, h3⟩, ⟨h4, h5, h6⟩⟩
/-- An address's bytes. -/
def ab (a : Int) : List Int := [a / 16777216 % 256, a / 65536 % 256, a / 256 % 256, a % 256]
theorem w64' {i : Int} (h0 : -9223372036854775808 ≤ i) (h1 : i ≤ 9223372036854775807) : wrap64 i = i := by unfold wrap64; omega
theorem part_some {a : Int} (i : Int) (h0 : 0 ≤ i) (h1 : i < 4) : addr_part.f a i = some ((a / 2 ^ (24 - 8 * i).toNat) % 256) := by
  unfold addr_part.f
  rw [w64' (i := 8 * i) (by omega) (by omega), w64' (i := 24 - 8 * i) (by omega) (by omega), if_pos (by omega)]
  unfold shr
  rw [show min (24 - 8 * i).toNat IntKind.u32.bits = (24 - 8 * i).toNat from Nat.min_eq_left (by simp [IntKind.bits]; omega)]
theorem addr_bytes_some {a : Int} (k : Nat) : addr_Bytes.f (k + 5) a = some (ab a) := by
  unfold addr_Bytes.f
  rw [if_pos (by omega), Option.bind_some]
  simp only [addr_Bytes.l0, List.length_replicate, List.length_set]
  rw [part_some 0 (by omega) (by omega)]
  have e1 : wrap64 ((0 : Int) + 1) = 1 := (w64' (by omega) (by omega)).trans (by omega)
  have e2 : wrap64 ((1 : Int) + 1) = 2 := (w64' (by omega) (by omega)).trans (by omega)
  have e3 : wrap64 ((2 : Int) + 1) = 3 := (w64' (by omega) (by omega)).trans (by omega)
  have e4 : wrap64 ((3 : Int) + 1) = 4 := (w64' (by omega) (by omega)).trans (by omega)
  simp only [e1, e2, e3, e4]
  rw [part_some 1 (by omega) (by omega), part_some 2 (by omega) (by omega), part_some 3 (by omega) (by omega)]
  simp [ab]
theorem abytes_calls (a : Int) (w : World) : Calls Try.prog 25 #[.int .u32 a] w fun e w' => ∃ v, e = .returned v ∧ Kd.R (Kd.int .u8) 5 w' w.heap.size (fun _ => True) v (ab a) ∧ Below w.heap.size w w' :=
  (addr_Bytes.calls 5 a (ab a) w (addr_bytes_some 0)).mono fun _ _ ⟨v, h1, h2, h3⟩ => ⟨v, h1, Kd.R_mono h2 (fun _ _ => trivial), h3⟩
/-- How many, what stands between, and they. -/
def wrow (G L : List Int) : List Int := [(L.length : Int) / 256 % 256, (L.length : Int) % 256] ++ G ++ L.flatMap ab
theorem flat_len (L : List Int) : (L.flatMap ab).length = 4 * L.length := by
  induction L with
  | nil => rfl
  | cons a L ih => rw [List.flatMap_cons, List.length_append, ih, List.length_cons]; simp only [ab, List.length_cons, List.length_nil]; omega
set_option maxHeartbeats 4000000 in
set_option maxRecDepth 100000 in
theorem addrs_w {base g : Nat} {v : Value} {xs G L : List Int} {A_G A_L : Option Addr} {c_G c_L : Nat} {w : World} (h : Wr w base g xs v) (hbase : base ≤ w.heap.size) (hG : Kd.V (Kd.int .u8) 5 w 0 (fun k => k ≠ g ∧ some k ≠ v.ownBlock) (.slice A_G G.length c_G) G) (hL : Kd.V (Kd.int .u32) 23 w 0 (fun k => k ≠ g ∧ some k ≠ v.ownBlock) (.slice A_L L.length c_L) L) (hl : xs.length + G.length + 4 * L.length ≤ 10000000) (hw : ∀ a ∈ L, 0 ≤ a ∧ a < 4294967296) :
    Calls Try.prog 24 #[.pointer (some ⟨g, 0, none⟩), .slice A_G G.length c_G, .slice A_L L.length c_L] w fun e w' => e = .returned (.tuple #[]) ∧ ∃ v', Wr w' base g (xs ++ wrow G L) v' ∧ WM w w' g v v' := by
  obtain ⟨y, hy⟩ : ∃ y_, y_ = [(L.length : Int) / 256 % 256, (L.length : Int) % 256] := ⟨_, rfl⟩
  have HY := Aside0.mk hy
  have Y2 : Aside0 (y.length = 2) := ⟨by rw [hy]; rfl⟩
  have HW := Aside0.mk h
  have HBS := Aside0.mk hbase
  have HG := Aside0.mk hG
  have HL := Aside0.mk hL
  have HLN := Aside0.mk hl
  have HRG := Aside0.mk hw
  clear hy h hbase hG hL hl hw
  go_enter Try.func24, Try.ntmps24
  go_wp2_with (first | ((with_reducible refine gate_dst (N := 16) rfl ?_); refine Kd.R_lit (Kd.int .u8) _ 5 ?hg (N := 16) ?hd (xs := [(L.length : Int) / 256 % 256, (L.length : Int) % 256]) (inner := [.int .u8 ((L.length : Int) / 256 % 256), .int .u8 ((L.length : Int) % 256)]) (ok := fun _ => True) (okp := fun _ => True) ?hr ?hp (fun _ hk => hk) trivial (Below.refl _ _) (Nat.le_refl _) (by simp) ?_; (case hd => rfl); (case hg => rfl); (case hr => first | (go_simp; done) | (go_simp; rfl)); (case hp => exact Reps.one (show Kd.M (Kd.int .u8) _ _ _ _ _ from rfl) (Reps.one (show Kd.M (Kd.int .u8) _ _ _ _ _ from rfl) (Reps.none _ _))); intro v16 w1 hR hb hg_ hn_; clear hg_ hn_; rw [← HY.out] at hR; have HW1 := Aside0.mk (HW.out.below hb); have HM1 := Aside0.mk (WM.of_below (g := g) (v := v) hb); obtain ⟨A_y, c_y, rfl⟩ := Kd.R_slice hR; have HC_y := Aside0.mk (Kd.R_reads' hR).2.2; clear hR hb) | (go_at_call 23; with_reducible refine (lay_w HW1.out (Nat.le_trans HBS.out HM1.out.size) HC_y.out (by have := HLN.out; have := Y2.out; omega)).mono ?_; rintro e w2 ⟨rfl, v2, hW, hM⟩; have HW2 := Aside0.mk hW; have HM2 := Aside0.mk (HM1.out.trans hM); clear hW hM) | (go_at_call 23; with_reducible refine (lay_w HW2.out (Nat.le_trans HBS.out HM2.out.size) (Kd.V_reads' (HM2.out.V HG.out)).2.2 (by have := HLN.out; have := Y2.out; rw [List.length_append]; omega)).mono ?_; rintro e w3 ⟨rfl, v3, hW, hM⟩; have HW3 := Aside0.mk hW; have HM3 := Aside0.mk (HM2.out.trans hM); clear hW hM))
  go_loopg [23] L.length (fun gk v23 w' => ∃ (i : Nat) (v' : Value), v23 = .int .i64 i ∧ Aside0 (i ≤ L.length ∧ gk = L.length - i) ∧ Aside0 (Wr w' base g (xs ++ y ++ G ++ (L.take i).flatMap ab) v') ∧ Aside0 (WM w w' g v v'))
  case atStart => exact ⟨0, v3, rfl, ⟨Nat.zero_le _, by omega⟩, ⟨by simpa using HW3.out⟩, HM3⟩
  case round =>
    obtain ⟨i, v4, rfl, HI, HW4, HM4⟩ := hrel
    clear HW3 HM3 HW2 HM2 HW1 HM1
    obtain ⟨hi, hgk⟩ := HI.out
    by_cases hlt : i < L.length
    · have c5b0 : decide ((i : Int) < (L.length : Int)) = true := decide_eq_true (by omega)
      have p1 : (0 : Int) ≤ (i : Int) := by omega
      have p2 : (i : Int) < (L.length : Int) := by omega
      have hCL := (Kd.V_reads' (HM4.out.V HL.out)).2.2
      obtain ⟨ad, he, hx⟩ := Kd.at_int hCL (i : Int) p1 p2
      cases he
      obtain ⟨a0, ha⟩ : ∃ a_, a_ = rd L (i : Int) := ⟨_, rfl⟩
      rw [← ha, Int.toNat_natCast] at hx
      have HA0 := Aside0.mk (show rd L (i : Int) = L[i] from by rw [rd, Int.toNat_natCast, List.getD_eq_getElem?_getD, List.getElem?_eq_getElem hlt]; rfl)
      have HA := Aside0.mk ha
      have hfl : xs.length + y.length + G.length + ((L.take i).flatMap ab).length ≤ 10000000 := by
        have h1 : ((L.take i).flatMap ab).length = 4 * i := by
          rw [flat_len, List.length_take, Nat.min_eq_left hi]
        have := HLN.out; have := Y2.out; omega
      have HFL := Aside0.mk hfl
      clear ha hCL hfl
      replace p1 := eq_true p1
      replace p2 := eq_true p2
      go_wp2_with (first | (go_at_call 25; with_reducible refine (abytes_calls a0 _).mono ?_; rintro e w5 ⟨v_b, rfl, hR, hb⟩; have HW5 := Aside0.mk (HW4.out.below hb); have HM5 := Aside0.mk (HM4.out.trans (WM.of_below hb)); obtain ⟨A_b, c_b, rfl⟩ := Kd.R_slice hR; have HC_b := Aside0.mk (Kd.R_reads' hR).2.2; clear hR hb) | (go_at_call 23; with_reducible refine (lay_w HW5.out (Nat.le_trans HBS.out HM5.out.size) HC_b.out (by have := HFL.out; simp only [List.length_append]; simp only [ab, List.length_cons, List.length_nil]; omega)).mono ?_; rintro e w6 ⟨rfl, v6, hW, hM⟩; have HW6 := Aside0.mk hW; have HM6 := Aside0.mk (HM5.out.trans hM); clear hW hM))
      go_roundg (L.length - (i + 1))
      case measure => omega
      case rel =>
        refine ⟨i + 1, v6, ?_, ⟨by omega, rfl⟩, ⟨?_⟩, HM6⟩
        · show Value.int .i64 (wrap64 ((i : Int) + 1)) = _
          have hl := HLN.out
          rw [show wrap64 ((i : Int) + 1) = ((i + 1 : Nat) : Int) from by unfold wrap64; omega]
        · have h6 := HW6.out
          have h7 : (L.take (i + 1)).flatMap ab = (L.take i).flatMap ab ++ ab a0 := by
            rw [← List.take_append_getElem hlt, List.flatMap_append, HA.out, HA0.out]; simp
          rw [h7, ← List.append_assoc]
          exact h6
    · have c5b0 : decide ((i : Int) < (L.length : Int)) = false := decide_eq_false (by omega)
      go_wp2
      go_end0
      refine ⟨rfl, v4, ?_, HM4.out⟩
      have h4 := HW4.out
      obtain rfl : i = L.length := by omega
      rw [List.take_length, HY.out] at h4
      simpa [wrow] using h4
end Go.Proofs.Ytmmjmncchckbbaa
