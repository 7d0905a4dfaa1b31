/-
  The document's igmp.Decode, walked.
-/
import Derived.Test.YtmmjmncchckbbaaIgX
import Derived.Test.YtmmjmncchckbbaaIgCr
import Derived.Test.YtmmjmncchckbbaaIgC
namespace Go.Proofs.Ytmmjmncchckbbaa
open Go.RowKit Go.Proofs.YtmmjmncchckbbaaW.PrintWords Go.Proofs.YtmmjmncchckbbaaW.PrintLast Go.Proofs.YtmmjmncchckbbaaW.PrintMore Go.Proofs.Ytmmjmncchckbbaa.PIg
set_option linter.unusedVariables false
set_option linter.unusedSimpArgs false
theorem zz9 {W : World} {g : Nat} (h : W.heap[g]? = some (.cells #[.int .u8 0, .int .i64 0, .int .u8 0, .int .u32 0, .bool false, .int .u8 0, .int .u8 0, .slice none 0 0, .slice none 0 0] 27 (0, 0))) (a b c d e f g1 h1 i1 : Value) :
    ((((((((((W.setCell ⟨g, 0, none⟩ a).setCell ⟨g, 1, none⟩ b).setCell ⟨g, 2, none⟩ c).setCell ⟨g, 3, none⟩ d).setCell ⟨g, 4, none⟩ e).setCell ⟨g, 5, none⟩ f).setCell ⟨g, 6, none⟩ g1).setCell ⟨g, 7, none⟩ h1).setCell ⟨g, 8, none⟩ i1)).heap[g]? = some (.cells #[a, b, c, d, e, f, g1, h1, i1] 27 (0, 0)) :=
  (blk_put (cs := #[a, b, c, d, e, f, g1, h1, .slice none 0 0]) (blk_put (cs := #[a, b, c, d, e, f, g1, .slice none 0 0, .slice none 0 0]) (blk_put (cs := #[a, b, c, d, e, f, .int .u8 0, .slice none 0 0, .slice none 0 0]) (blk_put (cs := #[a, b, c, d, e, .int .u8 0, .int .u8 0, .slice none 0 0, .slice none 0 0]) (blk_put (cs := #[a, b, c, d, .bool false, .int .u8 0, .int .u8 0, .slice none 0 0, .slice none 0 0]) (blk_put (cs := #[a, b, c, .int .u32 0, .bool false, .int .u8 0, .int .u8 0, .slice none 0 0, .slice none 0 0]) (blk_put (cs := #[a, b, .int .u8 0, .int .u32 0, .bool false, .int .u8 0, .int .u8 0, .slice none 0 0, .slice none 0 0]) (blk_put (cs := #[a, .int .i64 0, .int .u8 0, .int .u32 0, .bool false, .int .u8 0, .int .u8 0, .slice none 0 0, .slice none 0 0]) (blk_put (cs := #[.int .u8 0, .int .i64 0, .int .u8 0, .int .u32 0, .bool false, .int .u8 0, .int .u8 0, .slice none 0 0, .slice none 0 0]) h 0 a rfl) 1 b rfl) 2 c rfl) 3 d rfl) 4 e rfl) 5 f rfl) 6 g1 rfl) 7 h1 rfl) 8 i1 rfl)
theorem bb9 {w W : World} {g : Nat} (h : Below w.heap.size w W) (hg : w.heap.size ≤ g) (a b c d e f g1 h1 i1 : Value) :
    Below w.heap.size w ((((((((((W.setCell ⟨g, 0, none⟩ a).setCell ⟨g, 1, none⟩ b).setCell ⟨g, 2, none⟩ c).setCell ⟨g, 3, none⟩ d).setCell ⟨g, 4, none⟩ e).setCell ⟨g, 5, none⟩ f).setCell ⟨g, 6, none⟩ g1).setCell ⟨g, 7, none⟩ h1).setCell ⟨g, 8, none⟩ i1)) :=
  (below_set (below_set (below_set (below_set (below_set (below_set (below_set (below_set (below_set h hg) hg) hg) hg) hg) hg) hg) hg) hg)
theorem ff9 {W : World} {g q ty : Nat} {cells : Array Value} (h : W.heap[q]? = some (.cells cells ty (0, 0))) (hne : q ≠ g) (a b c d e f g1 h1 i1 : Value) :
    ((((((((((W.setCell ⟨g, 0, none⟩ a).setCell ⟨g, 1, none⟩ b).setCell ⟨g, 2, none⟩ c).setCell ⟨g, 3, none⟩ d).setCell ⟨g, 4, none⟩ e).setCell ⟨g, 5, none⟩ f).setCell ⟨g, 6, none⟩ g1).setCell ⟨g, 7, none⟩ h1).setCell ⟨g, 8, none⟩ i1)).heap[q]? = some (.cells cells ty (0, 0)) :=
  (blk_far (blk_far (blk_far (blk_far (blk_far (blk_far (blk_far (blk_far (blk_far h hne a) hne b) hne c) hne d) hne e) hne f) hne g1) hne h1) hne i1)
theorem rr9 {W : World} {base g : Nat} {v : Value} {xs : List Int} (h : Kd.R (Kd.int .u32) 23 W base (fun _ => True) v xs) (hb : W.heap[g]? = some (.cells #[.int .u8 0, .int .i64 0, .int .u8 0, .int .u32 0, .bool false, .int .u8 0, .int .u8 0, .slice none 0 0, .slice none 0 0] 27 (0, 0))) (a b c d e f g1 h1 i1 : Value) :
    Kd.R (Kd.int .u32) 23 ((((((((((W.setCell ⟨g, 0, none⟩ a).setCell ⟨g, 1, none⟩ b).setCell ⟨g, 2, none⟩ c).setCell ⟨g, 3, none⟩ d).setCell ⟨g, 4, none⟩ e).setCell ⟨g, 5, none⟩ f).setCell ⟨g, 6, none⟩ g1).setCell ⟨g, 7, none⟩ h1).setCell ⟨g, 8, none⟩ i1)) base (fun k => True ∧ k ≠ g) v xs :=
  (Kd.R_far (p := ⟨g, 8, none⟩) (Kd.R_far (p := ⟨g, 7, none⟩) (Kd.R_far (p := ⟨g, 6, none⟩) (Kd.R_far (p := ⟨g, 5, none⟩) (Kd.R_far (p := ⟨g, 4, none⟩) (Kd.R_far (p := ⟨g, 3, none⟩) (Kd.R_far (p := ⟨g, 2, none⟩) (Kd.R_far (p := ⟨g, 1, none⟩) (Kd.R_far (p := ⟨g, 0, none⟩) (Kd.R_types h hb (by decide)) (fun _ hk => hk.2) a) (fun _ hk => hk.2) b) (fun _ hk => hk.2) c) (fun _ hk => hk.2) d) (fun _ hk => hk.2) e) (fun _ hk => hk.2) f) (fun _ hk => hk.2) g1) (fun _ hk => hk.2) h1) (fun _ hk => hk.2) i1)
theorem ss9 {W : World} {base g : Nat} {v : Value} {xs : List S44} (h : Kd.S k44 44 W base (fun _ => True) v xs) (hb : W.heap[g]? = some (.cells #[.int .u8 0, .int .i64 0, .int .u8 0, .int .u32 0, .bool false, .int .u8 0, .int .u8 0, .slice none 0 0, .slice none 0 0] 27 (0, 0))) (a b c d e f g1 h1 i1 : Value) :
    Kd.S k44 44 ((((((((((W.setCell ⟨g, 0, none⟩ a).setCell ⟨g, 1, none⟩ b).setCell ⟨g, 2, none⟩ c).setCell ⟨g, 3, none⟩ d).setCell ⟨g, 4, none⟩ e).setCell ⟨g, 5, none⟩ f).setCell ⟨g, 6, none⟩ g1).setCell ⟨g, 7, none⟩ h1).setCell ⟨g, 8, none⟩ i1)) base (fun _ => True) v xs :=
  (Kd.S_set (Kd.S_set (Kd.S_set (Kd.S_set (Kd.S_set (Kd.S_set (Kd.S_set (Kd.S_set (Kd.S_set h hb (by decide) 0 a) (blk_put (cs := #[.int .u8 0, .int .i64 0, .int .u8 0, .int .u32 0, .bool false, .int .u8 0, .int .u8 0, .slice none 0 0, .slice none 0 0]) hb 0 a rfl) (by decide) 1 b) (blk_put (cs := #[a, .int .i64 0, .int .u8 0, .int .u32 0, .bool false, .int .u8 0, .int .u8 0, .slice none 0 0, .slice none 0 0]) (blk_put (cs := #[.int .u8 0, .int .i64 0, .int .u8 0, .int .u32 0, .bool false, .int .u8 0, .int .u8 0, .slice none 0 0, .slice none 0 0]) hb 0 a rfl) 1 b rfl) (by decide) 2 c) (blk_put (cs := #[a, b, .int .u8 0, .int .u32 0, .bool false, .int .u8 0, .int .u8 0, .slice none 0 0, .slice none 0 0]) (blk_put (cs := #[a, .int .i64 0, .int .u8 0, .int .u32 0, .bool false, .int .u8 0, .int .u8 0, .slice none 0 0, .slice none 0 0]) (blk_put (cs := #[.int .u8 0, .int .i64 0, .int .u8 0, .int .u32 0, .bool false, .int .u8 0, .int .u8 0, .slice none 0 0, .slice none 0 0]) hb 0 a rfl) 1 b rfl) 2 c rfl) (by decide) 3 d) (blk_put (cs := #[a, b, c, .int .u32 0, .bool false, .int .u8 0, .int .u8 0, .slice none 0 0, .slice none 0 0]) (blk_put (cs := #[a, b, .int .u8 0, .int .u32 0, .bool false, .int .u8 0, .int .u8 0, .slice none 0 0, .slice none 0 0]) (blk_put (cs := #[a, .int .i64 0, .int .u8 0, .int .u32 0, .bool false, .int .u8 0, .int .u8 0, .slice none 0 0, .slice none 0 0]) (blk_put (cs := #[.int .u8 0, .int .i64 0, .int .u8 0, .int .u32 0, .bool false, .int .u8 0, .int .u8 0, .slice none 0 0, .slice none 0 0]) hb 0 a rfl) 1 b rfl) 2 c rfl) 3 d rfl) (by decide) 4 e) (blk_put (cs := #[a, b, c, d, .bool false, .int .u8 0, .int .u8 0, .slice none 0 0, .slice none 0 0]) (blk_put (cs := #[a, b, c, .int .u32 0, .bool false, .int .u8 0, .int .u8 0, .slice none 0 0, .slice none 0 0]) (blk_put (cs := #[a, b, .int .u8 0, .int .u32 0, .bool false, .int .u8 0, .int .u8 0, .slice none 0 0, .slice none 0 0]) (blk_put (cs := #[a, .int .i64 0, .int .u8 0, .int .u32 0, .bool false, .int .u8 0, .int .u8 0, .slice none 0 0, .slice none 0 0]) (blk_put (cs := #[.int .u8 0, .int .i64 0, .int .u8 0, .int .u32 0, .bool false, .int .u8 0, .int .u8 0, .slice none 0 0, .slice none 0 0]) hb 0 a rfl) 1 b rfl) 2 c rfl) 3 d rfl) 4 e rfl) (by decide) 5 f) (blk_put (cs := #[a, b, c, d, e, .int .u8 0, .int .u8 0, .slice none 0 0, .slice none 0 0]) (blk_put (cs := #[a, b, c, d, .bool false, .int .u8 0, .int .u8 0, .slice none 0 0, .slice none 0 0]) (blk_put (cs := #[a, b, c, .int .u32 0, .bool false, .int .u8 0, .int .u8 0, .slice none 0 0, .slice none 0 0]) (blk_put (cs := #[a, b, .int .u8 0, .int .u32 0, .bool false, .int .u8 0, .int .u8 0, .slice none 0 0, .slice none 0 0]) (blk_put (cs := #[a, .int .i64 0, .int .u8 0, .int .u32 0, .bool false, .int .u8 0, .int .u8 0, .slice none 0 0, .slice none 0 0]) (blk_put (cs := #[.int .u8 0, .int .i64 0, .int .u8 0, .int .u32 0, .bool false, .int .u8 0, .int .u8 0, .slice none 0 0, .slice none 0 0]) hb 0 a rfl) 1 b rfl) 2 c rfl) 3 d rfl) 4 e rfl) 5 f rfl) (by decide) 6 g1) (blk_put (cs := #[a, b, c, d, e, f, .int .u8 0, .slice none 0 0, .slice none 0 0]) (blk_put (cs := #[a, b, c, d, e, .int .u8 0, .int .u8 0, .slice none 0 0, .slice none 0 0]) (blk_put (cs := #[a, b, c, d, .bool false, .int .u8 0, .int .u8 0, .slice none 0 0, .slice none 0 0]) (blk_put (cs := #[a, b, c, .int .u32 0, .bool false, .int .u8 0, .int .u8 0, .slice none 0 0, .slice none 0 0]) (blk_put (cs := #[a, b, .int .u8 0, .int .u32 0, .bool false, .int .u8 0, .int .u8 0, .slice none 0 0, .slice none 0 0]) (blk_put (cs := #[a, .int .i64 0, .int .u8 0, .int .u32 0, .bool false, .int .u8 0, .int .u8 0, .slice none 0 0, .slice none 0 0]) (blk_put (cs := #[.int .u8 0, .int .i64 0, .int .u8 0, .int .u32 0, .bool false, .int .u8 0, .int .u8 0, .slice none 0 0, .slice none 0 0]) hb 0 a rfl) 1 b rfl) 2 c rfl) 3 d rfl) 4 e rfl) 5 f rfl) 6 g1 rfl) (by decide) 7 h1) (blk_put (cs := #[a, b, c, d, e, f, g1, .slice none 0 0, .slice none 0 0]) (blk_put (cs := #[a, b, c, d, e, f, .int .u8 0, .slice none 0 0, .slice none 0 0]) (blk_put (cs := #[a, b, c, d, e, .int .u8 0, .int .u8 0, .slice none 0 0, .slice none 0 0]) (blk_put (cs := #[a, b, c, d, .bool false, .int .u8 0, .int .u8 0, .slice none 0 0, .slice none 0 0]) (blk_put (cs := #[a, b, c, .int .u32 0, .bool false, .int .u8 0, .int .u8 0, .slice none 0 0, .slice none 0 0]) (blk_put (cs := #[a, b, .int .u8 0, .int .u32 0, .bool false, .int .u8 0, .int .u8 0, .slice none 0 0, .slice none 0 0]) (blk_put (cs := #[a, .int .i64 0, .int .u8 0, .int .u32 0, .bool false, .int .u8 0, .int .u8 0, .slice none 0 0, .slice none 0 0]) (blk_put (cs := #[.int .u8 0, .int .i64 0, .int .u8 0, .int .u32 0, .bool false, .int .u8 0, .int .u8 0, .slice none 0 0, .slice none 0 0]) hb 0 a rfl) 1 b rfl) 2 c rfl) 3 d rfl) 4 e rfl) 5 f rfl) 6 g1 rfl) 7 h1 rfl) (by decide) 8 i1)
def rdc_T5 : Bool × List (List Nat × List Nat) := (true, [([], []), ([0], [0]), ([1], [1]), ([], []), ([3], [3]), ([4], [4]), ([2, 5], [2, 5]), ([], []), ([7, 6, 0, 1, 2, 3, 4, 5, 6, 7], [6, 7])])
def rdc_B5 : List Nat := [0, 1, 3, 0, 8, 24, 63, 0, 255]
theorem rdc_t5 : rtab .any (opsOf Try.f21 5) = rdc_T5 := by kernel_rfl
theorem rdc_b5 : waitsOk rdc_T5.2 rdc_B5 = true := by kernel_rfl
def RDone (w : World) (m : Msg) (er : Int) (e : Ending) (w' : World) : Prop := ∃ A_s c_s A_r c_r, e = .returned (.tuple #[.agg #[.int .u8 m.k, .int .i64 m.ver, .int .u8 m.code, .int .u32 m.grp, .bool m.quiet, .int .u8 m.rob, .int .u8 m.every, .slice A_s m.srcs.length c_s, .slice A_r m.recs.length c_r], .int .i64 er]) ∧ Kd.C (Kd.int .u32) w' A_s m.srcs.length m.srcs ∧ m.srcs.length ≤ c_s ∧ Kd.C k44 w' A_r m.recs.length m.recs ∧ m.recs.length ≤ c_r ∧ Below w.heap.size w w'
theorem rdc_end {w W : World} {g : Nat} {a : Act} {er : Int} (hd : a.defers = []) (h2 : a.tmps.getD 2 undef = .pointer (some ⟨g, 0, none⟩)) (h3 : a.tmps.getD 3 undef = .int .i64 er) (hb : W.heap[g]? = some (.cells #[.int .u8 0, .int .i64 0, .int .u8 0, .int .u32 0, .bool false, .int .u8 0, .int .u8 0, .slice none 0 0, .slice none 0 0] 27 (0, 0))) (hB : Below w.heap.size w W) (hg : w.heap.size ≤ g) :
    bodyPost Try.prog Try.f21 (RDone w msg0 er) .ret a
      (((((((((W.setCell ⟨g, 0, none⟩ (.int .u8 0)).setCell ⟨g, 1, none⟩ (.int .i64 0)).setCell ⟨g, 2, none⟩ (.int .u8 0)).setCell ⟨g, 3, none⟩ (.int .u32 0)).setCell ⟨g, 4, none⟩ (.bool false)).setCell ⟨g, 5, none⟩ (.int .u8 0)).setCell ⟨g, 6, none⟩ (.int .u8 0)).setCell ⟨g, 7, none⟩ (.slice none 0 0)).setCell ⟨g, 8, none⟩ (.slice none 0 0)) := by
  refine bodyPost_ret (results_ct rfl a.tmps _ g 27 #[.int .u8 0, .int .i64 0, .int .u8 0, .int .u32 0, .bool false, .int .u8 0, .int .u8 0, .slice none 0 0, .slice none 0 0] (0, 0) _ h2 (zz9 hb _ _ _ _ _ _ _ _ _) Try.underlying27 rfl (by kernel_rfl)) hd ?_
  rw [h3]
  unfold RDone
  exact ⟨none, 0, none, 0, rfl, Kd.C_nil _ _, Nat.le_refl _, Kd.C_nil _ _, Nat.le_refl _, bb9 hB hg _ _ _ _ _ _ _ _ _⟩
theorem rof_w {l : List Int} (hby : Byt l) (hl : l.length ≤ 1000000) {s : Int} (hs : sumOf l = s) (A : Option Addr) (c : Nat) (w : World) (hr : Kd.C (Kd.int .u8) w A l.length l) (hc : l.length ≤ c) :
    Calls Try.prog 44 #[.slice A l.length c] w fun e w' => e = .returned (.int .u16 s) ∧ Below w.heap.size w w' :=
  (stolonref02_Of.calls (l.length + 1) A c l s w hr hc (by rw [refOf_some l hby hl _ (by omega), hs])).mono fun _ _ h => ⟨h.1, drawn_below h.2⟩
theorem at4_w {l : List Int} (hby : Byt l) (hl : l.length ≤ 1000000) (h8 : 8 ≤ l.length) {v : Int} (hv : av (l.drop 4) = v) (A : Option Addr) (c : Nat) (w : World) (hr : Kd.C (Kd.int .u8) w A l.length l) (hc : l.length ≤ c) :
    Calls Try.prog 45 #[.slice A l.length c, .int .i64 4] w fun e w' => e = .returned (.int .u32 v) ∧ Below w.heap.size w w' :=
  (stolonref05_at.calls A c l 4 v w hr hc (by have h := rat_some hby (i := 4) (by omega) hl; rw [hv] at h; exact h)).mono fun _ _ h => ⟨h.1, drawn_below h.2⟩
theorem two4_w {l : List Int} (hby : Byt l) (hl : l.length ≤ 1000000) (h8 : 8 ≤ l.length) {v : Int} (hv : be2 (l.drop 4) = v) (A : Option Addr) (c : Nat) (w : World) (hr : Kd.C (Kd.int .u8) w A l.length l) (hc : l.length ≤ c) :
    Calls Try.prog 47 #[.slice A l.length c, .int .i64 4] w fun e w' => e = .returned (.int .i64 v) ∧ Below w.heap.size w w' :=
  (stolonref05_two.calls A c l 4 v w hr hc (by have h := rtwo_some hby (i := 4) (by omega) hl; rw [hv] at h; exact h)).mono fun _ _ h => ⟨h.1, drawn_below h.2⟩
theorem two10_w {l : List Int} (hby : Byt l) (hl : l.length ≤ 1000000) (h8 : 12 ≤ l.length) {v : Int} (hv : be2 (l.drop 10) = v) (A : Option Addr) (c : Nat) (w : World) (hr : Kd.C (Kd.int .u8) w A l.length l) (hc : l.length ≤ c) :
    Calls Try.prog 47 #[.slice A l.length c, .int .i64 10] w fun e w' => e = .returned (.int .i64 v) ∧ Below w.heap.size w w' :=
  (stolonref05_two.calls A c l 10 v w hr hc (by have h := rtwo_some hby (i := 10) (by omega) hl; rw [hv] at h; exact h)).mono fun _ _ h => ⟨h.1, drawn_below h.2⟩
theorem many12_w {l : List Int} (hby : Byt l) (hl : l.length ≤ 1000000) {n : Nat} (hn : n ≤ 1000000) {xs : List Int} {q : Bool} (hx : (if l.length < 12 + 4 * n then ([], false) else ((ads n (l.drop 12) false).1, true)) = (xs, q)) (A : Option Addr) (c : Nat) (w : World) (hr : Kd.C (Kd.int .u8) w A l.length l) (hc : l.length ≤ c) :
    Calls Try.prog 48 #[.slice A l.length c, .int .i64 12, .int .i64 (n : Int)] w fun e w' => ∃ v : Value, e = .returned (.tuple #[v, .bool q]) ∧ Kd.R (Kd.int .u32) 23 w' w.heap.size (fun _ => True) v xs ∧ Below w.heap.size w w' :=
  stolonref05_many.calls (n + 1) A c l 12 n xs q w hr hc (by have h := rmany_some (k := n + 1) hby hl (i := 12) (by omega) hn (by omega); rw [hx] at h; exact h)
theorem recs_w {l : List Int} (hby : Byt l) (hl : l.length ≤ 1000000) (h8 : 8 ≤ l.length) {xs : List S44} {en : Int} {q : Bool} (hx : recR l [] (rcs (be2 (l.drop 6)).toNat (l.drop 8) false) = (xs, en, q)) (A : Option Addr) (c : Nat) (w : World) (hr : Kd.C (Kd.int .u8) w A l.length l) (hc : l.length ≤ c) :
    Calls Try.prog 46 #[.slice A l.length c] w fun e w' => ∃ v : Value, e = .returned (.tuple #[v, .int .i64 en, .bool q]) ∧ Kd.S k44 44 w' w.heap.size (fun _ => True) v xs ∧ Below w.heap.size w w' :=
  stolonref05_records.calls 200000 A c l xs en q w hr hc (by rw [rrecords_some hby hl h8, hx])
theorem rright0_w {k ver code grp : Int} {b : Bool} (hb : rightB ⟨k, ver, code, grp, false, 0, 0, [], []⟩ = b) (w : World) :
    Calls Try.prog 16 #[.agg #[.int .u8 k, .int .i64 ver, .int .u8 code, .int .u32 grp, .bool false, .int .u8 0, .int .u8 0, .slice none 0 0, .slice none 0 0]] w fun e w' => e = .returned (.bool b) ∧ Below w.heap.size w w' :=
  rright_w (m := ⟨k, ver, code, grp, false, 0, 0, [], []⟩) hb (by simp) none 0 none 0 w (Kd.C_nil _ _) (Nat.le_refl _) (Kd.C_nil _ _) (Nat.le_refl _)
theorem rrights_w {k ver code grp rob every : Int} {quiet : Bool} {srcs : List Int} {b : Bool} (hb : rightB ⟨k, ver, code, grp, quiet, rob, every, srcs, []⟩ = b) (A : Option Addr) (c : Nat) (w : World) (hr : Kd.C (Kd.int .u32) w A srcs.length srcs) (hc : srcs.length ≤ c) :
    Calls Try.prog 16 #[.agg #[.int .u8 k, .int .i64 ver, .int .u8 code, .int .u32 grp, .bool quiet, .int .u8 rob, .int .u8 every, .slice A srcs.length c, .slice none 0 0]] w fun e w' => e = .returned (.bool b) ∧ Below w.heap.size w w' :=
  rright_w (m := ⟨k, ver, code, grp, quiet, rob, every, srcs, []⟩) hb (by simp) A c none 0 w hr hc (Kd.C_nil _ _) (Nat.le_refl _)
theorem rrightr_w {k code : Int} {recs : List S44} {b : Bool} (hb : rightB ⟨k, 0, code, 0, false, 0, 0, [], recs⟩ = b) (hl : recs.length ≤ 1000000) (A : Option Addr) (c : Nat) (w : World) (hr : Kd.C k44 w A recs.length recs) (hc : recs.length ≤ c) :
    Calls Try.prog 16 #[.agg #[.int .u8 k, .int .i64 0, .int .u8 code, .int .u32 0, .bool false, .int .u8 0, .int .u8 0, .slice none 0 0, .slice A recs.length c]] w fun e w' => e = .returned (.bool b) ∧ Below w.heap.size w w' :=
  rright_w (m := ⟨k, 0, code, 0, false, 0, 0, [], recs⟩) hb hl none 0 A c w (Kd.C_nil _ _) (Nat.le_refl _) hr hc
/-- The ways that the reading may go. -/
inductive Way (l : List Int) (k code : Int) (m : Msg) (er : Int) : Prop
  | other (n1 : (k == 18) = false) (n2 : (k == 22) = false) (n3 : (k == 23) = false) (n4 : (k == 34) = false) (n5 : (k == 17) = false) (hm : m = msg0) (he : er = 2)
  | plain (kk : k = 18 ∨ k = 22 ∨ k = 23) (grp : Int) (hg : av (l.drop 4) = grp) (q b : Bool) (hq : ((8 : Int) != (l.length : Int)) = q) (hb : rightB ⟨k, 0, code, grp, false, 0, 0, [], []⟩ = b) (hm : m = if q = false ∧ b = true then ⟨k, 0, code, grp, false, 0, 0, [], []⟩ else msg0) (he : er = if q = false ∧ b = true then 0 else 2)
  | recno (kk : k = 34) (xs : List S44) (en : Int) (hx : recR l [] (rcs (be2 (l.drop 6)).toNat (l.drop 8) false) = (xs, en, false)) (hm : m = msg0) (he : er = 3)
  | recodd (kk : k = 34) (xs : List S44) (en : Int) (hx : recR l [] (rcs (be2 (l.drop 6)).toNat (l.drop 8) false) = (xs, en, true)) (v : Int) (hv : be2 (l.drop 4) = v) (hne : (v != 0) = true) (hm : m = msg0) (he : er = 2)
  | rec_ (kk : k = 34) (xs : List S44) (en : Int) (hx : recR l [] (rcs (be2 (l.drop 6)).toNat (l.drop 8) false) = (xs, en, true)) (hxl : xs.length ≤ 1000000) (hv : be2 (l.drop 4) = 0) (q b : Bool) (hq : (en != (l.length : Int)) = q) (hb : rightB ⟨34, 0, code, 0, false, 0, 0, [], xs⟩ = b) (hm : m = if q = false ∧ b = true then ⟨34, 0, code, 0, false, 0, 0, [], xs⟩ else msg0) (he : er = if q = false ∧ b = true then 0 else 2)
  | q1 (kk : k = 17) (hl8 : l.length = 8) (hz : (code == 0) = true) (grp : Int) (hg : av (l.drop 4) = grp) (b : Bool) (hb : rightB ⟨17, 1, code, 0, false, 0, 0, [], []⟩ = b) (hm : m = if b = true then ⟨17, 1, code, 0, false, 0, 0, [], []⟩ else msg0) (he : er = if b = true then 0 else 2)
  | q2 (kk : k = 17) (hl8 : l.length = 8) (hz : (code == 0) = false) (grp : Int) (hg : av (l.drop 4) = grp) (b : Bool) (hb : rightB ⟨17, 2, code, grp, false, 0, 0, [], []⟩ = b) (hm : m = if b = true then ⟨17, 2, code, grp, false, 0, 0, [], []⟩ else msg0) (he : er = if b = true then 0 else 2)
  | q3s (kk : k = 17) (hl8 : 8 < l.length) (hl12 : l.length < 12) (grp : Int) (hg : av (l.drop 4) = grp) (hm : m = msg0) (he : er = 3)
  | q3n (kk : k = 17) (hl12 : 12 ≤ l.length) (grp : Int) (hg : av (l.drop 4) = grp) (n : Nat) (hn : be2 (l.drop 10) = (n : Int)) (hn2 : n ≤ 1000000) (xs : List Int) (hx : (if l.length < 12 + 4 * n then ([], false) else ((ads n (l.drop 12) false).1, true)) = (xs, false)) (hm : m = msg0) (he : er = 3)
  | q3 (kk : k = 17) (hl12 : 12 ≤ l.length) (grp : Int) (hg : av (l.drop 4) = grp) (n : Nat) (hn : be2 (l.drop 10) = (n : Int)) (hn2 : n ≤ 1000000) (xs : List Int) (hx : (if l.length < 12 + 4 * n then ([], false) else ((ads n (l.drop 12) false).1, true)) = (xs, true)) (hxl : xs.length ≤ 1000000) (f : Int) (hf : rd l 8 = f) (rob : Int) (hrob : Int.tmod f 8 = rob) (quiet : Bool) (hquiet : (Int.tdiv f 8 % 2 == 1) = quiet) (every : Int) (hev : rd l 9 = every) (en : Int) (hen : wrap64 (12 + wrap64 (4 * (xs.length : Int))) = en) (q b : Bool) (hq : (en != (l.length : Int)) = q) (hb : rightB ⟨17, 3, code, grp, quiet, rob, every, xs, []⟩ = b) (hm : m = if q = false ∧ b = true then ⟨17, 3, code, grp, quiet, rob, every, xs, []⟩ else msg0) (he : er = if q = false ∧ b = true then 0 else 2)
set_option maxHeartbeats 8000000 in
set_option maxRecDepth 100000 in
theorem rdc_short {l : List Int} (hby : Byt l) (hl : l.length ≤ 1000000) (h8 : l.length < 8) {m : Msg} (hm : m = msg0) {er : Int} (he : er = 3) (A_l : Option Addr) (c_l : Nat) (w : World) (hr : Kd.C (Kd.int .u8) w A_l l.length l) (hc : l.length ≤ c_l) :
    Calls Try.prog 21 #[.slice A_l l.length c_l] w (RDone w m er) := by
  have hu27 := Try.underlying27
  have HB := Aside0.mk (Below.refl w.heap.size w)
  have HC_l := Aside0.mk hr
  have HK_l := Aside0.mk hc
  have XBY := Aside0.mk hby
  have XL := Aside0.mk hl
  clear hr hc hby hl
  have e8 : decide ((l.length : Int) < 8) = true := decide_eq_true (by omega)
  clear h8
  subst hm he
  go_enter Try.func21, Try.ntmps21
  go_wp2_with (first | ((with_reducible refine gate_dst (N := 2) rfl ?_); (try (refine gate_guard (by rfl) ?_; dsimp only)); refine box_event ?hg (N := 2) ?hd (cs := #[.int .u8 0, .int .i64 0, .int .u8 0, .int .u32 0, .bool false, .int .u8 0, .int .u8 0, .slice none 0 0, .slice none 0 0]) (t := 27) ?hr ?_; (case hd => rfl); (case hg => rfl); (case hr => first | (go_simp; done) | (go_simp; rfl)); intro gq hg w1_ hbox hB; have HBo := Aside0.mk HB.out; have nHB := Aside0.mk (HB.out.trans (hB.mono HB.out.size)); clear HB; have HB := nHB; clear nHB; have BK_gq := Aside0.mk hbox; have GE_gq := Aside0.mk (show w.heap.size ≤ gq by rw [hg]; exact HBo.out.size); clear hg hbox hB; obtain ⟨hc_gq_0, hc_gq_1, hc_gq_2, hc_gq_3, hc_gq_4, hc_gq_5, hc_gq_6, hc_gq_7, hc_gq_8, hf_gq_0, hf_gq_1, hf_gq_2, hf_gq_3, hf_gq_4, hf_gq_5, hf_gq_6, hf_gq_7, hf_gq_8⟩ := cf9 BK_gq.out; clear HBo))
  exact rdc_end rfl rfl rfl BK_gq.out HB.out GE_gq.out
set_option maxHeartbeats 8000000 in
set_option maxRecDepth 100000 in
theorem rdc_sum {l : List Int} (hby : Byt l) (hl : l.length ≤ 1000000) (h8 : 8 ≤ l.length) {s : Int} (hs : sumOf l = s) (hne : (s != 0) = true) {m : Msg} (hm : m = msg0) {er : Int} (he : er = 4) (A_l : Option Addr) (c_l : Nat) (w : World) (hr : Kd.C (Kd.int .u8) w A_l l.length l) (hc : l.length ≤ c_l) :
    Calls Try.prog 21 #[.slice A_l l.length c_l] w (RDone w m er) := by
  have hu27 := Try.underlying27
  have HB := Aside0.mk (Below.refl w.heap.size w)
  have HC_l := Aside0.mk hr
  have HK_l := Aside0.mk hc
  have XBY := Aside0.mk hby
  have XL := Aside0.mk hl
  clear hr hc hby hl
  have e8 : decide ((l.length : Int) < 8) = false := decide_eq_false (by omega)
  have Xhs := Aside0.mk hs
  clear h8 hs
  subst hm he
  go_enter Try.func21, Try.ntmps21
  go_wp2_with (first | ((with_reducible refine gate_dst (N := 2) rfl ?_); (try (refine gate_guard (by rfl) ?_; dsimp only)); refine box_event ?hg (N := 2) ?hd (cs := #[.int .u8 0, .int .i64 0, .int .u8 0, .int .u32 0, .bool false, .int .u8 0, .int .u8 0, .slice none 0 0, .slice none 0 0]) (t := 27) ?hr ?_; (case hd => rfl); (case hg => rfl); (case hr => first | (go_simp; done) | (go_simp; rfl)); intro gq hg w1_ hbox hB; have HBo := Aside0.mk HB.out; have nHB := Aside0.mk (HB.out.trans (hB.mono HB.out.size)); clear HB; have HB := nHB; clear nHB; have BK_gq := Aside0.mk hbox; have GE_gq := Aside0.mk (show w.heap.size ≤ gq by rw [hg]; exact HBo.out.size); clear hg hbox hB; obtain ⟨hc_gq_0, hc_gq_1, hc_gq_2, hc_gq_3, hc_gq_4, hc_gq_5, hc_gq_6, hc_gq_7, hc_gq_8, hf_gq_0, hf_gq_1, hf_gq_2, hf_gq_3, hf_gq_4, hf_gq_5, hf_gq_6, hf_gq_7, hf_gq_8⟩ := cf9 BK_gq.out; clear HBo) | (go_at_call 44; with_reducible refine (rof_w XBY.out XL.out Xhs.out _ _ _ (Kd.C_below HC_l.out HB.out) HK_l.out).mono ?_; rintro e w2_ ⟨rfl, hB⟩; have nHB := Aside0.mk (HB.out.trans (hB.mono HB.out.size)); clear HB; have HB := nHB; clear nHB; clear hc_gq_0 hf_gq_0 hc_gq_1 hf_gq_1 hc_gq_2 hf_gq_2 hc_gq_3 hf_gq_3 hc_gq_4 hf_gq_4 hc_gq_5 hf_gq_5 hc_gq_6 hf_gq_6 hc_gq_7 hf_gq_7 hc_gq_8 hf_gq_8; have nBK := Aside0.mk (blk_below (g := gq) (o := .cells #[.int .u8 0, .int .i64 0, .int .u8 0, .int .u32 0, .bool false, .int .u8 0, .int .u8 0, .slice none 0 0, .slice none 0 0] 27 (0, 0)) BK_gq.out hB); clear BK_gq; have BK_gq := nBK; clear nBK; obtain ⟨hc_gq_0, hc_gq_1, hc_gq_2, hc_gq_3, hc_gq_4, hc_gq_5, hc_gq_6, hc_gq_7, hc_gq_8, hf_gq_0, hf_gq_1, hf_gq_2, hf_gq_3, hf_gq_4, hf_gq_5, hf_gq_6, hf_gq_7, hf_gq_8⟩ := cf9 BK_gq.out; clear hB))
  exact rdc_end rfl rfl rfl BK_gq.out HB.out GE_gq.out
set_option maxHeartbeats 8000000 in
set_option maxRecDepth 100000 in
theorem rdc_walk {l : List Int} (hby : Byt l) (hl : l.length ≤ 1000000) (h8 : 8 ≤ l.length) (hs : sumOf l = 0) {k code : Int} (hk : rd l 0 = k) (hcode : rd l 1 = code) {m : Msg} {er : Int} (hw : Way l k code m er) (A_l : Option Addr) (c_l : Nat) (w : World) (hr : Kd.C (Kd.int .u8) w A_l l.length l) (hc : l.length ≤ c_l) :
    Calls Try.prog 21 #[.slice A_l l.length c_l] w (RDone w m er) := by
  have hu27 := Try.underlying27
  have HB := Aside0.mk (Below.refl w.heap.size w)
  have HC_l := Aside0.mk hr
  have HK_l := Aside0.mk hc
  have XBY := Aside0.mk hby
  have XL := Aside0.mk hl
  clear hr hc hby hl
  have Xh8 := Aside0.mk h8
  clear h8
  have Xhs := Aside0.mk hs
  clear hs
  have Xhk := Aside0.mk hk
  clear hk
  have Xhcode := Aside0.mk hcode
  clear hcode
  have Xhw := Aside0.mk hw
  clear hw
  obtain ⟨ad, rfl, _⟩ := Kd.at_int HC_l.out 0 (by have := Xh8.out; omega) (by have := Xh8.out; omega)
  have e8 : decide ((l.length : Int) < 8) = false := decide_eq_false (by have := Xh8.out; omega)
  go_enter Try.func21, Try.ntmps21
  go_upto_region 5 with (first | ((with_reducible refine gate_dst (N := 2) rfl ?_); (try (refine gate_guard (by rfl) ?_; dsimp only)); refine box_event ?hg (N := 2) ?hd (cs := #[.int .u8 0, .int .i64 0, .int .u8 0, .int .u32 0, .bool false, .int .u8 0, .int .u8 0, .slice none 0 0, .slice none 0 0]) (t := 27) ?hr ?_; (case hd => rfl); (case hg => rfl); (case hr => first | (go_simp; done) | (go_simp; rfl)); intro gq hg w1_ hbox hB; have HBo := Aside0.mk HB.out; have nHB := Aside0.mk (HB.out.trans (hB.mono HB.out.size)); clear HB; have HB := nHB; clear nHB; have BK_gq := Aside0.mk hbox; have GE_gq := Aside0.mk (show w.heap.size ≤ gq by rw [hg]; exact HBo.out.size); clear hg hbox hB; obtain ⟨hc_gq_0, hc_gq_1, hc_gq_2, hc_gq_3, hc_gq_4, hc_gq_5, hc_gq_6, hc_gq_7, hc_gq_8, hf_gq_0, hf_gq_1, hf_gq_2, hf_gq_3, hf_gq_4, hf_gq_5, hf_gq_6, hf_gq_7, hf_gq_8⟩ := cf9 BK_gq.out; clear HBo) | (go_at_call 44; with_reducible refine (rof_w XBY.out XL.out Xhs.out _ _ _ (Kd.C_below HC_l.out HB.out) HK_l.out).mono ?_; rintro e w2_ ⟨rfl, hB⟩; have nHB := Aside0.mk (HB.out.trans (hB.mono HB.out.size)); clear HB; have HB := nHB; clear nHB; clear hc_gq_0 hf_gq_0 hc_gq_1 hf_gq_1 hc_gq_2 hf_gq_2 hc_gq_3 hf_gq_3 hc_gq_4 hf_gq_4 hc_gq_5 hf_gq_5 hc_gq_6 hf_gq_6 hc_gq_7 hf_gq_7 hc_gq_8 hf_gq_8; have nBK := Aside0.mk (blk_below (g := gq) (o := .cells #[.int .u8 0, .int .i64 0, .int .u8 0, .int .u32 0, .bool false, .int .u8 0, .int .u8 0, .slice none 0 0, .slice none 0 0] 27 (0, 0)) BK_gq.out hB); clear BK_gq; have BK_gq := nBK; clear nBK; obtain ⟨hc_gq_0, hc_gq_1, hc_gq_2, hc_gq_3, hc_gq_4, hc_gq_5, hc_gq_6, hc_gq_7, hc_gq_8, hf_gq_0, hf_gq_1, hf_gq_2, hf_gq_3, hf_gq_4, hf_gq_5, hf_gq_6, hf_gq_7, hf_gq_8⟩ := cf9 BK_gq.out; clear hB))
  clear e8
  have y0 := idx_cell0 HC_l.out (by have := Xh8.out; omega)
  have y1 := idx_cell HC_l.out 1 (by decide) (by have := Xh8.out; omega)
  rw [Xhk.out] at y0
  rw [show rd l ((1 : Nat) : Int) = code from Xhcode.out] at y1
  have b0 : 0 < l.length := by have := Xh8.out; omega
  have b1 : ((1 : Int) < (l.length : Int)) = True := eq_true (by have := Xh8.out; omega)
  refine start_ (n := 9) (S := fun w' => w'.cell? ⟨gq, 0, none⟩ = some (.int .u8 0) ∧ w'.cell? ⟨gq, 1, none⟩ = some (.int .i64 0) ∧ w'.cell? ⟨gq, 2, none⟩ = some (.int .u8 0) ∧ w'.cell? ⟨gq, 3, none⟩ = some (.int .u32 0) ∧ w'.cell? ⟨gq, 4, none⟩ = some (.bool false) ∧ w'.cell? ⟨gq, 5, none⟩ = some (.int .u8 0) ∧ w'.cell? ⟨gq, 6, none⟩ = some (.int .u8 0) ∧ w'.cell? ⟨gq, 7, none⟩ = some (.slice none 0 0) ∧ w'.cell? ⟨gq, 8, none⟩ = some (.slice none 0 0) ∧ w'.cell? ad = some (.int .u8 k) ∧ w'.cell? ⟨ad.block, ad.off + 1, none⟩ = some (.int .u8 code)) (ds := []) #[false, false, false, false, false, false, false, false, false] (by kernel_rfl) rfl rfl ⟨hc_gq_0, hc_gq_1, hc_gq_2, hc_gq_3, hc_gq_4, hc_gq_5, hc_gq_6, hc_gq_7, hc_gq_8, ((HB.out.cell (World.block_lt_of_cell? w _ y0)).trans y0), ((HB.out.cell (World.block_lt_of_cell? w _ y1)).trans y1)⟩ (fun hHeld => ?_); refine with_tabW rdc_t5 rdc_b5 (fun HT_ HW_ => ?_)
  have hB : Below w2_.heap.size w2_ w2_.drew := below_drew (Below.refl _ _)
  generalize w2_.drew = w3_ at hB hHeld ⊢
  have nHB := Aside0.mk (HB.out.trans (hB.mono HB.out.size))
  clear HB
  have HB := nHB
  clear nHB
  clear hc_gq_0 hf_gq_0 hc_gq_1 hf_gq_1 hc_gq_2 hf_gq_2 hc_gq_3 hf_gq_3 hc_gq_4 hf_gq_4 hc_gq_5 hf_gq_5 hc_gq_6 hf_gq_6 hc_gq_7 hf_gq_7 hc_gq_8 hf_gq_8
  have nBK := Aside0.mk (blk_below (g := gq) (o := .cells #[.int .u8 0, .int .i64 0, .int .u8 0, .int .u32 0, .bool false, .int .u8 0, .int .u8 0, .slice none 0 0, .slice none 0 0] 27 (0, 0)) BK_gq.out hB)
  clear BK_gq
  have BK_gq := nBK
  clear nBK
  obtain ⟨hc_gq_0, hc_gq_1, hc_gq_2, hc_gq_3, hc_gq_4, hc_gq_5, hc_gq_6, hc_gq_7, hc_gq_8, hf_gq_0, hf_gq_1, hf_gq_2, hf_gq_3, hf_gq_4, hf_gq_5, hf_gq_6, hf_gq_7, hf_gq_8⟩ := cf9 BK_gq.out
  clear hB
  refine pure_ (i := 0) (N := some 20) (v := ?_) (a' := ?_) #[true, false, false, false, false, false, false, false, false] rfl rfl (any_of HT_.out (by kernel_rfl)) (fun _ _ _ h => h) (Or.inl ⟨by rfl, ?_⟩) ?_ ?_
  rotate_left
  · intro w'
    go_simp
    with_reducible rfl
  rotate_left
  · simp only [Act.put, List.setIfInBounds_toArray, List.set_cons_zero, List.set_cons_succ, i64_w, i32_w]
    rfl
  refine pure_ (i := 1) (N := some 21) (v := ?_) (a' := ?_) #[true, true, false, false, false, false, false, false, false] rfl rfl (any_of HT_.out (by kernel_rfl)) (fun _ _ _ h => h) (Or.inl ⟨by rfl, ?_⟩) ?_ ?_
  rotate_left
  · intro w'
    go_simp
    with_reducible rfl
  rotate_left
  · simp only [Act.put, List.setIfInBounds_toArray, List.set_cons_zero, List.set_cons_succ, i64_w, i32_w]
    rfl
  refine take_ (i := 2) (N := some 22) (v := ?_) (a' := ?_) #[true, true, true, false, false, false, false, false, false] rfl rfl (take_ofW HT_.out HW_.out (by kernel_rfl)) (fun _ _ _ h => h) (Or.inl ⟨by rfl, ?_⟩) hHeld ?_ ?_
  rotate_left
  · rintro w' ⟨s0, s1, s2, s3, s4, s5, s6, s7, s8, s9, s10⟩
    go_simp
    with_reducible rfl
  rotate_left
  · simp only [Act.put, List.setIfInBounds_toArray, List.set_cons_zero, List.set_cons_succ, i64_w, i32_w]
    rfl
  refine pure_ (i := 3) (N := some 23) (v := ?_) (a' := ?_) #[true, true, true, true, false, false, false, false, false] rfl rfl (any_of HT_.out (by kernel_rfl)) (fun _ _ _ h => h) (Or.inl ⟨by rfl, ?_⟩) ?_ ?_
  rotate_left
  · intro w'
    go_simp
    with_reducible rfl
  rotate_left
  · simp only [Act.put, List.setIfInBounds_toArray, List.set_cons_zero, List.set_cons_succ, i64_w, i32_w]
    rfl
  refine pure_ (i := 4) (N := some 24) (v := ?_) (a' := ?_) #[true, true, true, true, true, false, false, false, false] rfl rfl (any_of HT_.out (by kernel_rfl)) (fun _ _ _ h => h) (Or.inl ⟨by rfl, ?_⟩) ?_ ?_
  rotate_left
  · intro w'
    go_simp
    with_reducible rfl
  rotate_left
  · simp only [Act.put, List.setIfInBounds_toArray, List.set_cons_zero, List.set_cons_succ, i64_w, i32_w]
    rfl
  refine take_ (i := 5) (N := some 25) (v := ?_) (a' := ?_) #[true, true, true, true, true, true, false, false, false] rfl rfl (take_ofW HT_.out HW_.out (by kernel_rfl)) (fun _ _ _ h => h) (Or.inl ⟨by rfl, ?_⟩) hHeld ?_ ?_
  rotate_left
  · rintro w' ⟨s0, s1, s2, s3, s4, s5, s6, s7, s8, s9, s10⟩
    go_simp
    with_reducible rfl
  rotate_left
  · simp only [Act.put, List.setIfInBounds_toArray, List.set_cons_zero, List.set_cons_succ, i64_w, i32_w]
    rfl
  refine pure_ (i := 6) (N := some 26) (v := ?_) (a' := ?_) #[true, true, true, true, true, true, true, false, false] rfl rfl (any_of HT_.out (by kernel_rfl)) (fun _ _ _ h => h) (Or.inl ⟨by rfl, ?_⟩) ?_ ?_
  rotate_left
  · intro w'
    go_simp
    with_reducible rfl
  rotate_left
  · simp only [Act.put, List.setIfInBounds_toArray, List.set_cons_zero, List.set_cons_succ, i64_w, i32_w]
    rfl
  refine one_ (i := 7) (N := some 4) #[true, true, true, true, true, true, true, true, false] rfl rfl (one_of HT_.out (by kernel_rfl)) (by decide) (fun K hK => ?_)
  refine box_step ?hg (N := 4) ?hd (cs := #[.int .u8 0, .int .i64 0, .int .u8 0, .int .u32 0, .bool false, .int .u8 0, .int .u8 0, .slice none 0 0, .slice none 0 0]) (t := 27) ?hr ?_; (case hd => rfl); (case hg => rfl); (case hr => first | (go_simp; done) | (go_simp; rfl))
  intro gm hg w4_ hbox hB
  have NB_gm_gq := Aside0.mk (show gm ≠ gq by rw [hg]; exact Nat.ne_of_gt (blk_lt (g := gq) (o := .cells #[.int .u8 0, .int .i64 0, .int .u8 0, .int .u32 0, .bool false, .int .u8 0, .int .u8 0, .slice none 0 0, .slice none 0 0] 27 (0, 0)) BK_gq.out))
  have NB_gq_gm := Aside0.mk (Ne.symm NB_gm_gq.out)
  have GE_gm := Aside0.mk (show w.heap.size ≤ gm by rw [hg]; exact HB.out.size)
  have nHB := Aside0.mk (HB.out.trans (hB.mono HB.out.size))
  clear HB
  have HB := nHB
  clear nHB
  clear hc_gq_0 hf_gq_0 hc_gq_1 hf_gq_1 hc_gq_2 hf_gq_2 hc_gq_3 hf_gq_3 hc_gq_4 hf_gq_4 hc_gq_5 hf_gq_5 hc_gq_6 hf_gq_6 hc_gq_7 hf_gq_7 hc_gq_8 hf_gq_8
  have nBK := Aside0.mk (blk_below (g := gq) (o := .cells #[.int .u8 0, .int .i64 0, .int .u8 0, .int .u32 0, .bool false, .int .u8 0, .int .u8 0, .slice none 0 0, .slice none 0 0] 27 (0, 0)) BK_gq.out hB)
  clear BK_gq
  have BK_gq := nBK
  clear nBK
  obtain ⟨hc_gq_0, hc_gq_1, hc_gq_2, hc_gq_3, hc_gq_4, hc_gq_5, hc_gq_6, hc_gq_7, hc_gq_8, hf_gq_0, hf_gq_1, hf_gq_2, hf_gq_3, hf_gq_4, hf_gq_5, hf_gq_6, hf_gq_7, hf_gq_8⟩ := cf9 BK_gq.out
  have BK_gm := Aside0.mk hbox
  clear hg hbox hB
  obtain ⟨hc_gm_0, hc_gm_1, hc_gm_2, hc_gm_3, hc_gm_4, hc_gm_5, hc_gm_6, hc_gm_7, hc_gm_8, hf_gm_0, hf_gm_1, hf_gm_2, hf_gm_3, hf_gm_4, hf_gm_5, hf_gm_6, hf_gm_7, hf_gm_8⟩ := cf9 BK_gm.out
  refine hK.out _ _ ⟨hc_gq_0, hc_gq_1, hc_gq_2, hc_gq_3, hc_gq_4, hc_gq_5, hc_gq_6, hc_gq_7, hc_gq_8, ((HB.out.cell (World.block_lt_of_cell? w _ y0)).trans y0), ((HB.out.cell (World.block_lt_of_cell? w _ y1)).trans y1)⟩ (fun hHeld => ?_)
  clear hK K
  refine norm_ (a' := ?_) ?_ ?_
  rotate_left
  · show Act.put _ (some 4) _ = _
    simp only [Act.put, List.setIfInBounds_toArray, List.set_cons_zero, List.set_cons_succ, i64_w, i32_w]
    rfl
  refine one_ (i := 8) (N := none) #[true, true, true, true, true, true, true, true, true] rfl rfl (one_of HT_.out (by kernel_rfl)) (by decide) (fun K hK => ?_)
  refine skip_ (w1 := ?_) (by rfl) rfl ?_ ?_
  rotate_left
  · go_simp
    rfl
  have nHB : Aside0 (Below w.heap.size w (((((((((w4_.setCell ⟨gm, 0, none⟩ (.int .u8 k)).setCell ⟨gm, 1, none⟩ (.int .i64 0)).setCell ⟨gm, 2, none⟩ (.int .u8 code)).setCell ⟨gm, 3, none⟩ (.int .u32 0)).setCell ⟨gm, 4, none⟩ (.bool false)).setCell ⟨gm, 5, none⟩ (.int .u8 0)).setCell ⟨gm, 6, none⟩ (.int .u8 0)).setCell ⟨gm, 7, none⟩ (.slice none 0 0)).setCell ⟨gm, 8, none⟩ (.slice none 0 0))) := ⟨bb9 HB.out GE_gm.out _ _ _ _ _ _ _ _ _⟩
  have nBK : Aside0 ((((((((((w4_.setCell ⟨gm, 0, none⟩ (.int .u8 k)).setCell ⟨gm, 1, none⟩ (.int .i64 0)).setCell ⟨gm, 2, none⟩ (.int .u8 code)).setCell ⟨gm, 3, none⟩ (.int .u32 0)).setCell ⟨gm, 4, none⟩ (.bool false)).setCell ⟨gm, 5, none⟩ (.int .u8 0)).setCell ⟨gm, 6, none⟩ (.int .u8 0)).setCell ⟨gm, 7, none⟩ (.slice none 0 0)).setCell ⟨gm, 8, none⟩ (.slice none 0 0)).heap[gm]? = some (.cells #[.int .u8 k, .int .i64 0, .int .u8 code, .int .u32 0, .bool false, .int .u8 0, .int .u8 0, .slice none 0 0, .slice none 0 0] 27 (0, 0))) := ⟨zz9 BK_gm.out _ _ _ _ _ _ _ _ _⟩
  have nB_gq : Aside0 ((((((((((w4_.setCell ⟨gm, 0, none⟩ (.int .u8 k)).setCell ⟨gm, 1, none⟩ (.int .i64 0)).setCell ⟨gm, 2, none⟩ (.int .u8 code)).setCell ⟨gm, 3, none⟩ (.int .u32 0)).setCell ⟨gm, 4, none⟩ (.bool false)).setCell ⟨gm, 5, none⟩ (.int .u8 0)).setCell ⟨gm, 6, none⟩ (.int .u8 0)).setCell ⟨gm, 7, none⟩ (.slice none 0 0)).setCell ⟨gm, 8, none⟩ (.slice none 0 0)).heap[gq]? = some (.cells #[.int .u8 0, .int .i64 0, .int .u8 0, .int .u32 0, .bool false, .int .u8 0, .int .u8 0, .slice none 0 0, .slice none 0 0] 27 (0, 0))) := ⟨ff9 BK_gq.out NB_gq_gm.out _ _ _ _ _ _ _ _ _⟩
  clear hc_gq_0 hf_gq_0 hc_gq_1 hf_gq_1 hc_gq_2 hf_gq_2 hc_gq_3 hf_gq_3 hc_gq_4 hf_gq_4 hc_gq_5 hf_gq_5 hc_gq_6 hf_gq_6 hc_gq_7 hf_gq_7 hc_gq_8 hf_gq_8
  clear BK_gq
  clear hc_gm_0 hf_gm_0 hc_gm_1 hf_gm_1 hc_gm_2 hf_gm_2 hc_gm_3 hf_gm_3 hc_gm_4 hf_gm_4 hc_gm_5 hf_gm_5 hc_gm_6 hf_gm_6 hc_gm_7 hf_gm_7 hc_gm_8 hf_gm_8
  clear BK_gm
  clear HB
  generalize (((((((((w4_.setCell ⟨gm, 0, none⟩ (.int .u8 k)).setCell ⟨gm, 1, none⟩ (.int .i64 0)).setCell ⟨gm, 2, none⟩ (.int .u8 code)).setCell ⟨gm, 3, none⟩ (.int .u32 0)).setCell ⟨gm, 4, none⟩ (.bool false)).setCell ⟨gm, 5, none⟩ (.int .u8 0)).setCell ⟨gm, 6, none⟩ (.int .u8 0)).setCell ⟨gm, 7, none⟩ (.slice none 0 0)).setCell ⟨gm, 8, none⟩ (.slice none 0 0)) = w5_ at nHB nBK nB_gq ⊢
  have HB := nHB
  have BK_gm := nBK
  have BK_gq := nB_gq
  clear nHB nBK nB_gq
  obtain ⟨hc_gq_0, hc_gq_1, hc_gq_2, hc_gq_3, hc_gq_4, hc_gq_5, hc_gq_6, hc_gq_7, hc_gq_8, hf_gq_0, hf_gq_1, hf_gq_2, hf_gq_3, hf_gq_4, hf_gq_5, hf_gq_6, hf_gq_7, hf_gq_8⟩ := cf9 BK_gq.out
  obtain ⟨hc_gm_0, hc_gm_1, hc_gm_2, hc_gm_3, hc_gm_4, hc_gm_5, hc_gm_6, hc_gm_7, hc_gm_8, hf_gm_0, hf_gm_1, hf_gm_2, hf_gm_3, hf_gm_4, hf_gm_5, hf_gm_6, hf_gm_7, hf_gm_8⟩ := cf9 BK_gm.out
  refine hK.out _ _ ⟨hc_gq_0, hc_gq_1, hc_gq_2, hc_gq_3, hc_gq_4, hc_gq_5, hc_gq_6, hc_gq_7, hc_gq_8, ((HB.out.cell (World.block_lt_of_cell? w _ y0)).trans y0), ((HB.out.cell (World.block_lt_of_cell? w _ y1)).trans y1)⟩ (fun hHeld => ?_)
  clear hK K
  refine done_ (done_of HT_.out (by kernel_rfl)) ?_
  have z0 := (HB.out.cell (World.block_lt_of_cell? w _ y0)).trans y0
  go_upto_region 9 with fail
  clear z0
  have hw := Xhw.out
  clear Xhw
  cases hw with
  | other n1 n2 n3 n4 n5 hm he =>
    subst hm he
    go_wp2
    exact rdc_end rfl rfl rfl BK_gq.out HB.out GE_gq.out
  | plain kk grp hg q b hq hb hm he =>
    have Xhg := Aside0.mk hg
    have Xhq := Aside0.mk hq
    have Xhm := Aside0.mk hm
    have Xhe := Aside0.mk he
    clear hg hq hm he
    rcases kk with rfl | rfl | rfl
    · have Xhb := Aside0.mk hb
      clear hb
      go_upto_region 39 with (first | (go_at_call 45; with_reducible refine (at4_w XBY.out XL.out Xh8.out Xhg.out _ _ _ (Kd.C_below HC_l.out HB.out) HK_l.out).mono ?_; rintro e w6_ ⟨rfl, hB⟩; have nHB := Aside0.mk (HB.out.trans (hB.mono HB.out.size)); clear HB; have HB := nHB; clear nHB; clear hc_gq_0 hf_gq_0 hc_gq_1 hf_gq_1 hc_gq_2 hf_gq_2 hc_gq_3 hf_gq_3 hc_gq_4 hf_gq_4 hc_gq_5 hf_gq_5 hc_gq_6 hf_gq_6 hc_gq_7 hf_gq_7 hc_gq_8 hf_gq_8; have nBK := Aside0.mk (blk_below (g := gq) (o := .cells #[.int .u8 0, .int .i64 0, .int .u8 0, .int .u32 0, .bool false, .int .u8 0, .int .u8 0, .slice none 0 0, .slice none 0 0] 27 (0, 0)) BK_gq.out hB); clear BK_gq; have BK_gq := nBK; clear nBK; obtain ⟨hc_gq_0, hc_gq_1, hc_gq_2, hc_gq_3, hc_gq_4, hc_gq_5, hc_gq_6, hc_gq_7, hc_gq_8, hf_gq_0, hf_gq_1, hf_gq_2, hf_gq_3, hf_gq_4, hf_gq_5, hf_gq_6, hf_gq_7, hf_gq_8⟩ := cf9 BK_gq.out; clear hc_gm_0 hf_gm_0 hc_gm_1 hf_gm_1 hc_gm_2 hf_gm_2 hc_gm_3 hf_gm_3 hc_gm_4 hf_gm_4 hc_gm_5 hf_gm_5 hc_gm_6 hf_gm_6 hc_gm_7 hf_gm_7 hc_gm_8 hf_gm_8; have nBK := Aside0.mk (blk_below (g := gm) (o := .cells #[.int .u8 18, .int .i64 0, .int .u8 code, .int .u32 0, .bool false, .int .u8 0, .int .u8 0, .slice none 0 0, .slice none 0 0] 27 (0, 0)) BK_gm.out hB); clear BK_gm; have BK_gm := nBK; clear nBK; obtain ⟨hc_gm_0, hc_gm_1, hc_gm_2, hc_gm_3, hc_gm_4, hc_gm_5, hc_gm_6, hc_gm_7, hc_gm_8, hf_gm_0, hf_gm_1, hf_gm_2, hf_gm_3, hf_gm_4, hf_gm_5, hf_gm_6, hf_gm_7, hf_gm_8⟩ := cf9 BK_gm.out; clear hB))
      have nHB : Aside0 (Below w.heap.size w (w6_.setCell ⟨gm, 3, none⟩ (.int .u32 grp))) := ⟨below_set HB.out GE_gm.out⟩
      have nBK : Aside0 ((w6_.setCell ⟨gm, 3, none⟩ (.int .u32 grp)).heap[gm]? = some (.cells #[.int .u8 18, .int .i64 0, .int .u8 code, .int .u32 grp, .bool false, .int .u8 0, .int .u8 0, .slice none 0 0, .slice none 0 0] 27 (0, 0))) := ⟨blk_put (cs := #[.int .u8 18, .int .i64 0, .int .u8 code, .int .u32 0, .bool false, .int .u8 0, .int .u8 0, .slice none 0 0, .slice none 0 0]) BK_gm.out 3 (.int .u32 grp) rfl⟩
      have nB_gq : Aside0 ((w6_.setCell ⟨gm, 3, none⟩ (.int .u32 grp)).heap[gq]? = some (.cells #[.int .u8 0, .int .i64 0, .int .u8 0, .int .u32 0, .bool false, .int .u8 0, .int .u8 0, .slice none 0 0, .slice none 0 0] 27 (0, 0))) := ⟨blk_far BK_gq.out NB_gq_gm.out _⟩
      clear hc_gq_0 hf_gq_0 hc_gq_1 hf_gq_1 hc_gq_2 hf_gq_2 hc_gq_3 hf_gq_3 hc_gq_4 hf_gq_4 hc_gq_5 hf_gq_5 hc_gq_6 hf_gq_6 hc_gq_7 hf_gq_7 hc_gq_8 hf_gq_8
      clear BK_gq
      clear hc_gm_0 hf_gm_0 hc_gm_1 hf_gm_1 hc_gm_2 hf_gm_2 hc_gm_3 hf_gm_3 hc_gm_4 hf_gm_4 hc_gm_5 hf_gm_5 hc_gm_6 hf_gm_6 hc_gm_7 hf_gm_7 hc_gm_8 hf_gm_8
      clear BK_gm
      clear HB
      generalize (w6_.setCell ⟨gm, 3, none⟩ (.int .u32 grp)) = w7_ at nHB nBK nB_gq ⊢
      have HB := nHB
      have BK_gm := nBK
      have BK_gq := nB_gq
      clear nHB nBK nB_gq
      obtain ⟨hc_gq_0, hc_gq_1, hc_gq_2, hc_gq_3, hc_gq_4, hc_gq_5, hc_gq_6, hc_gq_7, hc_gq_8, hf_gq_0, hf_gq_1, hf_gq_2, hf_gq_3, hf_gq_4, hf_gq_5, hf_gq_6, hf_gq_7, hf_gq_8⟩ := cf9 BK_gq.out
      obtain ⟨hc_gm_0, hc_gm_1, hc_gm_2, hc_gm_3, hc_gm_4, hc_gm_5, hc_gm_6, hc_gm_7, hc_gm_8, hf_gm_0, hf_gm_1, hf_gm_2, hf_gm_3, hf_gm_4, hf_gm_5, hf_gm_6, hf_gm_7, hf_gm_8⟩ := cf9 BK_gm.out
      go_upto_region 40 with (first | (go_at_call 16; with_reducible refine (rright0_w Xhb.out _).mono ?_; rintro e w8_ ⟨rfl, hB⟩; have nHB := Aside0.mk (HB.out.trans (hB.mono HB.out.size)); clear HB; have HB := nHB; clear nHB; clear hc_gq_0 hf_gq_0 hc_gq_1 hf_gq_1 hc_gq_2 hf_gq_2 hc_gq_3 hf_gq_3 hc_gq_4 hf_gq_4 hc_gq_5 hf_gq_5 hc_gq_6 hf_gq_6 hc_gq_7 hf_gq_7 hc_gq_8 hf_gq_8; have nBK := Aside0.mk (blk_below (g := gq) (o := .cells #[.int .u8 0, .int .i64 0, .int .u8 0, .int .u32 0, .bool false, .int .u8 0, .int .u8 0, .slice none 0 0, .slice none 0 0] 27 (0, 0)) BK_gq.out hB); clear BK_gq; have BK_gq := nBK; clear nBK; obtain ⟨hc_gq_0, hc_gq_1, hc_gq_2, hc_gq_3, hc_gq_4, hc_gq_5, hc_gq_6, hc_gq_7, hc_gq_8, hf_gq_0, hf_gq_1, hf_gq_2, hf_gq_3, hf_gq_4, hf_gq_5, hf_gq_6, hf_gq_7, hf_gq_8⟩ := cf9 BK_gq.out; clear hc_gm_0 hf_gm_0 hc_gm_1 hf_gm_1 hc_gm_2 hf_gm_2 hc_gm_3 hf_gm_3 hc_gm_4 hf_gm_4 hc_gm_5 hf_gm_5 hc_gm_6 hf_gm_6 hc_gm_7 hf_gm_7 hc_gm_8 hf_gm_8; have nBK := Aside0.mk (blk_below (g := gm) (o := .cells #[.int .u8 18, .int .i64 0, .int .u8 code, .int .u32 grp, .bool false, .int .u8 0, .int .u8 0, .slice none 0 0, .slice none 0 0] 27 (0, 0)) BK_gm.out hB); clear BK_gm; have BK_gm := nBK; clear nBK; obtain ⟨hc_gm_0, hc_gm_1, hc_gm_2, hc_gm_3, hc_gm_4, hc_gm_5, hc_gm_6, hc_gm_7, hc_gm_8, hf_gm_0, hf_gm_1, hf_gm_2, hf_gm_3, hf_gm_4, hf_gm_5, hf_gm_6, hf_gm_7, hf_gm_8⟩ := cf9 BK_gm.out; clear hB))
      have hq := Xhq.out
      cases q with
      | true =>
        obtain ⟨rfl, rfl⟩ : m = msg0 ∧ er = 2 := ⟨Xhm.out.trans (by simp), Xhe.out.trans (by simp)⟩
        go_wp2
        exact rdc_end rfl rfl rfl BK_gq.out HB.out GE_gq.out
      | false =>
        cases b with
        | false =>
          obtain ⟨rfl, rfl⟩ : m = msg0 ∧ er = 2 := ⟨Xhm.out.trans (by simp), Xhe.out.trans (by simp)⟩
          go_wp2
          exact rdc_end rfl rfl rfl BK_gq.out HB.out GE_gq.out
        | true =>
          obtain ⟨rfl, rfl⟩ : m = ⟨18, 0, code, grp, false, 0, 0, [], []⟩ ∧ er = 0 := ⟨Xhm.out.trans (by simp), Xhe.out.trans (by simp)⟩
          go_wp2
          refine bodyPost_ret (results_ct rfl _ _ gq 27 #[.int .u8 18, .int .i64 0, .int .u8 code, .int .u32 grp, .bool false, .int .u8 0, .int .u8 0, .slice none 0 0, .slice none 0 0] (0, 0) _ rfl (zz9 BK_gq.out _ _ _ _ _ _ _ _ _) Try.underlying27 rfl (by kernel_rfl)) rfl ?_
          unfold RDone
          exact ⟨none, 0, none, 0, rfl, Kd.C_nil _ _, Nat.le_refl _, Kd.C_nil _ _, Nat.le_refl _, bb9 HB.out GE_gq.out _ _ _ _ _ _ _ _ _⟩
    · have Xhb := Aside0.mk hb
      clear hb
      go_upto_region 39 with (first | (go_at_call 45; with_reducible refine (at4_w XBY.out XL.out Xh8.out Xhg.out _ _ _ (Kd.C_below HC_l.out HB.out) HK_l.out).mono ?_; rintro e w6_ ⟨rfl, hB⟩; have nHB := Aside0.mk (HB.out.trans (hB.mono HB.out.size)); clear HB; have HB := nHB; clear nHB; clear hc_gq_0 hf_gq_0 hc_gq_1 hf_gq_1 hc_gq_2 hf_gq_2 hc_gq_3 hf_gq_3 hc_gq_4 hf_gq_4 hc_gq_5 hf_gq_5 hc_gq_6 hf_gq_6 hc_gq_7 hf_gq_7 hc_gq_8 hf_gq_8; have nBK := Aside0.mk (blk_below (g := gq) (o := .cells #[.int .u8 0, .int .i64 0, .int .u8 0, .int .u32 0, .bool false, .int .u8 0, .int .u8 0, .slice none 0 0, .slice none 0 0] 27 (0, 0)) BK_gq.out hB); clear BK_gq; have BK_gq := nBK; clear nBK; obtain ⟨hc_gq_0, hc_gq_1, hc_gq_2, hc_gq_3, hc_gq_4, hc_gq_5, hc_gq_6, hc_gq_7, hc_gq_8, hf_gq_0, hf_gq_1, hf_gq_2, hf_gq_3, hf_gq_4, hf_gq_5, hf_gq_6, hf_gq_7, hf_gq_8⟩ := cf9 BK_gq.out; clear hc_gm_0 hf_gm_0 hc_gm_1 hf_gm_1 hc_gm_2 hf_gm_2 hc_gm_3 hf_gm_3 hc_gm_4 hf_gm_4 hc_gm_5 hf_gm_5 hc_gm_6 hf_gm_6 hc_gm_7 hf_gm_7 hc_gm_8 hf_gm_8; have nBK := Aside0.mk (blk_below (g := gm) (o := .cells #[.int .u8 22, .int .i64 0, .int .u8 code, .int .u32 0, .bool false, .int .u8 0, .int .u8 0, .slice none 0 0, .slice none 0 0] 27 (0, 0)) BK_gm.out hB); clear BK_gm; have BK_gm := nBK; clear nBK; obtain ⟨hc_gm_0, hc_gm_1, hc_gm_2, hc_gm_3, hc_gm_4, hc_gm_5, hc_gm_6, hc_gm_7, hc_gm_8, hf_gm_0, hf_gm_1, hf_gm_2, hf_gm_3, hf_gm_4, hf_gm_5, hf_gm_6, hf_gm_7, hf_gm_8⟩ := cf9 BK_gm.out; clear hB))
      have nHB : Aside0 (Below w.heap.size w (w6_.setCell ⟨gm, 3, none⟩ (.int .u32 grp))) := ⟨below_set HB.out GE_gm.out⟩
      have nBK : Aside0 ((w6_.setCell ⟨gm, 3, none⟩ (.int .u32 grp)).heap[gm]? = some (.cells #[.int .u8 22, .int .i64 0, .int .u8 code, .int .u32 grp, .bool false, .int .u8 0, .int .u8 0, .slice none 0 0, .slice none 0 0] 27 (0, 0))) := ⟨blk_put (cs := #[.int .u8 22, .int .i64 0, .int .u8 code, .int .u32 0, .bool false, .int .u8 0, .int .u8 0, .slice none 0 0, .slice none 0 0]) BK_gm.out 3 (.int .u32 grp) rfl⟩
      have nB_gq : Aside0 ((w6_.setCell ⟨gm, 3, none⟩ (.int .u32 grp)).heap[gq]? = some (.cells #[.int .u8 0, .int .i64 0, .int .u8 0, .int .u32 0, .bool false, .int .u8 0, .int .u8 0, .slice none 0 0, .slice none 0 0] 27 (0, 0))) := ⟨blk_far BK_gq.out NB_gq_gm.out _⟩
      clear hc_gq_0 hf_gq_0 hc_gq_1 hf_gq_1 hc_gq_2 hf_gq_2 hc_gq_3 hf_gq_3 hc_gq_4 hf_gq_4 hc_gq_5 hf_gq_5 hc_gq_6 hf_gq_6 hc_gq_7 hf_gq_7 hc_gq_8 hf_gq_8
      clear BK_gq
      clear hc_gm_0 hf_gm_0 hc_gm_1 hf_gm_1 hc_gm_2 hf_gm_2 hc_gm_3 hf_gm_3 hc_gm_4 hf_gm_4 hc_gm_5 hf_gm_5 hc_gm_6 hf_gm_6 hc_gm_7 hf_gm_7 hc_gm_8 hf_gm_8
      clear BK_gm
      clear HB
      generalize (w6_.setCell ⟨gm, 3, none⟩ (.int .u32 grp)) = w7_ at nHB nBK nB_gq ⊢
      have HB := nHB
      have BK_gm := nBK
      have BK_gq := nB_gq
      clear nHB nBK nB_gq
      obtain ⟨hc_gq_0, hc_gq_1, hc_gq_2, hc_gq_3, hc_gq_4, hc_gq_5, hc_gq_6, hc_gq_7, hc_gq_8, hf_gq_0, hf_gq_1, hf_gq_2, hf_gq_3, hf_gq_4, hf_gq_5, hf_gq_6, hf_gq_7, hf_gq_8⟩ := cf9 BK_gq.out
      obtain ⟨hc_gm_0, hc_gm_1, hc_gm_2, hc_gm_3, hc_gm_4, hc_gm_5, hc_gm_6, hc_gm_7, hc_gm_8, hf_gm_0, hf_gm_1, hf_gm_2, hf_gm_3, hf_gm_4, hf_gm_5, hf_gm_6, hf_gm_7, hf_gm_8⟩ := cf9 BK_gm.out
      go_upto_region 40 with (first | (go_at_call 16; with_reducible refine (rright0_w Xhb.out _).mono ?_; rintro e w8_ ⟨rfl, hB⟩; have nHB := Aside0.mk (HB.out.trans (hB.mono HB.out.size)); clear HB; have HB := nHB; clear nHB; clear hc_gq_0 hf_gq_0 hc_gq_1 hf_gq_1 hc_gq_2 hf_gq_2 hc_gq_3 hf_gq_3 hc_gq_4 hf_gq_4 hc_gq_5 hf_gq_5 hc_gq_6 hf_gq_6 hc_gq_7 hf_gq_7 hc_gq_8 hf_gq_8; have nBK := Aside0.mk (blk_below (g := gq) (o := .cells #[.int .u8 0, .int .i64 0, .int .u8 0, .int .u32 0, .bool false, .int .u8 0, .int .u8 0, .slice none 0 0, .slice none 0 0] 27 (0, 0)) BK_gq.out hB); clear BK_gq; have BK_gq := nBK; clear nBK; obtain ⟨hc_gq_0, hc_gq_1, hc_gq_2, hc_gq_3, hc_gq_4, hc_gq_5, hc_gq_6, hc_gq_7, hc_gq_8, hf_gq_0, hf_gq_1, hf_gq_2, hf_gq_3, hf_gq_4, hf_gq_5, hf_gq_6, hf_gq_7, hf_gq_8⟩ := cf9 BK_gq.out; clear hc_gm_0 hf_gm_0 hc_gm_1 hf_gm_1 hc_gm_2 hf_gm_2 hc_gm_3 hf_gm_3 hc_gm_4 hf_gm_4 hc_gm_5 hf_gm_5 hc_gm_6 hf_gm_6 hc_gm_7 hf_gm_7 hc_gm_8 hf_gm_8; have nBK := Aside0.mk (blk_below (g := gm) (o := .cells #[.int .u8 22, .int .i64 0, .int .u8 code, .int .u32 grp, .bool false, .int .u8 0, .int .u8 0, .slice none 0 0, .slice none 0 0] 27 (0, 0)) BK_gm.out hB); clear BK_gm; have BK_gm := nBK; clear nBK; obtain ⟨hc_gm_0, hc_gm_1, hc_gm_2, hc_gm_3, hc_gm_4, hc_gm_5, hc_gm_6, hc_gm_7, hc_gm_8, hf_gm_0, hf_gm_1, hf_gm_2, hf_gm_3, hf_gm_4, hf_gm_5, hf_gm_6, hf_gm_7, hf_gm_8⟩ := cf9 BK_gm.out; clear hB))
      have hq := Xhq.out
      cases q with
      | true =>
        obtain ⟨rfl, rfl⟩ : m = msg0 ∧ er = 2 := ⟨Xhm.out.trans (by simp), Xhe.out.trans (by simp)⟩
        go_wp2
        exact rdc_end rfl rfl rfl BK_gq.out HB.out GE_gq.out
      | false =>
        cases b with
        | false =>
          obtain ⟨rfl, rfl⟩ : m = msg0 ∧ er = 2 := ⟨Xhm.out.trans (by simp), Xhe.out.trans (by simp)⟩
          go_wp2
          exact rdc_end rfl rfl rfl BK_gq.out HB.out GE_gq.out
        | true =>
          obtain ⟨rfl, rfl⟩ : m = ⟨22, 0, code, grp, false, 0, 0, [], []⟩ ∧ er = 0 := ⟨Xhm.out.trans (by simp), Xhe.out.trans (by simp)⟩
          go_wp2
          refine bodyPost_ret (results_ct rfl _ _ gq 27 #[.int .u8 22, .int .i64 0, .int .u8 code, .int .u32 grp, .bool false, .int .u8 0, .int .u8 0, .slice none 0 0, .slice none 0 0] (0, 0) _ rfl (zz9 BK_gq.out _ _ _ _ _ _ _ _ _) Try.underlying27 rfl (by kernel_rfl)) rfl ?_
          unfold RDone
          exact ⟨none, 0, none, 0, rfl, Kd.C_nil _ _, Nat.le_refl _, Kd.C_nil _ _, Nat.le_refl _, bb9 HB.out GE_gq.out _ _ _ _ _ _ _ _ _⟩
    · have Xhb := Aside0.mk hb
      clear hb
      go_upto_region 39 with (first | (go_at_call 45; with_reducible refine (at4_w XBY.out XL.out Xh8.out Xhg.out _ _ _ (Kd.C_below HC_l.out HB.out) HK_l.out).mono ?_; rintro e w6_ ⟨rfl, hB⟩; have nHB := Aside0.mk (HB.out.trans (hB.mono HB.out.size)); clear HB; have HB := nHB; clear nHB; clear hc_gq_0 hf_gq_0 hc_gq_1 hf_gq_1 hc_gq_2 hf_gq_2 hc_gq_3 hf_gq_3 hc_gq_4 hf_gq_4 hc_gq_5 hf_gq_5 hc_gq_6 hf_gq_6 hc_gq_7 hf_gq_7 hc_gq_8 hf_gq_8; have nBK := Aside0.mk (blk_below (g := gq) (o := .cells #[.int .u8 0, .int .i64 0, .int .u8 0, .int .u32 0, .bool false, .int .u8 0, .int .u8 0, .slice none 0 0, .slice none 0 0] 27 (0, 0)) BK_gq.out hB); clear BK_gq; have BK_gq := nBK; clear nBK; obtain ⟨hc_gq_0, hc_gq_1, hc_gq_2, hc_gq_3, hc_gq_4, hc_gq_5, hc_gq_6, hc_gq_7, hc_gq_8, hf_gq_0, hf_gq_1, hf_gq_2, hf_gq_3, hf_gq_4, hf_gq_5, hf_gq_6, hf_gq_7, hf_gq_8⟩ := cf9 BK_gq.out; clear hc_gm_0 hf_gm_0 hc_gm_1 hf_gm_1 hc_gm_2 hf_gm_2 hc_gm_3 hf_gm_3 hc_gm_4 hf_gm_4 hc_gm_5 hf_gm_5 hc_gm_6 hf_gm_6 hc_gm_7 hf_gm_7 hc_gm_8 hf_gm_8; have nBK := Aside0.mk (blk_below (g := gm) (o := .cells #[.int .u8 23, .int .i64 0, .int .u8 code, .int .u32 0, .bool false, .int .u8 0, .int .u8 0, .slice none 0 0, .slice none 0 0] 27 (0, 0)) BK_gm.out hB); clear BK_gm; have BK_gm := nBK; clear nBK; obtain ⟨hc_gm_0, hc_gm_1, hc_gm_2, hc_gm_3, hc_gm_4, hc_gm_5, hc_gm_6, hc_gm_7, hc_gm_8, hf_gm_0, hf_gm_1, hf_gm_2, hf_gm_3, hf_gm_4, hf_gm_5, hf_gm_6, hf_gm_7, hf_gm_8⟩ := cf9 BK_gm.out; clear hB))
      have nHB : Aside0 (Below w.heap.size w (w6_.setCell ⟨gm, 3, none⟩ (.int .u32 grp))) := ⟨below_set HB.out GE_gm.out⟩
      have nBK : Aside0 ((w6_.setCell ⟨gm, 3, none⟩ (.int .u32 grp)).heap[gm]? = some (.cells #[.int .u8 23, .int .i64 0, .int .u8 code, .int .u32 grp, .bool false, .int .u8 0, .int .u8 0, .slice none 0 0, .slice none 0 0] 27 (0, 0))) := ⟨blk_put (cs := #[.int .u8 23, .int .i64 0, .int .u8 code, .int .u32 0, .bool false, .int .u8 0, .int .u8 0, .slice none 0 0, .slice none 0 0]) BK_gm.out 3 (.int .u32 grp) rfl⟩
      have nB_gq : Aside0 ((w6_.setCell ⟨gm, 3, none⟩ (.int .u32 grp)).heap[gq]? = some (.cells #[.int .u8 0, .int .i64 0, .int .u8 0, .int .u32 0, .bool false, .int .u8 0, .int .u8 0, .slice none 0 0, .slice none 0 0] 27 (0, 0))) := ⟨blk_far BK_gq.out NB_gq_gm.out _⟩
      clear hc_gq_0 hf_gq_0 hc_gq_1 hf_gq_1 hc_gq_2 hf_gq_2 hc_gq_3 hf_gq_3 hc_gq_4 hf_gq_4 hc_gq_5 hf_gq_5 hc_gq_6 hf_gq_6 hc_gq_7 hf_gq_7 hc_gq_8 hf_gq_8
      clear BK_gq
      clear hc_gm_0 hf_gm_0 hc_gm_1 hf_gm_1 hc_gm_2 hf_gm_2 hc_gm_3 hf_gm_3 hc_gm_4 hf_gm_4 hc_gm_5 hf_gm_5 hc_gm_6 hf_gm_6 hc_gm_7 hf_gm_7 hc_gm_8 hf_gm_8
      clear BK_gm
      clear HB
      generalize (w6_.setCell ⟨gm, 3, none⟩ (.int .u32 grp)) = w7_ at nHB nBK nB_gq ⊢
      have HB := nHB
      have BK_gm := nBK
      have BK_gq := nB_gq
      clear nHB nBK nB_gq
      obtain ⟨hc_gq_0, hc_gq_1, hc_gq_2, hc_gq_3, hc_gq_4, hc_gq_5, hc_gq_6, hc_gq_7, hc_gq_8, hf_gq_0, hf_gq_1, hf_gq_2, hf_gq_3, hf_gq_4, hf_gq_5, hf_gq_6, hf_gq_7, hf_gq_8⟩ := cf9 BK_gq.out
      obtain ⟨hc_gm_0, hc_gm_1, hc_gm_2, hc_gm_3, hc_gm_4, hc_gm_5, hc_gm_6, hc_gm_7, hc_gm_8, hf_gm_0, hf_gm_1, hf_gm_2, hf_gm_3, hf_gm_4, hf_gm_5, hf_gm_6, hf_gm_7, hf_gm_8⟩ := cf9 BK_gm.out
      go_upto_region 40 with (first | (go_at_call 16; with_reducible refine (rright0_w Xhb.out _).mono ?_; rintro e w8_ ⟨rfl, hB⟩; have nHB := Aside0.mk (HB.out.trans (hB.mono HB.out.size)); clear HB; have HB := nHB; clear nHB; clear hc_gq_0 hf_gq_0 hc_gq_1 hf_gq_1 hc_gq_2 hf_gq_2 hc_gq_3 hf_gq_3 hc_gq_4 hf_gq_4 hc_gq_5 hf_gq_5 hc_gq_6 hf_gq_6 hc_gq_7 hf_gq_7 hc_gq_8 hf_gq_8; have nBK := Aside0.mk (blk_below (g := gq) (o := .cells #[.int .u8 0, .int .i64 0, .int .u8 0, .int .u32 0, .bool false, .int .u8 0, .int .u8 0, .slice none 0 0, .slice none 0 0] 27 (0, 0)) BK_gq.out hB); clear BK_gq; have BK_gq := nBK; clear nBK; obtain ⟨hc_gq_0, hc_gq_1, hc_gq_2, hc_gq_3, hc_gq_4, hc_gq_5, hc_gq_6, hc_gq_7, hc_gq_8, hf_gq_0, hf_gq_1, hf_gq_2, hf_gq_3, hf_gq_4, hf_gq_5, hf_gq_6, hf_gq_7, hf_gq_8⟩ := cf9 BK_gq.out; clear hc_gm_0 hf_gm_0 hc_gm_1 hf_gm_1 hc_gm_2 hf_gm_2 hc_gm_3 hf_gm_3 hc_gm_4 hf_gm_4 hc_gm_5 hf_gm_5 hc_gm_6 hf_gm_6 hc_gm_7 hf_gm_7 hc_gm_8 hf_gm_8; have nBK := Aside0.mk (blk_below (g := gm) (o := .cells #[.int .u8 23, .int .i64 0, .int .u8 code, .int .u32 grp, .bool false, .int .u8 0, .int .u8 0, .slice none 0 0, .slice none 0 0] 27 (0, 0)) BK_gm.out hB); clear BK_gm; have BK_gm := nBK; clear nBK; obtain ⟨hc_gm_0, hc_gm_1, hc_gm_2, hc_gm_3, hc_gm_4, hc_gm_5, hc_gm_6, hc_gm_7, hc_gm_8, hf_gm_0, hf_gm_1, hf_gm_2, hf_gm_3, hf_gm_4, hf_gm_5, hf_gm_6, hf_gm_7, hf_gm_8⟩ := cf9 BK_gm.out; clear hB))
      have hq := Xhq.out
      cases q with
      | true =>
        obtain ⟨rfl, rfl⟩ : m = msg0 ∧ er = 2 := ⟨Xhm.out.trans (by simp), Xhe.out.trans (by simp)⟩
        go_wp2
        exact rdc_end rfl rfl rfl BK_gq.out HB.out GE_gq.out
      | false =>
        cases b with
        | false =>
          obtain ⟨rfl, rfl⟩ : m = msg0 ∧ er = 2 := ⟨Xhm.out.trans (by simp), Xhe.out.trans (by simp)⟩
          go_wp2
          exact rdc_end rfl rfl rfl BK_gq.out HB.out GE_gq.out
        | true =>
          obtain ⟨rfl, rfl⟩ : m = ⟨23, 0, code, grp, false, 0, 0, [], []⟩ ∧ er = 0 := ⟨Xhm.out.trans (by simp), Xhe.out.trans (by simp)⟩
          go_wp2
          refine bodyPost_ret (results_ct rfl _ _ gq 27 #[.int .u8 23, .int .i64 0, .int .u8 code, .int .u32 grp, .bool false, .int .u8 0, .int .u8 0, .slice none 0 0, .slice none 0 0] (0, 0) _ rfl (zz9 BK_gq.out _ _ _ _ _ _ _ _ _) Try.underlying27 rfl (by kernel_rfl)) rfl ?_
          unfold RDone
          exact ⟨none, 0, none, 0, rfl, Kd.C_nil _ _, Nat.le_refl _, Kd.C_nil _ _, Nat.le_refl _, bb9 HB.out GE_gq.out _ _ _ _ _ _ _ _ _⟩
  | recno kk xs en hx hm he =>
    obtain rfl := kk
    subst hm he
    have Xhx := Aside0.mk hx
    clear hx
    go_wp2_with (first | (go_at_call 46; with_reducible refine (recs_w XBY.out XL.out Xh8.out Xhx.out _ _ _ (Kd.C_below HC_l.out HB.out) HK_l.out).mono ?_; rintro e w6_ ⟨v_x, rfl, hR, hB⟩; obtain ⟨A_x, c_x, rfl⟩ := Kd.S_slice hR; have hsz := HB.out.size; have nHB := Aside0.mk (HB.out.trans (hB.mono HB.out.size)); clear HB; have HB := nHB; clear nHB; clear hc_gq_0 hf_gq_0 hc_gq_1 hf_gq_1 hc_gq_2 hf_gq_2 hc_gq_3 hf_gq_3 hc_gq_4 hf_gq_4 hc_gq_5 hf_gq_5 hc_gq_6 hf_gq_6 hc_gq_7 hf_gq_7 hc_gq_8 hf_gq_8; have nBK := Aside0.mk (blk_below (g := gq) (o := .cells #[.int .u8 0, .int .i64 0, .int .u8 0, .int .u32 0, .bool false, .int .u8 0, .int .u8 0, .slice none 0 0, .slice none 0 0] 27 (0, 0)) BK_gq.out hB); clear BK_gq; have BK_gq := nBK; clear nBK; obtain ⟨hc_gq_0, hc_gq_1, hc_gq_2, hc_gq_3, hc_gq_4, hc_gq_5, hc_gq_6, hc_gq_7, hc_gq_8, hf_gq_0, hf_gq_1, hf_gq_2, hf_gq_3, hf_gq_4, hf_gq_5, hf_gq_6, hf_gq_7, hf_gq_8⟩ := cf9 BK_gq.out; clear hc_gm_0 hf_gm_0 hc_gm_1 hf_gm_1 hc_gm_2 hf_gm_2 hc_gm_3 hf_gm_3 hc_gm_4 hf_gm_4 hc_gm_5 hf_gm_5 hc_gm_6 hf_gm_6 hc_gm_7 hf_gm_7 hc_gm_8 hf_gm_8; have nBK := Aside0.mk (blk_below (g := gm) (o := .cells #[.int .u8 34, .int .i64 0, .int .u8 code, .int .u32 0, .bool false, .int .u8 0, .int .u8 0, .slice none 0 0, .slice none 0 0] 27 (0, 0)) BK_gm.out hB); clear BK_gm; have BK_gm := nBK; clear nBK; obtain ⟨hc_gm_0, hc_gm_1, hc_gm_2, hc_gm_3, hc_gm_4, hc_gm_5, hc_gm_6, hc_gm_7, hc_gm_8, hf_gm_0, hf_gm_1, hf_gm_2, hf_gm_3, hf_gm_4, hf_gm_5, hf_gm_6, hf_gm_7, hf_gm_8⟩ := cf9 BK_gm.out; have HS_x := Aside0.mk (Kd.S_lower hR hsz); clear hR hsz hB))
    exact rdc_end rfl rfl rfl BK_gq.out HB.out GE_gq.out
  | recodd kk xs en hx v hv hne hm he =>
    obtain rfl := kk
    subst hm he
    have Xhx := Aside0.mk hx
    have Xhv := Aside0.mk hv
    clear hx hv
    go_wp2_with (first | (go_at_call 46; with_reducible refine (recs_w XBY.out XL.out Xh8.out Xhx.out _ _ _ (Kd.C_below HC_l.out HB.out) HK_l.out).mono ?_; rintro e w6_ ⟨v_x, rfl, hR, hB⟩; obtain ⟨A_x, c_x, rfl⟩ := Kd.S_slice hR; have hsz := HB.out.size; have nHB := Aside0.mk (HB.out.trans (hB.mono HB.out.size)); clear HB; have HB := nHB; clear nHB; clear hc_gq_0 hf_gq_0 hc_gq_1 hf_gq_1 hc_gq_2 hf_gq_2 hc_gq_3 hf_gq_3 hc_gq_4 hf_gq_4 hc_gq_5 hf_gq_5 hc_gq_6 hf_gq_6 hc_gq_7 hf_gq_7 hc_gq_8 hf_gq_8; have nBK := Aside0.mk (blk_below (g := gq) (o := .cells #[.int .u8 0, .int .i64 0, .int .u8 0, .int .u32 0, .bool false, .int .u8 0, .int .u8 0, .slice none 0 0, .slice none 0 0] 27 (0, 0)) BK_gq.out hB); clear BK_gq; have BK_gq := nBK; clear nBK; obtain ⟨hc_gq_0, hc_gq_1, hc_gq_2, hc_gq_3, hc_gq_4, hc_gq_5, hc_gq_6, hc_gq_7, hc_gq_8, hf_gq_0, hf_gq_1, hf_gq_2, hf_gq_3, hf_gq_4, hf_gq_5, hf_gq_6, hf_gq_7, hf_gq_8⟩ := cf9 BK_gq.out; clear hc_gm_0 hf_gm_0 hc_gm_1 hf_gm_1 hc_gm_2 hf_gm_2 hc_gm_3 hf_gm_3 hc_gm_4 hf_gm_4 hc_gm_5 hf_gm_5 hc_gm_6 hf_gm_6 hc_gm_7 hf_gm_7 hc_gm_8 hf_gm_8; have nBK := Aside0.mk (blk_below (g := gm) (o := .cells #[.int .u8 34, .int .i64 0, .int .u8 code, .int .u32 0, .bool false, .int .u8 0, .int .u8 0, .slice none 0 0, .slice none 0 0] 27 (0, 0)) BK_gm.out hB); clear BK_gm; have BK_gm := nBK; clear nBK; obtain ⟨hc_gm_0, hc_gm_1, hc_gm_2, hc_gm_3, hc_gm_4, hc_gm_5, hc_gm_6, hc_gm_7, hc_gm_8, hf_gm_0, hf_gm_1, hf_gm_2, hf_gm_3, hf_gm_4, hf_gm_5, hf_gm_6, hf_gm_7, hf_gm_8⟩ := cf9 BK_gm.out; have HS_x := Aside0.mk (Kd.S_lower hR hsz); clear hR hsz hB) | (go_at_call 47; with_reducible refine (two4_w XBY.out XL.out Xh8.out Xhv.out _ _ _ (Kd.C_below HC_l.out HB.out) HK_l.out).mono ?_; rintro e w7_ ⟨rfl, hB⟩; have nHB := Aside0.mk (HB.out.trans (hB.mono HB.out.size)); clear HB; have HB := nHB; clear nHB; clear hc_gq_0 hf_gq_0 hc_gq_1 hf_gq_1 hc_gq_2 hf_gq_2 hc_gq_3 hf_gq_3 hc_gq_4 hf_gq_4 hc_gq_5 hf_gq_5 hc_gq_6 hf_gq_6 hc_gq_7 hf_gq_7 hc_gq_8 hf_gq_8; have nBK := Aside0.mk (blk_below (g := gq) (o := .cells #[.int .u8 0, .int .i64 0, .int .u8 0, .int .u32 0, .bool false, .int .u8 0, .int .u8 0, .slice none 0 0, .slice none 0 0] 27 (0, 0)) BK_gq.out hB); clear BK_gq; have BK_gq := nBK; clear nBK; obtain ⟨hc_gq_0, hc_gq_1, hc_gq_2, hc_gq_3, hc_gq_4, hc_gq_5, hc_gq_6, hc_gq_7, hc_gq_8, hf_gq_0, hf_gq_1, hf_gq_2, hf_gq_3, hf_gq_4, hf_gq_5, hf_gq_6, hf_gq_7, hf_gq_8⟩ := cf9 BK_gq.out; clear hc_gm_0 hf_gm_0 hc_gm_1 hf_gm_1 hc_gm_2 hf_gm_2 hc_gm_3 hf_gm_3 hc_gm_4 hf_gm_4 hc_gm_5 hf_gm_5 hc_gm_6 hf_gm_6 hc_gm_7 hf_gm_7 hc_gm_8 hf_gm_8; have nBK := Aside0.mk (blk_below (g := gm) (o := .cells #[.int .u8 34, .int .i64 0, .int .u8 code, .int .u32 0, .bool false, .int .u8 0, .int .u8 0, .slice none 0 0, .slice none 0 0] 27 (0, 0)) BK_gm.out hB); clear BK_gm; have BK_gm := nBK; clear nBK; obtain ⟨hc_gm_0, hc_gm_1, hc_gm_2, hc_gm_3, hc_gm_4, hc_gm_5, hc_gm_6, hc_gm_7, hc_gm_8, hf_gm_0, hf_gm_1, hf_gm_2, hf_gm_3, hf_gm_4, hf_gm_5, hf_gm_6, hf_gm_7, hf_gm_8⟩ := cf9 BK_gm.out; have nHS := Aside0.mk (Kd.S_below HS_x.out hB); clear HS_x; have HS_x := nHS; clear nHS; clear hB))
    exact rdc_end rfl rfl rfl BK_gq.out HB.out GE_gq.out
  | rec_ kk xs en hx hxl hv q b hq hb hm he =>
    obtain rfl := kk
    have Xhx := Aside0.mk hx
    have Xhxl := Aside0.mk hxl
    have Xhv := Aside0.mk hv
    have Xhq := Aside0.mk hq
    have Xhb := Aside0.mk hb
    have Xhm := Aside0.mk hm
    have Xhe := Aside0.mk he
    clear hx hxl hv hq hb hm he
    go_upto_region 39 with (first | (go_at_call 46; with_reducible refine (recs_w XBY.out XL.out Xh8.out Xhx.out _ _ _ (Kd.C_below HC_l.out HB.out) HK_l.out).mono ?_; rintro e w6_ ⟨v_x, rfl, hR, hB⟩; obtain ⟨A_x, c_x, rfl⟩ := Kd.S_slice hR; have hsz := HB.out.size; have nHB := Aside0.mk (HB.out.trans (hB.mono HB.out.size)); clear HB; have HB := nHB; clear nHB; clear hc_gq_0 hf_gq_0 hc_gq_1 hf_gq_1 hc_gq_2 hf_gq_2 hc_gq_3 hf_gq_3 hc_gq_4 hf_gq_4 hc_gq_5 hf_gq_5 hc_gq_6 hf_gq_6 hc_gq_7 hf_gq_7 hc_gq_8 hf_gq_8; have nBK := Aside0.mk (blk_below (g := gq) (o := .cells #[.int .u8 0, .int .i64 0, .int .u8 0, .int .u32 0, .bool false, .int .u8 0, .int .u8 0, .slice none 0 0, .slice none 0 0] 27 (0, 0)) BK_gq.out hB); clear BK_gq; have BK_gq := nBK; clear nBK; obtain ⟨hc_gq_0, hc_gq_1, hc_gq_2, hc_gq_3, hc_gq_4, hc_gq_5, hc_gq_6, hc_gq_7, hc_gq_8, hf_gq_0, hf_gq_1, hf_gq_2, hf_gq_3, hf_gq_4, hf_gq_5, hf_gq_6, hf_gq_7, hf_gq_8⟩ := cf9 BK_gq.out; clear hc_gm_0 hf_gm_0 hc_gm_1 hf_gm_1 hc_gm_2 hf_gm_2 hc_gm_3 hf_gm_3 hc_gm_4 hf_gm_4 hc_gm_5 hf_gm_5 hc_gm_6 hf_gm_6 hc_gm_7 hf_gm_7 hc_gm_8 hf_gm_8; have nBK := Aside0.mk (blk_below (g := gm) (o := .cells #[.int .u8 34, .int .i64 0, .int .u8 code, .int .u32 0, .bool false, .int .u8 0, .int .u8 0, .slice none 0 0, .slice none 0 0] 27 (0, 0)) BK_gm.out hB); clear BK_gm; have BK_gm := nBK; clear nBK; obtain ⟨hc_gm_0, hc_gm_1, hc_gm_2, hc_gm_3, hc_gm_4, hc_gm_5, hc_gm_6, hc_gm_7, hc_gm_8, hf_gm_0, hf_gm_1, hf_gm_2, hf_gm_3, hf_gm_4, hf_gm_5, hf_gm_6, hf_gm_7, hf_gm_8⟩ := cf9 BK_gm.out; have HS_x := Aside0.mk (Kd.S_lower hR hsz); clear hR hsz hB) | (go_at_call 47; with_reducible refine (two4_w XBY.out XL.out Xh8.out Xhv.out _ _ _ (Kd.C_below HC_l.out HB.out) HK_l.out).mono ?_; rintro e w7_ ⟨rfl, hB⟩; have nHB := Aside0.mk (HB.out.trans (hB.mono HB.out.size)); clear HB; have HB := nHB; clear nHB; clear hc_gq_0 hf_gq_0 hc_gq_1 hf_gq_1 hc_gq_2 hf_gq_2 hc_gq_3 hf_gq_3 hc_gq_4 hf_gq_4 hc_gq_5 hf_gq_5 hc_gq_6 hf_gq_6 hc_gq_7 hf_gq_7 hc_gq_8 hf_gq_8; have nBK := Aside0.mk (blk_below (g := gq) (o := .cells #[.int .u8 0, .int .i64 0, .int .u8 0, .int .u32 0, .bool false, .int .u8 0, .int .u8 0, .slice none 0 0, .slice none 0 0] 27 (0, 0)) BK_gq.out hB); clear BK_gq; have BK_gq := nBK; clear nBK; obtain ⟨hc_gq_0, hc_gq_1, hc_gq_2, hc_gq_3, hc_gq_4, hc_gq_5, hc_gq_6, hc_gq_7, hc_gq_8, hf_gq_0, hf_gq_1, hf_gq_2, hf_gq_3, hf_gq_4, hf_gq_5, hf_gq_6, hf_gq_7, hf_gq_8⟩ := cf9 BK_gq.out; clear hc_gm_0 hf_gm_0 hc_gm_1 hf_gm_1 hc_gm_2 hf_gm_2 hc_gm_3 hf_gm_3 hc_gm_4 hf_gm_4 hc_gm_5 hf_gm_5 hc_gm_6 hf_gm_6 hc_gm_7 hf_gm_7 hc_gm_8 hf_gm_8; have nBK := Aside0.mk (blk_below (g := gm) (o := .cells #[.int .u8 34, .int .i64 0, .int .u8 code, .int .u32 0, .bool false, .int .u8 0, .int .u8 0, .slice none 0 0, .slice none 0 0] 27 (0, 0)) BK_gm.out hB); clear BK_gm; have BK_gm := nBK; clear nBK; obtain ⟨hc_gm_0, hc_gm_1, hc_gm_2, hc_gm_3, hc_gm_4, hc_gm_5, hc_gm_6, hc_gm_7, hc_gm_8, hf_gm_0, hf_gm_1, hf_gm_2, hf_gm_3, hf_gm_4, hf_gm_5, hf_gm_6, hf_gm_7, hf_gm_8⟩ := cf9 BK_gm.out; have nHS := Aside0.mk (Kd.S_below HS_x.out hB); clear HS_x; have HS_x := nHS; clear nHS; clear hB))
    have nS_x := Aside0.mk (Kd.S_set HS_x.out BK_gm.out (by decide) 8 (.slice A_x xs.length c_x))
    have nHB : Aside0 (Below w.heap.size w (w7_.setCell ⟨gm, 8, none⟩ (.slice A_x xs.length c_x))) := ⟨below_set HB.out GE_gm.out⟩
    have nBK : Aside0 ((w7_.setCell ⟨gm, 8, none⟩ (.slice A_x xs.length c_x)).heap[gm]? = some (.cells #[.int .u8 34, .int .i64 0, .int .u8 code, .int .u32 0, .bool false, .int .u8 0, .int .u8 0, .slice none 0 0, .slice A_x xs.length c_x] 27 (0, 0))) := ⟨blk_put (cs := #[.int .u8 34, .int .i64 0, .int .u8 code, .int .u32 0, .bool false, .int .u8 0, .int .u8 0, .slice none 0 0, .slice none 0 0]) BK_gm.out 8 (.slice A_x xs.length c_x) rfl⟩
    have nB_gq : Aside0 ((w7_.setCell ⟨gm, 8, none⟩ (.slice A_x xs.length c_x)).heap[gq]? = some (.cells #[.int .u8 0, .int .i64 0, .int .u8 0, .int .u32 0, .bool false, .int .u8 0, .int .u8 0, .slice none 0 0, .slice none 0 0] 27 (0, 0))) := ⟨blk_far BK_gq.out NB_gq_gm.out _⟩
    clear hc_gq_0 hf_gq_0 hc_gq_1 hf_gq_1 hc_gq_2 hf_gq_2 hc_gq_3 hf_gq_3 hc_gq_4 hf_gq_4 hc_gq_5 hf_gq_5 hc_gq_6 hf_gq_6 hc_gq_7 hf_gq_7 hc_gq_8 hf_gq_8
    clear BK_gq
    clear hc_gm_0 hf_gm_0 hc_gm_1 hf_gm_1 hc_gm_2 hf_gm_2 hc_gm_3 hf_gm_3 hc_gm_4 hf_gm_4 hc_gm_5 hf_gm_5 hc_gm_6 hf_gm_6 hc_gm_7 hf_gm_7 hc_gm_8 hf_gm_8
    clear BK_gm
    clear HB
    clear HS_x
    generalize (w7_.setCell ⟨gm, 8, none⟩ (.slice A_x xs.length c_x)) = w8_ at nHB nBK nB_gq nS_x ⊢
    have HB := nHB
    have BK_gm := nBK
    have BK_gq := nB_gq
    clear nHB nBK nB_gq
    obtain ⟨hc_gq_0, hc_gq_1, hc_gq_2, hc_gq_3, hc_gq_4, hc_gq_5, hc_gq_6, hc_gq_7, hc_gq_8, hf_gq_0, hf_gq_1, hf_gq_2, hf_gq_3, hf_gq_4, hf_gq_5, hf_gq_6, hf_gq_7, hf_gq_8⟩ := cf9 BK_gq.out
    obtain ⟨hc_gm_0, hc_gm_1, hc_gm_2, hc_gm_3, hc_gm_4, hc_gm_5, hc_gm_6, hc_gm_7, hc_gm_8, hf_gm_0, hf_gm_1, hf_gm_2, hf_gm_3, hf_gm_4, hf_gm_5, hf_gm_6, hf_gm_7, hf_gm_8⟩ := cf9 BK_gm.out
    have HS_x := nS_x
    clear nS_x
    go_upto_region 40 with (first | (go_at_call 16; with_reducible refine (rrightr_w Xhb.out Xhxl.out _ _ _ (Kd.S_reads' HS_x.out).2.2 (Kd.S_reads' HS_x.out).2.1).mono ?_; rintro e w9_ ⟨rfl, hB⟩; have nHB := Aside0.mk (HB.out.trans (hB.mono HB.out.size)); clear HB; have HB := nHB; clear nHB; clear hc_gq_0 hf_gq_0 hc_gq_1 hf_gq_1 hc_gq_2 hf_gq_2 hc_gq_3 hf_gq_3 hc_gq_4 hf_gq_4 hc_gq_5 hf_gq_5 hc_gq_6 hf_gq_6 hc_gq_7 hf_gq_7 hc_gq_8 hf_gq_8; have nBK := Aside0.mk (blk_below (g := gq) (o := .cells #[.int .u8 0, .int .i64 0, .int .u8 0, .int .u32 0, .bool false, .int .u8 0, .int .u8 0, .slice none 0 0, .slice none 0 0] 27 (0, 0)) BK_gq.out hB); clear BK_gq; have BK_gq := nBK; clear nBK; obtain ⟨hc_gq_0, hc_gq_1, hc_gq_2, hc_gq_3, hc_gq_4, hc_gq_5, hc_gq_6, hc_gq_7, hc_gq_8, hf_gq_0, hf_gq_1, hf_gq_2, hf_gq_3, hf_gq_4, hf_gq_5, hf_gq_6, hf_gq_7, hf_gq_8⟩ := cf9 BK_gq.out; clear hc_gm_0 hf_gm_0 hc_gm_1 hf_gm_1 hc_gm_2 hf_gm_2 hc_gm_3 hf_gm_3 hc_gm_4 hf_gm_4 hc_gm_5 hf_gm_5 hc_gm_6 hf_gm_6 hc_gm_7 hf_gm_7 hc_gm_8 hf_gm_8; have nBK := Aside0.mk (blk_below (g := gm) (o := .cells #[.int .u8 34, .int .i64 0, .int .u8 code, .int .u32 0, .bool false, .int .u8 0, .int .u8 0, .slice none 0 0, .slice A_x xs.length c_x] 27 (0, 0)) BK_gm.out hB); clear BK_gm; have BK_gm := nBK; clear nBK; obtain ⟨hc_gm_0, hc_gm_1, hc_gm_2, hc_gm_3, hc_gm_4, hc_gm_5, hc_gm_6, hc_gm_7, hc_gm_8, hf_gm_0, hf_gm_1, hf_gm_2, hf_gm_3, hf_gm_4, hf_gm_5, hf_gm_6, hf_gm_7, hf_gm_8⟩ := cf9 BK_gm.out; have nHS := Aside0.mk (Kd.S_below HS_x.out hB); clear HS_x; have HS_x := nHS; clear nHS; clear hB))
    have hq := Xhq.out
    cases q with
    | true =>
      obtain ⟨rfl, rfl⟩ : m = msg0 ∧ er = 2 := ⟨Xhm.out.trans (by simp), Xhe.out.trans (by simp)⟩
      go_wp2
      exact rdc_end rfl rfl rfl BK_gq.out HB.out GE_gq.out
    | false =>
      cases b with
      | false =>
        obtain ⟨rfl, rfl⟩ : m = msg0 ∧ er = 2 := ⟨Xhm.out.trans (by simp), Xhe.out.trans (by simp)⟩
        go_wp2
        exact rdc_end rfl rfl rfl BK_gq.out HB.out GE_gq.out
      | true =>
        obtain ⟨rfl, rfl⟩ : m = ⟨34, 0, code, 0, false, 0, 0, [], xs⟩ ∧ er = 0 := ⟨Xhm.out.trans (by simp), Xhe.out.trans (by simp)⟩
        go_wp2
        refine bodyPost_ret (results_ct rfl _ _ gq 27 #[.int .u8 34, .int .i64 0, .int .u8 code, .int .u32 0, .bool false, .int .u8 0, .int .u8 0, .slice none 0 0, .slice A_x xs.length c_x] (0, 0) _ rfl (zz9 BK_gq.out _ _ _ _ _ _ _ _ _) Try.underlying27 rfl (by kernel_rfl)) rfl ?_
        unfold RDone
        exact ⟨none, 0, A_x, c_x, rfl, Kd.C_nil _ _, Nat.le_refl _, (Kd.S_reads' (ss9 HS_x.out BK_gq.out _ _ _ _ _ _ _ _ _)).2.2, (Kd.S_reads' HS_x.out).2.1, bb9 HB.out GE_gq.out _ _ _ _ _ _ _ _ _⟩
  | q1 kk hl8 hz grp hg b hb hm he =>
    obtain rfl := kk
    have Xhl8 := Aside0.mk hl8
    have Xhz := Aside0.mk hz
    have Xhg := Aside0.mk hg
    have Xhb := Aside0.mk hb
    have Xhm := Aside0.mk hm
    have Xhe := Aside0.mk he
    clear hl8 hz hg hb hm he
    go_upto_region 23 with (first | (go_at_call 45; with_reducible refine (at4_w XBY.out XL.out Xh8.out Xhg.out _ _ _ (Kd.C_below HC_l.out HB.out) HK_l.out).mono ?_; rintro e w6_ ⟨rfl, hB⟩; have nHB := Aside0.mk (HB.out.trans (hB.mono HB.out.size)); clear HB; have HB := nHB; clear nHB; clear hc_gq_0 hf_gq_0 hc_gq_1 hf_gq_1 hc_gq_2 hf_gq_2 hc_gq_3 hf_gq_3 hc_gq_4 hf_gq_4 hc_gq_5 hf_gq_5 hc_gq_6 hf_gq_6 hc_gq_7 hf_gq_7 hc_gq_8 hf_gq_8; have nBK := Aside0.mk (blk_below (g := gq) (o := .cells #[.int .u8 0, .int .i64 0, .int .u8 0, .int .u32 0, .bool false, .int .u8 0, .int .u8 0, .slice none 0 0, .slice none 0 0] 27 (0, 0)) BK_gq.out hB); clear BK_gq; have BK_gq := nBK; clear nBK; obtain ⟨hc_gq_0, hc_gq_1, hc_gq_2, hc_gq_3, hc_gq_4, hc_gq_5, hc_gq_6, hc_gq_7, hc_gq_8, hf_gq_0, hf_gq_1, hf_gq_2, hf_gq_3, hf_gq_4, hf_gq_5, hf_gq_6, hf_gq_7, hf_gq_8⟩ := cf9 BK_gq.out; clear hc_gm_0 hf_gm_0 hc_gm_1 hf_gm_1 hc_gm_2 hf_gm_2 hc_gm_3 hf_gm_3 hc_gm_4 hf_gm_4 hc_gm_5 hf_gm_5 hc_gm_6 hf_gm_6 hc_gm_7 hf_gm_7 hc_gm_8 hf_gm_8; have nBK := Aside0.mk (blk_below (g := gm) (o := .cells #[.int .u8 17, .int .i64 0, .int .u8 code, .int .u32 0, .bool false, .int .u8 0, .int .u8 0, .slice none 0 0, .slice none 0 0] 27 (0, 0)) BK_gm.out hB); clear BK_gm; have BK_gm := nBK; clear nBK; obtain ⟨hc_gm_0, hc_gm_1, hc_gm_2, hc_gm_3, hc_gm_4, hc_gm_5, hc_gm_6, hc_gm_7, hc_gm_8, hf_gm_0, hf_gm_1, hf_gm_2, hf_gm_3, hf_gm_4, hf_gm_5, hf_gm_6, hf_gm_7, hf_gm_8⟩ := cf9 BK_gm.out; clear hB))
    have nHB : Aside0 (Below w.heap.size w (w6_.setCell ⟨gm, 3, none⟩ (.int .u32 grp))) := ⟨below_set HB.out GE_gm.out⟩
    have nBK : Aside0 ((w6_.setCell ⟨gm, 3, none⟩ (.int .u32 grp)).heap[gm]? = some (.cells #[.int .u8 17, .int .i64 0, .int .u8 code, .int .u32 grp, .bool false, .int .u8 0, .int .u8 0, .slice none 0 0, .slice none 0 0] 27 (0, 0))) := ⟨blk_put (cs := #[.int .u8 17, .int .i64 0, .int .u8 code, .int .u32 0, .bool false, .int .u8 0, .int .u8 0, .slice none 0 0, .slice none 0 0]) BK_gm.out 3 (.int .u32 grp) rfl⟩
    have nB_gq : Aside0 ((w6_.setCell ⟨gm, 3, none⟩ (.int .u32 grp)).heap[gq]? = some (.cells #[.int .u8 0, .int .i64 0, .int .u8 0, .int .u32 0, .bool false, .int .u8 0, .int .u8 0, .slice none 0 0, .slice none 0 0] 27 (0, 0))) := ⟨blk_far BK_gq.out NB_gq_gm.out _⟩
    clear hc_gq_0 hf_gq_0 hc_gq_1 hf_gq_1 hc_gq_2 hf_gq_2 hc_gq_3 hf_gq_3 hc_gq_4 hf_gq_4 hc_gq_5 hf_gq_5 hc_gq_6 hf_gq_6 hc_gq_7 hf_gq_7 hc_gq_8 hf_gq_8
    clear BK_gq
    clear hc_gm_0 hf_gm_0 hc_gm_1 hf_gm_1 hc_gm_2 hf_gm_2 hc_gm_3 hf_gm_3 hc_gm_4 hf_gm_4 hc_gm_5 hf_gm_5 hc_gm_6 hf_gm_6 hc_gm_7 hf_gm_7 hc_gm_8 hf_gm_8
    clear BK_gm
    clear HB
    generalize (w6_.setCell ⟨gm, 3, none⟩ (.int .u32 grp)) = w7_ at nHB nBK nB_gq ⊢
    have HB := nHB
    have BK_gm := nBK
    have BK_gq := nB_gq
    clear nHB nBK nB_gq
    obtain ⟨hc_gq_0, hc_gq_1, hc_gq_2, hc_gq_3, hc_gq_4, hc_gq_5, hc_gq_6, hc_gq_7, hc_gq_8, hf_gq_0, hf_gq_1, hf_gq_2, hf_gq_3, hf_gq_4, hf_gq_5, hf_gq_6, hf_gq_7, hf_gq_8⟩ := cf9 BK_gq.out
    obtain ⟨hc_gm_0, hc_gm_1, hc_gm_2, hc_gm_3, hc_gm_4, hc_gm_5, hc_gm_6, hc_gm_7, hc_gm_8, hf_gm_0, hf_gm_1, hf_gm_2, hf_gm_3, hf_gm_4, hf_gm_5, hf_gm_6, hf_gm_7, hf_gm_8⟩ := cf9 BK_gm.out
    go_upto_region 24 with fail
    have nHB : Aside0 (Below w.heap.size w (w7_.setCell ⟨gm, 1, none⟩ (.int .i64 2))) := ⟨below_set HB.out GE_gm.out⟩
    have nBK : Aside0 ((w7_.setCell ⟨gm, 1, none⟩ (.int .i64 2)).heap[gm]? = some (.cells #[.int .u8 17, .int .i64 2, .int .u8 code, .int .u32 grp, .bool false, .int .u8 0, .int .u8 0, .slice none 0 0, .slice none 0 0] 27 (0, 0))) := ⟨blk_put (cs := #[.int .u8 17, .int .i64 0, .int .u8 code, .int .u32 grp, .bool false, .int .u8 0, .int .u8 0, .slice none 0 0, .slice none 0 0]) BK_gm.out 1 (.int .i64 2) rfl⟩
    have nB_gq : Aside0 ((w7_.setCell ⟨gm, 1, none⟩ (.int .i64 2)).heap[gq]? = some (.cells #[.int .u8 0, .int .i64 0, .int .u8 0, .int .u32 0, .bool false, .int .u8 0, .int .u8 0, .slice none 0 0, .slice none 0 0] 27 (0, 0))) := ⟨blk_far BK_gq.out NB_gq_gm.out _⟩
    clear hc_gq_0 hf_gq_0 hc_gq_1 hf_gq_1 hc_gq_2 hf_gq_2 hc_gq_3 hf_gq_3 hc_gq_4 hf_gq_4 hc_gq_5 hf_gq_5 hc_gq_6 hf_gq_6 hc_gq_7 hf_gq_7 hc_gq_8 hf_gq_8
    clear BK_gq
    clear hc_gm_0 hf_gm_0 hc_gm_1 hf_gm_1 hc_gm_2 hf_gm_2 hc_gm_3 hf_gm_3 hc_gm_4 hf_gm_4 hc_gm_5 hf_gm_5 hc_gm_6 hf_gm_6 hc_gm_7 hf_gm_7 hc_gm_8 hf_gm_8
    clear BK_gm
    clear HB
    generalize (w7_.setCell ⟨gm, 1, none⟩ (.int .i64 2)) = w8_ at nHB nBK nB_gq ⊢
    have HB := nHB
    have BK_gm := nBK
    have BK_gq := nB_gq
    clear nHB nBK nB_gq
    obtain ⟨hc_gq_0, hc_gq_1, hc_gq_2, hc_gq_3, hc_gq_4, hc_gq_5, hc_gq_6, hc_gq_7, hc_gq_8, hf_gq_0, hf_gq_1, hf_gq_2, hf_gq_3, hf_gq_4, hf_gq_5, hf_gq_6, hf_gq_7, hf_gq_8⟩ := cf9 BK_gq.out
    obtain ⟨hc_gm_0, hc_gm_1, hc_gm_2, hc_gm_3, hc_gm_4, hc_gm_5, hc_gm_6, hc_gm_7, hc_gm_8, hf_gm_0, hf_gm_1, hf_gm_2, hf_gm_3, hf_gm_4, hf_gm_5, hf_gm_6, hf_gm_7, hf_gm_8⟩ := cf9 BK_gm.out
    have z1 := (HB.out.cell (World.block_lt_of_cell? w _ y1)).trans y1
    have e88 : ((l.length : Int) == 8) = true := beq_iff_eq.2 (by have := Xhl8.out; omega)
    have hz := Xhz.out
    have e89 : decide ((l.length : Int) > 8) = false := decide_eq_false (by have := Xhl8.out; omega)
    go_upto_region 26 with fail
    have nHB : Aside0 (Below w.heap.size w (w8_.setCell ⟨gm, 1, none⟩ (.int .i64 1))) := ⟨below_set HB.out GE_gm.out⟩
    have nBK : Aside0 ((w8_.setCell ⟨gm, 1, none⟩ (.int .i64 1)).heap[gm]? = some (.cells #[.int .u8 17, .int .i64 1, .int .u8 code, .int .u32 grp, .bool false, .int .u8 0, .int .u8 0, .slice none 0 0, .slice none 0 0] 27 (0, 0))) := ⟨blk_put (cs := #[.int .u8 17, .int .i64 2, .int .u8 code, .int .u32 grp, .bool false, .int .u8 0, .int .u8 0, .slice none 0 0, .slice none 0 0]) BK_gm.out 1 (.int .i64 1) rfl⟩
    have nB_gq : Aside0 ((w8_.setCell ⟨gm, 1, none⟩ (.int .i64 1)).heap[gq]? = some (.cells #[.int .u8 0, .int .i64 0, .int .u8 0, .int .u32 0, .bool false, .int .u8 0, .int .u8 0, .slice none 0 0, .slice none 0 0] 27 (0, 0))) := ⟨blk_far BK_gq.out NB_gq_gm.out _⟩
    clear hc_gq_0 hf_gq_0 hc_gq_1 hf_gq_1 hc_gq_2 hf_gq_2 hc_gq_3 hf_gq_3 hc_gq_4 hf_gq_4 hc_gq_5 hf_gq_5 hc_gq_6 hf_gq_6 hc_gq_7 hf_gq_7 hc_gq_8 hf_gq_8
    clear BK_gq
    clear hc_gm_0 hf_gm_0 hc_gm_1 hf_gm_1 hc_gm_2 hf_gm_2 hc_gm_3 hf_gm_3 hc_gm_4 hf_gm_4 hc_gm_5 hf_gm_5 hc_gm_6 hf_gm_6 hc_gm_7 hf_gm_7 hc_gm_8 hf_gm_8
    clear BK_gm
    clear HB
    generalize (w8_.setCell ⟨gm, 1, none⟩ (.int .i64 1)) = w9_ at nHB nBK nB_gq ⊢
    have HB := nHB
    have BK_gm := nBK
    have BK_gq := nB_gq
    clear nHB nBK nB_gq
    obtain ⟨hc_gq_0, hc_gq_1, hc_gq_2, hc_gq_3, hc_gq_4, hc_gq_5, hc_gq_6, hc_gq_7, hc_gq_8, hf_gq_0, hf_gq_1, hf_gq_2, hf_gq_3, hf_gq_4, hf_gq_5, hf_gq_6, hf_gq_7, hf_gq_8⟩ := cf9 BK_gq.out
    obtain ⟨hc_gm_0, hc_gm_1, hc_gm_2, hc_gm_3, hc_gm_4, hc_gm_5, hc_gm_6, hc_gm_7, hc_gm_8, hf_gm_0, hf_gm_1, hf_gm_2, hf_gm_3, hf_gm_4, hf_gm_5, hf_gm_6, hf_gm_7, hf_gm_8⟩ := cf9 BK_gm.out
    go_upto_region 27 with fail
    have nHB : Aside0 (Below w.heap.size w (w9_.setCell ⟨gm, 3, none⟩ (.int .u32 0))) := ⟨below_set HB.out GE_gm.out⟩
    have nBK : Aside0 ((w9_.setCell ⟨gm, 3, none⟩ (.int .u32 0)).heap[gm]? = some (.cells #[.int .u8 17, .int .i64 1, .int .u8 code, .int .u32 0, .bool false, .int .u8 0, .int .u8 0, .slice none 0 0, .slice none 0 0] 27 (0, 0))) := ⟨blk_put (cs := #[.int .u8 17, .int .i64 1, .int .u8 code, .int .u32 grp, .bool false, .int .u8 0, .int .u8 0, .slice none 0 0, .slice none 0 0]) BK_gm.out 3 (.int .u32 0) rfl⟩
    have nB_gq : Aside0 ((w9_.setCell ⟨gm, 3, none⟩ (.int .u32 0)).heap[gq]? = some (.cells #[.int .u8 0, .int .i64 0, .int .u8 0, .int .u32 0, .bool false, .int .u8 0, .int .u8 0, .slice none 0 0, .slice none 0 0] 27 (0, 0))) := ⟨blk_far BK_gq.out NB_gq_gm.out _⟩
    clear hc_gq_0 hf_gq_0 hc_gq_1 hf_gq_1 hc_gq_2 hf_gq_2 hc_gq_3 hf_gq_3 hc_gq_4 hf_gq_4 hc_gq_5 hf_gq_5 hc_gq_6 hf_gq_6 hc_gq_7 hf_gq_7 hc_gq_8 hf_gq_8
    clear BK_gq
    clear hc_gm_0 hf_gm_0 hc_gm_1 hf_gm_1 hc_gm_2 hf_gm_2 hc_gm_3 hf_gm_3 hc_gm_4 hf_gm_4 hc_gm_5 hf_gm_5 hc_gm_6 hf_gm_6 hc_gm_7 hf_gm_7 hc_gm_8 hf_gm_8
    clear BK_gm
    clear HB
    generalize (w9_.setCell ⟨gm, 3, none⟩ (.int .u32 0)) = w10_ at nHB nBK nB_gq ⊢
    have HB := nHB
    have BK_gm := nBK
    have BK_gq := nB_gq
    clear nHB nBK nB_gq
    obtain ⟨hc_gq_0, hc_gq_1, hc_gq_2, hc_gq_3, hc_gq_4, hc_gq_5, hc_gq_6, hc_gq_7, hc_gq_8, hf_gq_0, hf_gq_1, hf_gq_2, hf_gq_3, hf_gq_4, hf_gq_5, hf_gq_6, hf_gq_7, hf_gq_8⟩ := cf9 BK_gq.out
    obtain ⟨hc_gm_0, hc_gm_1, hc_gm_2, hc_gm_3, hc_gm_4, hc_gm_5, hc_gm_6, hc_gm_7, hc_gm_8, hf_gm_0, hf_gm_1, hf_gm_2, hf_gm_3, hf_gm_4, hf_gm_5, hf_gm_6, hf_gm_7, hf_gm_8⟩ := cf9 BK_gm.out
    go_upto_region 39 with fail
    clear z1 e88 e89 hz
    go_upto_region 40 with (first | (go_at_call 16; with_reducible refine (rright0_w Xhb.out _).mono ?_; rintro e w11_ ⟨rfl, hB⟩; have nHB := Aside0.mk (HB.out.trans (hB.mono HB.out.size)); clear HB; have HB := nHB; clear nHB; clear hc_gq_0 hf_gq_0 hc_gq_1 hf_gq_1 hc_gq_2 hf_gq_2 hc_gq_3 hf_gq_3 hc_gq_4 hf_gq_4 hc_gq_5 hf_gq_5 hc_gq_6 hf_gq_6 hc_gq_7 hf_gq_7 hc_gq_8 hf_gq_8; have nBK := Aside0.mk (blk_below (g := gq) (o := .cells #[.int .u8 0, .int .i64 0, .int .u8 0, .int .u32 0, .bool false, .int .u8 0, .int .u8 0, .slice none 0 0, .slice none 0 0] 27 (0, 0)) BK_gq.out hB); clear BK_gq; have BK_gq := nBK; clear nBK; obtain ⟨hc_gq_0, hc_gq_1, hc_gq_2, hc_gq_3, hc_gq_4, hc_gq_5, hc_gq_6, hc_gq_7, hc_gq_8, hf_gq_0, hf_gq_1, hf_gq_2, hf_gq_3, hf_gq_4, hf_gq_5, hf_gq_6, hf_gq_7, hf_gq_8⟩ := cf9 BK_gq.out; clear hc_gm_0 hf_gm_0 hc_gm_1 hf_gm_1 hc_gm_2 hf_gm_2 hc_gm_3 hf_gm_3 hc_gm_4 hf_gm_4 hc_gm_5 hf_gm_5 hc_gm_6 hf_gm_6 hc_gm_7 hf_gm_7 hc_gm_8 hf_gm_8; have nBK := Aside0.mk (blk_below (g := gm) (o := .cells #[.int .u8 17, .int .i64 1, .int .u8 code, .int .u32 0, .bool false, .int .u8 0, .int .u8 0, .slice none 0 0, .slice none 0 0] 27 (0, 0)) BK_gm.out hB); clear BK_gm; have BK_gm := nBK; clear nBK; obtain ⟨hc_gm_0, hc_gm_1, hc_gm_2, hc_gm_3, hc_gm_4, hc_gm_5, hc_gm_6, hc_gm_7, hc_gm_8, hf_gm_0, hf_gm_1, hf_gm_2, hf_gm_3, hf_gm_4, hf_gm_5, hf_gm_6, hf_gm_7, hf_gm_8⟩ := cf9 BK_gm.out; clear hB))
    have hq : ((8 : Int) != (l.length : Int)) = false := bne_eq_false_iff_eq.2 (by have := Xhl8.out; omega)
    cases b with
    | false =>
      obtain ⟨rfl, rfl⟩ : m = msg0 ∧ er = 2 := ⟨Xhm.out.trans (by simp), Xhe.out.trans (by simp)⟩
      go_wp2
      exact rdc_end rfl rfl rfl BK_gq.out HB.out GE_gq.out
    | true =>
      obtain ⟨rfl, rfl⟩ : m = ⟨17, 1, code, 0, false, 0, 0, [], []⟩ ∧ er = 0 := ⟨Xhm.out.trans (by simp), Xhe.out.trans (by simp)⟩
      go_wp2
      refine bodyPost_ret (results_ct rfl _ _ gq 27 #[.int .u8 17, .int .i64 1, .int .u8 code, .int .u32 0, .bool false, .int .u8 0, .int .u8 0, .slice none 0 0, .slice none 0 0] (0, 0) _ rfl (zz9 BK_gq.out _ _ _ _ _ _ _ _ _) Try.underlying27 rfl (by kernel_rfl)) rfl ?_
      unfold RDone
      exact ⟨none, 0, none, 0, rfl, Kd.C_nil _ _, Nat.le_refl _, Kd.C_nil _ _, Nat.le_refl _, bb9 HB.out GE_gq.out _ _ _ _ _ _ _ _ _⟩
  | q2 kk hl8 hz grp hg b hb hm he =>
    obtain rfl := kk
    have Xhl8 := Aside0.mk hl8
    have Xhz := Aside0.mk hz
    have Xhg := Aside0.mk hg
    have Xhb := Aside0.mk hb
    have Xhm := Aside0.mk hm
    have Xhe := Aside0.mk he
    clear hl8 hz hg hb hm he
    go_upto_region 23 with (first | (go_at_call 45; with_reducible refine (at4_w XBY.out XL.out Xh8.out Xhg.out _ _ _ (Kd.C_below HC_l.out HB.out) HK_l.out).mono ?_; rintro e w6_ ⟨rfl, hB⟩; have nHB := Aside0.mk (HB.out.trans (hB.mono HB.out.size)); clear HB; have HB := nHB; clear nHB; clear hc_gq_0 hf_gq_0 hc_gq_1 hf_gq_1 hc_gq_2 hf_gq_2 hc_gq_3 hf_gq_3 hc_gq_4 hf_gq_4 hc_gq_5 hf_gq_5 hc_gq_6 hf_gq_6 hc_gq_7 hf_gq_7 hc_gq_8 hf_gq_8; have nBK := Aside0.mk (blk_below (g := gq) (o := .cells #[.int .u8 0, .int .i64 0, .int .u8 0, .int .u32 0, .bool false, .int .u8 0, .int .u8 0, .slice none 0 0, .slice none 0 0] 27 (0, 0)) BK_gq.out hB); clear BK_gq; have BK_gq := nBK; clear nBK; obtain ⟨hc_gq_0, hc_gq_1, hc_gq_2, hc_gq_3, hc_gq_4, hc_gq_5, hc_gq_6, hc_gq_7, hc_gq_8, hf_gq_0, hf_gq_1, hf_gq_2, hf_gq_3, hf_gq_4, hf_gq_5, hf_gq_6, hf_gq_7, hf_gq_8⟩ := cf9 BK_gq.out; clear hc_gm_0 hf_gm_0 hc_gm_1 hf_gm_1 hc_gm_2 hf_gm_2 hc_gm_3 hf_gm_3 hc_gm_4 hf_gm_4 hc_gm_5 hf_gm_5 hc_gm_6 hf_gm_6 hc_gm_7 hf_gm_7 hc_gm_8 hf_gm_8; have nBK := Aside0.mk (blk_below (g := gm) (o := .cells #[.int .u8 17, .int .i64 0, .int .u8 code, .int .u32 0, .bool false, .int .u8 0, .int .u8 0, .slice none 0 0, .slice none 0 0] 27 (0, 0)) BK_gm.out hB); clear BK_gm; have BK_gm := nBK; clear nBK; obtain ⟨hc_gm_0, hc_gm_1, hc_gm_2, hc_gm_3, hc_gm_4, hc_gm_5, hc_gm_6, hc_gm_7, hc_gm_8, hf_gm_0, hf_gm_1, hf_gm_2, hf_gm_3, hf_gm_4, hf_gm_5, hf_gm_6, hf_gm_7, hf_gm_8⟩ := cf9 BK_gm.out; clear hB))
    have nHB : Aside0 (Below w.heap.size w (w6_.setCell ⟨gm, 3, none⟩ (.int .u32 grp))) := ⟨below_set HB.out GE_gm.out⟩
    have nBK : Aside0 ((w6_.setCell ⟨gm, 3, none⟩ (.int .u32 grp)).heap[gm]? = some (.cells #[.int .u8 17, .int .i64 0, .int .u8 code, .int .u32 grp, .bool false, .int .u8 0, .int .u8 0, .slice none 0 0, .slice none 0 0] 27 (0, 0))) := ⟨blk_put (cs := #[.int .u8 17, .int .i64 0, .int .u8 code, .int .u32 0, .bool false, .int .u8 0, .int .u8 0, .slice none 0 0, .slice none 0 0]) BK_gm.out 3 (.int .u32 grp) rfl⟩
    have nB_gq : Aside0 ((w6_.setCell ⟨gm, 3, none⟩ (.int .u32 grp)).heap[gq]? = some (.cells #[.int .u8 0, .int .i64 0, .int .u8 0, .int .u32 0, .bool false, .int .u8 0, .int .u8 0, .slice none 0 0, .slice none 0 0] 27 (0, 0))) := ⟨blk_far BK_gq.out NB_gq_gm.out _⟩
    clear hc_gq_0 hf_gq_0 hc_gq_1 hf_gq_1 hc_gq_2 hf_gq_2 hc_gq_3 hf_gq_3 hc_gq_4 hf_gq_4 hc_gq_5 hf_gq_5 hc_gq_6 hf_gq_6 hc_gq_7 hf_gq_7 hc_gq_8 hf_gq_8
    clear BK_gq
    clear hc_gm_0 hf_gm_0 hc_gm_1 hf_gm_1 hc_gm_2 hf_gm_2 hc_gm_3 hf_gm_3 hc_gm_4 hf_gm_4 hc_gm_5 hf_gm_5 hc_gm_6 hf_gm_6 hc_gm_7 hf_gm_7 hc_gm_8 hf_gm_8
    clear BK_gm
    clear HB
    generalize (w6_.setCell ⟨gm, 3, none⟩ (.int .u32 grp)) = w7_ at nHB nBK nB_gq ⊢
    have HB := nHB
    have BK_gm := nBK
    have BK_gq := nB_gq
    clear nHB nBK nB_gq
    obtain ⟨hc_gq_0, hc_gq_1, hc_gq_2, hc_gq_3, hc_gq_4, hc_gq_5, hc_gq_6, hc_gq_7, hc_gq_8, hf_gq_0, hf_gq_1, hf_gq_2, hf_gq_3, hf_gq_4, hf_gq_5, hf_gq_6, hf_gq_7, hf_gq_8⟩ := cf9 BK_gq.out
    obtain ⟨hc_gm_0, hc_gm_1, hc_gm_2, hc_gm_3, hc_gm_4, hc_gm_5, hc_gm_6, hc_gm_7, hc_gm_8, hf_gm_0, hf_gm_1, hf_gm_2, hf_gm_3, hf_gm_4, hf_gm_5, hf_gm_6, hf_gm_7, hf_gm_8⟩ := cf9 BK_gm.out
    go_upto_region 24 with fail
    have nHB : Aside0 (Below w.heap.size w (w7_.setCell ⟨gm, 1, none⟩ (.int .i64 2))) := ⟨below_set HB.out GE_gm.out⟩
    have nBK : Aside0 ((w7_.setCell ⟨gm, 1, none⟩ (.int .i64 2)).heap[gm]? = some (.cells #[.int .u8 17, .int .i64 2, .int .u8 code, .int .u32 grp, .bool false, .int .u8 0, .int .u8 0, .slice none 0 0, .slice none 0 0] 27 (0, 0))) := ⟨blk_put (cs := #[.int .u8 17, .int .i64 0, .int .u8 code, .int .u32 grp, .bool false, .int .u8 0, .int .u8 0, .slice none 0 0, .slice none 0 0]) BK_gm.out 1 (.int .i64 2) rfl⟩
    have nB_gq : Aside0 ((w7_.setCell ⟨gm, 1, none⟩ (.int .i64 2)).heap[gq]? = some (.cells #[.int .u8 0, .int .i64 0, .int .u8 0, .int .u32 0, .bool false, .int .u8 0, .int .u8 0, .slice none 0 0, .slice none 0 0] 27 (0, 0))) := ⟨blk_far BK_gq.out NB_gq_gm.out _⟩
    clear hc_gq_0 hf_gq_0 hc_gq_1 hf_gq_1 hc_gq_2 hf_gq_2 hc_gq_3 hf_gq_3 hc_gq_4 hf_gq_4 hc_gq_5 hf_gq_5 hc_gq_6 hf_gq_6 hc_gq_7 hf_gq_7 hc_gq_8 hf_gq_8
    clear BK_gq
    clear hc_gm_0 hf_gm_0 hc_gm_1 hf_gm_1 hc_gm_2 hf_gm_2 hc_gm_3 hf_gm_3 hc_gm_4 hf_gm_4 hc_gm_5 hf_gm_5 hc_gm_6 hf_gm_6 hc_gm_7 hf_gm_7 hc_gm_8 hf_gm_8
    clear BK_gm
    clear HB
    generalize (w7_.setCell ⟨gm, 1, none⟩ (.int .i64 2)) = w8_ at nHB nBK nB_gq ⊢
    have HB := nHB
    have BK_gm := nBK
    have BK_gq := nB_gq
    clear nHB nBK nB_gq
    obtain ⟨hc_gq_0, hc_gq_1, hc_gq_2, hc_gq_3, hc_gq_4, hc_gq_5, hc_gq_6, hc_gq_7, hc_gq_8, hf_gq_0, hf_gq_1, hf_gq_2, hf_gq_3, hf_gq_4, hf_gq_5, hf_gq_6, hf_gq_7, hf_gq_8⟩ := cf9 BK_gq.out
    obtain ⟨hc_gm_0, hc_gm_1, hc_gm_2, hc_gm_3, hc_gm_4, hc_gm_5, hc_gm_6, hc_gm_7, hc_gm_8, hf_gm_0, hf_gm_1, hf_gm_2, hf_gm_3, hf_gm_4, hf_gm_5, hf_gm_6, hf_gm_7, hf_gm_8⟩ := cf9 BK_gm.out
    have z1 := (HB.out.cell (World.block_lt_of_cell? w _ y1)).trans y1
    have e88 : ((l.length : Int) == 8) = true := beq_iff_eq.2 (by have := Xhl8.out; omega)
    have hz := Xhz.out
    have e89 : decide ((l.length : Int) > 8) = false := decide_eq_false (by have := Xhl8.out; omega)
    go_upto_region 39 with fail
    clear z1 e88 e89 hz
    go_upto_region 40 with (first | (go_at_call 16; with_reducible refine (rright0_w Xhb.out _).mono ?_; rintro e w9_ ⟨rfl, hB⟩; have nHB := Aside0.mk (HB.out.trans (hB.mono HB.out.size)); clear HB; have HB := nHB; clear nHB; clear hc_gq_0 hf_gq_0 hc_gq_1 hf_gq_1 hc_gq_2 hf_gq_2 hc_gq_3 hf_gq_3 hc_gq_4 hf_gq_4 hc_gq_5 hf_gq_5 hc_gq_6 hf_gq_6 hc_gq_7 hf_gq_7 hc_gq_8 hf_gq_8; have nBK := Aside0.mk (blk_below (g := gq) (o := .cells #[.int .u8 0, .int .i64 0, .int .u8 0, .int .u32 0, .bool false, .int .u8 0, .int .u8 0, .slice none 0 0, .slice none 0 0] 27 (0, 0)) BK_gq.out hB); clear BK_gq; have BK_gq := nBK; clear nBK; obtain ⟨hc_gq_0, hc_gq_1, hc_gq_2, hc_gq_3, hc_gq_4, hc_gq_5, hc_gq_6, hc_gq_7, hc_gq_8, hf_gq_0, hf_gq_1, hf_gq_2, hf_gq_3, hf_gq_4, hf_gq_5, hf_gq_6, hf_gq_7, hf_gq_8⟩ := cf9 BK_gq.out; clear hc_gm_0 hf_gm_0 hc_gm_1 hf_gm_1 hc_gm_2 hf_gm_2 hc_gm_3 hf_gm_3 hc_gm_4 hf_gm_4 hc_gm_5 hf_gm_5 hc_gm_6 hf_gm_6 hc_gm_7 hf_gm_7 hc_gm_8 hf_gm_8; have nBK := Aside0.mk (blk_below (g := gm) (o := .cells #[.int .u8 17, .int .i64 2, .int .u8 code, .int .u32 grp, .bool false, .int .u8 0, .int .u8 0, .slice none 0 0, .slice none 0 0] 27 (0, 0)) BK_gm.out hB); clear BK_gm; have BK_gm := nBK; clear nBK; obtain ⟨hc_gm_0, hc_gm_1, hc_gm_2, hc_gm_3, hc_gm_4, hc_gm_5, hc_gm_6, hc_gm_7, hc_gm_8, hf_gm_0, hf_gm_1, hf_gm_2, hf_gm_3, hf_gm_4, hf_gm_5, hf_gm_6, hf_gm_7, hf_gm_8⟩ := cf9 BK_gm.out; clear hB))
    have hq : ((8 : Int) != (l.length : Int)) = false := bne_eq_false_iff_eq.2 (by have := Xhl8.out; omega)
    cases b with
    | false =>
      obtain ⟨rfl, rfl⟩ : m = msg0 ∧ er = 2 := ⟨Xhm.out.trans (by simp), Xhe.out.trans (by simp)⟩
      go_wp2
      exact rdc_end rfl rfl rfl BK_gq.out HB.out GE_gq.out
    | true =>
      obtain ⟨rfl, rfl⟩ : m = ⟨17, 2, code, grp, false, 0, 0, [], []⟩ ∧ er = 0 := ⟨Xhm.out.trans (by simp), Xhe.out.trans (by simp)⟩
      go_wp2
      refine bodyPost_ret (results_ct rfl _ _ gq 27 #[.int .u8 17, .int .i64 2, .int .u8 code, .int .u32 grp, .bool false, .int .u8 0, .int .u8 0, .slice none 0 0, .slice none 0 0] (0, 0) _ rfl (zz9 BK_gq.out _ _ _ _ _ _ _ _ _) Try.underlying27 rfl (by kernel_rfl)) rfl ?_
      unfold RDone
      exact ⟨none, 0, none, 0, rfl, Kd.C_nil _ _, Nat.le_refl _, Kd.C_nil _ _, Nat.le_refl _, bb9 HB.out GE_gq.out _ _ _ _ _ _ _ _ _⟩
  | q3s kk hl8 hl12 grp hg hm he =>
    obtain rfl := kk
    subst hm he
    have Xhl8 := Aside0.mk hl8
    have Xhl12 := Aside0.mk hl12
    have Xhg := Aside0.mk hg
    clear hl8 hl12 hg
    go_upto_region 23 with (first | (go_at_call 45; with_reducible refine (at4_w XBY.out XL.out Xh8.out Xhg.out _ _ _ (Kd.C_below HC_l.out HB.out) HK_l.out).mono ?_; rintro e w6_ ⟨rfl, hB⟩; have nHB := Aside0.mk (HB.out.trans (hB.mono HB.out.size)); clear HB; have HB := nHB; clear nHB; clear hc_gq_0 hf_gq_0 hc_gq_1 hf_gq_1 hc_gq_2 hf_gq_2 hc_gq_3 hf_gq_3 hc_gq_4 hf_gq_4 hc_gq_5 hf_gq_5 hc_gq_6 hf_gq_6 hc_gq_7 hf_gq_7 hc_gq_8 hf_gq_8; have nBK := Aside0.mk (blk_below (g := gq) (o := .cells #[.int .u8 0, .int .i64 0, .int .u8 0, .int .u32 0, .bool false, .int .u8 0, .int .u8 0, .slice none 0 0, .slice none 0 0] 27 (0, 0)) BK_gq.out hB); clear BK_gq; have BK_gq := nBK; clear nBK; obtain ⟨hc_gq_0, hc_gq_1, hc_gq_2, hc_gq_3, hc_gq_4, hc_gq_5, hc_gq_6, hc_gq_7, hc_gq_8, hf_gq_0, hf_gq_1, hf_gq_2, hf_gq_3, hf_gq_4, hf_gq_5, hf_gq_6, hf_gq_7, hf_gq_8⟩ := cf9 BK_gq.out; clear hc_gm_0 hf_gm_0 hc_gm_1 hf_gm_1 hc_gm_2 hf_gm_2 hc_gm_3 hf_gm_3 hc_gm_4 hf_gm_4 hc_gm_5 hf_gm_5 hc_gm_6 hf_gm_6 hc_gm_7 hf_gm_7 hc_gm_8 hf_gm_8; have nBK := Aside0.mk (blk_below (g := gm) (o := .cells #[.int .u8 17, .int .i64 0, .int .u8 code, .int .u32 0, .bool false, .int .u8 0, .int .u8 0, .slice none 0 0, .slice none 0 0] 27 (0, 0)) BK_gm.out hB); clear BK_gm; have BK_gm := nBK; clear nBK; obtain ⟨hc_gm_0, hc_gm_1, hc_gm_2, hc_gm_3, hc_gm_4, hc_gm_5, hc_gm_6, hc_gm_7, hc_gm_8, hf_gm_0, hf_gm_1, hf_gm_2, hf_gm_3, hf_gm_4, hf_gm_5, hf_gm_6, hf_gm_7, hf_gm_8⟩ := cf9 BK_gm.out; clear hB))
    have nHB : Aside0 (Below w.heap.size w (w6_.setCell ⟨gm, 3, none⟩ (.int .u32 grp))) := ⟨below_set HB.out GE_gm.out⟩
    have nBK : Aside0 ((w6_.setCell ⟨gm, 3, none⟩ (.int .u32 grp)).heap[gm]? = some (.cells #[.int .u8 17, .int .i64 0, .int .u8 code, .int .u32 grp, .bool false, .int .u8 0, .int .u8 0, .slice none 0 0, .slice none 0 0] 27 (0, 0))) := ⟨blk_put (cs := #[.int .u8 17, .int .i64 0, .int .u8 code, .int .u32 0, .bool false, .int .u8 0, .int .u8 0, .slice none 0 0, .slice none 0 0]) BK_gm.out 3 (.int .u32 grp) rfl⟩
    have nB_gq : Aside0 ((w6_.setCell ⟨gm, 3, none⟩ (.int .u32 grp)).heap[gq]? = some (.cells #[.int .u8 0, .int .i64 0, .int .u8 0, .int .u32 0, .bool false, .int .u8 0, .int .u8 0, .slice none 0 0, .slice none 0 0] 27 (0, 0))) := ⟨blk_far BK_gq.out NB_gq_gm.out _⟩
    clear hc_gq_0 hf_gq_0 hc_gq_1 hf_gq_1 hc_gq_2 hf_gq_2 hc_gq_3 hf_gq_3 hc_gq_4 hf_gq_4 hc_gq_5 hf_gq_5 hc_gq_6 hf_gq_6 hc_gq_7 hf_gq_7 hc_gq_8 hf_gq_8
    clear BK_gq
    clear hc_gm_0 hf_gm_0 hc_gm_1 hf_gm_1 hc_gm_2 hf_gm_2 hc_gm_3 hf_gm_3 hc_gm_4 hf_gm_4 hc_gm_5 hf_gm_5 hc_gm_6 hf_gm_6 hc_gm_7 hf_gm_7 hc_gm_8 hf_gm_8
    clear BK_gm
    clear HB
    generalize (w6_.setCell ⟨gm, 3, none⟩ (.int .u32 grp)) = w7_ at nHB nBK nB_gq ⊢
    have HB := nHB
    have BK_gm := nBK
    have BK_gq := nB_gq
    clear nHB nBK nB_gq
    obtain ⟨hc_gq_0, hc_gq_1, hc_gq_2, hc_gq_3, hc_gq_4, hc_gq_5, hc_gq_6, hc_gq_7, hc_gq_8, hf_gq_0, hf_gq_1, hf_gq_2, hf_gq_3, hf_gq_4, hf_gq_5, hf_gq_6, hf_gq_7, hf_gq_8⟩ := cf9 BK_gq.out
    obtain ⟨hc_gm_0, hc_gm_1, hc_gm_2, hc_gm_3, hc_gm_4, hc_gm_5, hc_gm_6, hc_gm_7, hc_gm_8, hf_gm_0, hf_gm_1, hf_gm_2, hf_gm_3, hf_gm_4, hf_gm_5, hf_gm_6, hf_gm_7, hf_gm_8⟩ := cf9 BK_gm.out
    go_upto_region 24 with fail
    have nHB : Aside0 (Below w.heap.size w (w7_.setCell ⟨gm, 1, none⟩ (.int .i64 2))) := ⟨below_set HB.out GE_gm.out⟩
    have nBK : Aside0 ((w7_.setCell ⟨gm, 1, none⟩ (.int .i64 2)).heap[gm]? = some (.cells #[.int .u8 17, .int .i64 2, .int .u8 code, .int .u32 grp, .bool false, .int .u8 0, .int .u8 0, .slice none 0 0, .slice none 0 0] 27 (0, 0))) := ⟨blk_put (cs := #[.int .u8 17, .int .i64 0, .int .u8 code, .int .u32 grp, .bool false, .int .u8 0, .int .u8 0, .slice none 0 0, .slice none 0 0]) BK_gm.out 1 (.int .i64 2) rfl⟩
    have nB_gq : Aside0 ((w7_.setCell ⟨gm, 1, none⟩ (.int .i64 2)).heap[gq]? = some (.cells #[.int .u8 0, .int .i64 0, .int .u8 0, .int .u32 0, .bool false, .int .u8 0, .int .u8 0, .slice none 0 0, .slice none 0 0] 27 (0, 0))) := ⟨blk_far BK_gq.out NB_gq_gm.out _⟩
    clear hc_gq_0 hf_gq_0 hc_gq_1 hf_gq_1 hc_gq_2 hf_gq_2 hc_gq_3 hf_gq_3 hc_gq_4 hf_gq_4 hc_gq_5 hf_gq_5 hc_gq_6 hf_gq_6 hc_gq_7 hf_gq_7 hc_gq_8 hf_gq_8
    clear BK_gq
    clear hc_gm_0 hf_gm_0 hc_gm_1 hf_gm_1 hc_gm_2 hf_gm_2 hc_gm_3 hf_gm_3 hc_gm_4 hf_gm_4 hc_gm_5 hf_gm_5 hc_gm_6 hf_gm_6 hc_gm_7 hf_gm_7 hc_gm_8 hf_gm_8
    clear BK_gm
    clear HB
    generalize (w7_.setCell ⟨gm, 1, none⟩ (.int .i64 2)) = w8_ at nHB nBK nB_gq ⊢
    have HB := nHB
    have BK_gm := nBK
    have BK_gq := nB_gq
    clear nHB nBK nB_gq
    obtain ⟨hc_gq_0, hc_gq_1, hc_gq_2, hc_gq_3, hc_gq_4, hc_gq_5, hc_gq_6, hc_gq_7, hc_gq_8, hf_gq_0, hf_gq_1, hf_gq_2, hf_gq_3, hf_gq_4, hf_gq_5, hf_gq_6, hf_gq_7, hf_gq_8⟩ := cf9 BK_gq.out
    obtain ⟨hc_gm_0, hc_gm_1, hc_gm_2, hc_gm_3, hc_gm_4, hc_gm_5, hc_gm_6, hc_gm_7, hc_gm_8, hf_gm_0, hf_gm_1, hf_gm_2, hf_gm_3, hf_gm_4, hf_gm_5, hf_gm_6, hf_gm_7, hf_gm_8⟩ := cf9 BK_gm.out
    have e88 : ((l.length : Int) == 8) = false := beq_eq_false_iff_ne.2 (by have := Xhl8.out; omega)
    have e89 : decide ((l.length : Int) > 8) = true := decide_eq_true (by have := Xhl8.out; omega)
    have e12 : decide ((l.length : Int) < 12) = true := decide_eq_true (by have := Xhl12.out; omega)
    go_wp2
    exact rdc_end rfl rfl rfl BK_gq.out HB.out GE_gq.out
  | q3n kk hl12 grp hg n hn hn2 xs hx hm he =>
    obtain rfl := kk
    subst hm he
    have Xhl12 := Aside0.mk hl12
    have Xhg := Aside0.mk hg
    have Xhn := Aside0.mk hn
    have Xhn2 := Aside0.mk hn2
    have Xhx := Aside0.mk hx
    clear hl12 hg hn hn2 hx
    have Xhl8 := Aside0.mk (show 8 < l.length by have := Xhl12.out; omega)
    go_upto_region 23 with (first | (go_at_call 45; with_reducible refine (at4_w XBY.out XL.out Xh8.out Xhg.out _ _ _ (Kd.C_below HC_l.out HB.out) HK_l.out).mono ?_; rintro e w6_ ⟨rfl, hB⟩; have nHB := Aside0.mk (HB.out.trans (hB.mono HB.out.size)); clear HB; have HB := nHB; clear nHB; clear hc_gq_0 hf_gq_0 hc_gq_1 hf_gq_1 hc_gq_2 hf_gq_2 hc_gq_3 hf_gq_3 hc_gq_4 hf_gq_4 hc_gq_5 hf_gq_5 hc_gq_6 hf_gq_6 hc_gq_7 hf_gq_7 hc_gq_8 hf_gq_8; have nBK := Aside0.mk (blk_below (g := gq) (o := .cells #[.int .u8 0, .int .i64 0, .int .u8 0, .int .u32 0, .bool false, .int .u8 0, .int .u8 0, .slice none 0 0, .slice none 0 0] 27 (0, 0)) BK_gq.out hB); clear BK_gq; have BK_gq := nBK; clear nBK; obtain ⟨hc_gq_0, hc_gq_1, hc_gq_2, hc_gq_3, hc_gq_4, hc_gq_5, hc_gq_6, hc_gq_7, hc_gq_8, hf_gq_0, hf_gq_1, hf_gq_2, hf_gq_3, hf_gq_4, hf_gq_5, hf_gq_6, hf_gq_7, hf_gq_8⟩ := cf9 BK_gq.out; clear hc_gm_0 hf_gm_0 hc_gm_1 hf_gm_1 hc_gm_2 hf_gm_2 hc_gm_3 hf_gm_3 hc_gm_4 hf_gm_4 hc_gm_5 hf_gm_5 hc_gm_6 hf_gm_6 hc_gm_7 hf_gm_7 hc_gm_8 hf_gm_8; have nBK := Aside0.mk (blk_below (g := gm) (o := .cells #[.int .u8 17, .int .i64 0, .int .u8 code, .int .u32 0, .bool false, .int .u8 0, .int .u8 0, .slice none 0 0, .slice none 0 0] 27 (0, 0)) BK_gm.out hB); clear BK_gm; have BK_gm := nBK; clear nBK; obtain ⟨hc_gm_0, hc_gm_1, hc_gm_2, hc_gm_3, hc_gm_4, hc_gm_5, hc_gm_6, hc_gm_7, hc_gm_8, hf_gm_0, hf_gm_1, hf_gm_2, hf_gm_3, hf_gm_4, hf_gm_5, hf_gm_6, hf_gm_7, hf_gm_8⟩ := cf9 BK_gm.out; clear hB))
    have nHB : Aside0 (Below w.heap.size w (w6_.setCell ⟨gm, 3, none⟩ (.int .u32 grp))) := ⟨below_set HB.out GE_gm.out⟩
    have nBK : Aside0 ((w6_.setCell ⟨gm, 3, none⟩ (.int .u32 grp)).heap[gm]? = some (.cells #[.int .u8 17, .int .i64 0, .int .u8 code, .int .u32 grp, .bool false, .int .u8 0, .int .u8 0, .slice none 0 0, .slice none 0 0] 27 (0, 0))) := ⟨blk_put (cs := #[.int .u8 17, .int .i64 0, .int .u8 code, .int .u32 0, .bool false, .int .u8 0, .int .u8 0, .slice none 0 0, .slice none 0 0]) BK_gm.out 3 (.int .u32 grp) rfl⟩
    have nB_gq : Aside0 ((w6_.setCell ⟨gm, 3, none⟩ (.int .u32 grp)).heap[gq]? = some (.cells #[.int .u8 0, .int .i64 0, .int .u8 0, .int .u32 0, .bool false, .int .u8 0, .int .u8 0, .slice none 0 0, .slice none 0 0] 27 (0, 0))) := ⟨blk_far BK_gq.out NB_gq_gm.out _⟩
    clear hc_gq_0 hf_gq_0 hc_gq_1 hf_gq_1 hc_gq_2 hf_gq_2 hc_gq_3 hf_gq_3 hc_gq_4 hf_gq_4 hc_gq_5 hf_gq_5 hc_gq_6 hf_gq_6 hc_gq_7 hf_gq_7 hc_gq_8 hf_gq_8
    clear BK_gq
    clear hc_gm_0 hf_gm_0 hc_gm_1 hf_gm_1 hc_gm_2 hf_gm_2 hc_gm_3 hf_gm_3 hc_gm_4 hf_gm_4 hc_gm_5 hf_gm_5 hc_gm_6 hf_gm_6 hc_gm_7 hf_gm_7 hc_gm_8 hf_gm_8
    clear BK_gm
    clear HB
    generalize (w6_.setCell ⟨gm, 3, none⟩ (.int .u32 grp)) = w7_ at nHB nBK nB_gq ⊢
    have HB := nHB
    have BK_gm := nBK
    have BK_gq := nB_gq
    clear nHB nBK nB_gq
    obtain ⟨hc_gq_0, hc_gq_1, hc_gq_2, hc_gq_3, hc_gq_4, hc_gq_5, hc_gq_6, hc_gq_7, hc_gq_8, hf_gq_0, hf_gq_1, hf_gq_2, hf_gq_3, hf_gq_4, hf_gq_5, hf_gq_6, hf_gq_7, hf_gq_8⟩ := cf9 BK_gq.out
    obtain ⟨hc_gm_0, hc_gm_1, hc_gm_2, hc_gm_3, hc_gm_4, hc_gm_5, hc_gm_6, hc_gm_7, hc_gm_8, hf_gm_0, hf_gm_1, hf_gm_2, hf_gm_3, hf_gm_4, hf_gm_5, hf_gm_6, hf_gm_7, hf_gm_8⟩ := cf9 BK_gm.out
    go_upto_region 24 with fail
    have nHB : Aside0 (Below w.heap.size w (w7_.setCell ⟨gm, 1, none⟩ (.int .i64 2))) := ⟨below_set HB.out GE_gm.out⟩
    have nBK : Aside0 ((w7_.setCell ⟨gm, 1, none⟩ (.int .i64 2)).heap[gm]? = some (.cells #[.int .u8 17, .int .i64 2, .int .u8 code, .int .u32 grp, .bool false, .int .u8 0, .int .u8 0, .slice none 0 0, .slice none 0 0] 27 (0, 0))) := ⟨blk_put (cs := #[.int .u8 17, .int .i64 0, .int .u8 code, .int .u32 grp, .bool false, .int .u8 0, .int .u8 0, .slice none 0 0, .slice none 0 0]) BK_gm.out 1 (.int .i64 2) rfl⟩
    have nB_gq : Aside0 ((w7_.setCell ⟨gm, 1, none⟩ (.int .i64 2)).heap[gq]? = some (.cells #[.int .u8 0, .int .i64 0, .int .u8 0, .int .u32 0, .bool false, .int .u8 0, .int .u8 0, .slice none 0 0, .slice none 0 0] 27 (0, 0))) := ⟨blk_far BK_gq.out NB_gq_gm.out _⟩
    clear hc_gq_0 hf_gq_0 hc_gq_1 hf_gq_1 hc_gq_2 hf_gq_2 hc_gq_3 hf_gq_3 hc_gq_4 hf_gq_4 hc_gq_5 hf_gq_5 hc_gq_6 hf_gq_6 hc_gq_7 hf_gq_7 hc_gq_8 hf_gq_8
    clear BK_gq
    clear hc_gm_0 hf_gm_0 hc_gm_1 hf_gm_1 hc_gm_2 hf_gm_2 hc_gm_3 hf_gm_3 hc_gm_4 hf_gm_4 hc_gm_5 hf_gm_5 hc_gm_6 hf_gm_6 hc_gm_7 hf_gm_7 hc_gm_8 hf_gm_8
    clear BK_gm
    clear HB
    generalize (w7_.setCell ⟨gm, 1, none⟩ (.int .i64 2)) = w8_ at nHB nBK nB_gq ⊢
    have HB := nHB
    have BK_gm := nBK
    have BK_gq := nB_gq
    clear nHB nBK nB_gq
    obtain ⟨hc_gq_0, hc_gq_1, hc_gq_2, hc_gq_3, hc_gq_4, hc_gq_5, hc_gq_6, hc_gq_7, hc_gq_8, hf_gq_0, hf_gq_1, hf_gq_2, hf_gq_3, hf_gq_4, hf_gq_5, hf_gq_6, hf_gq_7, hf_gq_8⟩ := cf9 BK_gq.out
    obtain ⟨hc_gm_0, hc_gm_1, hc_gm_2, hc_gm_3, hc_gm_4, hc_gm_5, hc_gm_6, hc_gm_7, hc_gm_8, hf_gm_0, hf_gm_1, hf_gm_2, hf_gm_3, hf_gm_4, hf_gm_5, hf_gm_6, hf_gm_7, hf_gm_8⟩ := cf9 BK_gm.out
    have e88 : ((l.length : Int) == 8) = false := beq_eq_false_iff_ne.2 (by have := Xhl8.out; omega)
    have e89 : decide ((l.length : Int) > 8) = true := decide_eq_true (by have := Xhl8.out; omega)
    have e12 : decide ((l.length : Int) < 12) = false := decide_eq_false (by have := Xhl12.out; omega)
    go_wp2_with (first | (go_at_call 47; with_reducible refine (two10_w XBY.out XL.out Xhl12.out Xhn.out _ _ _ (Kd.C_below HC_l.out HB.out) HK_l.out).mono ?_; rintro e w9_ ⟨rfl, hB⟩; have nHB := Aside0.mk (HB.out.trans (hB.mono HB.out.size)); clear HB; have HB := nHB; clear nHB; clear hc_gq_0 hf_gq_0 hc_gq_1 hf_gq_1 hc_gq_2 hf_gq_2 hc_gq_3 hf_gq_3 hc_gq_4 hf_gq_4 hc_gq_5 hf_gq_5 hc_gq_6 hf_gq_6 hc_gq_7 hf_gq_7 hc_gq_8 hf_gq_8; have nBK := Aside0.mk (blk_below (g := gq) (o := .cells #[.int .u8 0, .int .i64 0, .int .u8 0, .int .u32 0, .bool false, .int .u8 0, .int .u8 0, .slice none 0 0, .slice none 0 0] 27 (0, 0)) BK_gq.out hB); clear BK_gq; have BK_gq := nBK; clear nBK; obtain ⟨hc_gq_0, hc_gq_1, hc_gq_2, hc_gq_3, hc_gq_4, hc_gq_5, hc_gq_6, hc_gq_7, hc_gq_8, hf_gq_0, hf_gq_1, hf_gq_2, hf_gq_3, hf_gq_4, hf_gq_5, hf_gq_6, hf_gq_7, hf_gq_8⟩ := cf9 BK_gq.out; clear hc_gm_0 hf_gm_0 hc_gm_1 hf_gm_1 hc_gm_2 hf_gm_2 hc_gm_3 hf_gm_3 hc_gm_4 hf_gm_4 hc_gm_5 hf_gm_5 hc_gm_6 hf_gm_6 hc_gm_7 hf_gm_7 hc_gm_8 hf_gm_8; have nBK := Aside0.mk (blk_below (g := gm) (o := .cells #[.int .u8 17, .int .i64 2, .int .u8 code, .int .u32 grp, .bool false, .int .u8 0, .int .u8 0, .slice none 0 0, .slice none 0 0] 27 (0, 0)) BK_gm.out hB); clear BK_gm; have BK_gm := nBK; clear nBK; obtain ⟨hc_gm_0, hc_gm_1, hc_gm_2, hc_gm_3, hc_gm_4, hc_gm_5, hc_gm_6, hc_gm_7, hc_gm_8, hf_gm_0, hf_gm_1, hf_gm_2, hf_gm_3, hf_gm_4, hf_gm_5, hf_gm_6, hf_gm_7, hf_gm_8⟩ := cf9 BK_gm.out; clear hB) | (go_at_call 48; with_reducible refine (many12_w XBY.out XL.out Xhn2.out Xhx.out _ _ _ (Kd.C_below HC_l.out HB.out) HK_l.out).mono ?_; rintro e w10_ ⟨v_x, rfl, hR, hB⟩; obtain ⟨A_x, c_x, rfl⟩ := Kd.R_slice hR; have hsz := HB.out.size; have nHB := Aside0.mk (HB.out.trans (hB.mono HB.out.size)); clear HB; have HB := nHB; clear nHB; clear hc_gq_0 hf_gq_0 hc_gq_1 hf_gq_1 hc_gq_2 hf_gq_2 hc_gq_3 hf_gq_3 hc_gq_4 hf_gq_4 hc_gq_5 hf_gq_5 hc_gq_6 hf_gq_6 hc_gq_7 hf_gq_7 hc_gq_8 hf_gq_8; have nBK := Aside0.mk (blk_below (g := gq) (o := .cells #[.int .u8 0, .int .i64 0, .int .u8 0, .int .u32 0, .bool false, .int .u8 0, .int .u8 0, .slice none 0 0, .slice none 0 0] 27 (0, 0)) BK_gq.out hB); clear BK_gq; have BK_gq := nBK; clear nBK; obtain ⟨hc_gq_0, hc_gq_1, hc_gq_2, hc_gq_3, hc_gq_4, hc_gq_5, hc_gq_6, hc_gq_7, hc_gq_8, hf_gq_0, hf_gq_1, hf_gq_2, hf_gq_3, hf_gq_4, hf_gq_5, hf_gq_6, hf_gq_7, hf_gq_8⟩ := cf9 BK_gq.out; clear hc_gm_0 hf_gm_0 hc_gm_1 hf_gm_1 hc_gm_2 hf_gm_2 hc_gm_3 hf_gm_3 hc_gm_4 hf_gm_4 hc_gm_5 hf_gm_5 hc_gm_6 hf_gm_6 hc_gm_7 hf_gm_7 hc_gm_8 hf_gm_8; have nBK := Aside0.mk (blk_below (g := gm) (o := .cells #[.int .u8 17, .int .i64 2, .int .u8 code, .int .u32 grp, .bool false, .int .u8 0, .int .u8 0, .slice none 0 0, .slice none 0 0] 27 (0, 0)) BK_gm.out hB); clear BK_gm; have BK_gm := nBK; clear nBK; obtain ⟨hc_gm_0, hc_gm_1, hc_gm_2, hc_gm_3, hc_gm_4, hc_gm_5, hc_gm_6, hc_gm_7, hc_gm_8, hf_gm_0, hf_gm_1, hf_gm_2, hf_gm_3, hf_gm_4, hf_gm_5, hf_gm_6, hf_gm_7, hf_gm_8⟩ := cf9 BK_gm.out; have HR_x := Aside0.mk (Kd.R_mono (Kd.R_lower hR hsz) (fun _ _ => trivial : ∀ k, _ → (fun _ => True) k)); clear hR hsz; clear hB))
    exact rdc_end rfl rfl rfl BK_gq.out HB.out GE_gq.out
  | q3 kk hl12 grp hg n hn hn2 xs hx hxl f hf rob hrob quiet hquiet every hev en hen q b hq hb hm he =>
    obtain rfl := kk
    have Xhl12 := Aside0.mk hl12
    have Xhg := Aside0.mk hg
    have Xhn := Aside0.mk hn
    have Xhn2 := Aside0.mk hn2
    have Xhx := Aside0.mk hx
    have Xhxl := Aside0.mk hxl
    have Xhf := Aside0.mk hf
    have Xhrob := Aside0.mk hrob
    have Xhquiet := Aside0.mk hquiet
    have Xhev := Aside0.mk hev
    have Xhen := Aside0.mk hen
    have Xhq := Aside0.mk hq
    have Xhb := Aside0.mk hb
    have Xhm := Aside0.mk hm
    have Xhe := Aside0.mk he
    clear hl12 hg hn hn2 hx hxl hf hrob hquiet hev hen hq hb hm he
    have Xhl8 := Aside0.mk (show 8 < l.length by have := Xhl12.out; omega)
    go_upto_region 23 with (first | (go_at_call 45; with_reducible refine (at4_w XBY.out XL.out Xh8.out Xhg.out _ _ _ (Kd.C_below HC_l.out HB.out) HK_l.out).mono ?_; rintro e w6_ ⟨rfl, hB⟩; have nHB := Aside0.mk (HB.out.trans (hB.mono HB.out.size)); clear HB; have HB := nHB; clear nHB; clear hc_gq_0 hf_gq_0 hc_gq_1 hf_gq_1 hc_gq_2 hf_gq_2 hc_gq_3 hf_gq_3 hc_gq_4 hf_gq_4 hc_gq_5 hf_gq_5 hc_gq_6 hf_gq_6 hc_gq_7 hf_gq_7 hc_gq_8 hf_gq_8; have nBK := Aside0.mk (blk_below (g := gq) (o := .cells #[.int .u8 0, .int .i64 0, .int .u8 0, .int .u32 0, .bool false, .int .u8 0, .int .u8 0, .slice none 0 0, .slice none 0 0] 27 (0, 0)) BK_gq.out hB); clear BK_gq; have BK_gq := nBK; clear nBK; obtain ⟨hc_gq_0, hc_gq_1, hc_gq_2, hc_gq_3, hc_gq_4, hc_gq_5, hc_gq_6, hc_gq_7, hc_gq_8, hf_gq_0, hf_gq_1, hf_gq_2, hf_gq_3, hf_gq_4, hf_gq_5, hf_gq_6, hf_gq_7, hf_gq_8⟩ := cf9 BK_gq.out; clear hc_gm_0 hf_gm_0 hc_gm_1 hf_gm_1 hc_gm_2 hf_gm_2 hc_gm_3 hf_gm_3 hc_gm_4 hf_gm_4 hc_gm_5 hf_gm_5 hc_gm_6 hf_gm_6 hc_gm_7 hf_gm_7 hc_gm_8 hf_gm_8; have nBK := Aside0.mk (blk_below (g := gm) (o := .cells #[.int .u8 17, .int .i64 0, .int .u8 code, .int .u32 0, .bool false, .int .u8 0, .int .u8 0, .slice none 0 0, .slice none 0 0] 27 (0, 0)) BK_gm.out hB); clear BK_gm; have BK_gm := nBK; clear nBK; obtain ⟨hc_gm_0, hc_gm_1, hc_gm_2, hc_gm_3, hc_gm_4, hc_gm_5, hc_gm_6, hc_gm_7, hc_gm_8, hf_gm_0, hf_gm_1, hf_gm_2, hf_gm_3, hf_gm_4, hf_gm_5, hf_gm_6, hf_gm_7, hf_gm_8⟩ := cf9 BK_gm.out; clear hB))
    have nHB : Aside0 (Below w.heap.size w (w6_.setCell ⟨gm, 3, none⟩ (.int .u32 grp))) := ⟨below_set HB.out GE_gm.out⟩
    have nBK : Aside0 ((w6_.setCell ⟨gm, 3, none⟩ (.int .u32 grp)).heap[gm]? = some (.cells #[.int .u8 17, .int .i64 0, .int .u8 code, .int .u32 grp, .bool false, .int .u8 0, .int .u8 0, .slice none 0 0, .slice none 0 0] 27 (0, 0))) := ⟨blk_put (cs := #[.int .u8 17, .int .i64 0, .int .u8 code, .int .u32 0, .bool false, .int .u8 0, .int .u8 0, .slice none 0 0, .slice none 0 0]) BK_gm.out 3 (.int .u32 grp) rfl⟩
    have nB_gq : Aside0 ((w6_.setCell ⟨gm, 3, none⟩ (.int .u32 grp)).heap[gq]? = some (.cells #[.int .u8 0, .int .i64 0, .int .u8 0, .int .u32 0, .bool false, .int .u8 0, .int .u8 0, .slice none 0 0, .slice none 0 0] 27 (0, 0))) := ⟨blk_far BK_gq.out NB_gq_gm.out _⟩
    clear hc_gq_0 hf_gq_0 hc_gq_1 hf_gq_1 hc_gq_2 hf_gq_2 hc_gq_3 hf_gq_3 hc_gq_4 hf_gq_4 hc_gq_5 hf_gq_5 hc_gq_6 hf_gq_6 hc_gq_7 hf_gq_7 hc_gq_8 hf_gq_8
    clear BK_gq
    clear hc_gm_0 hf_gm_0 hc_gm_1 hf_gm_1 hc_gm_2 hf_gm_2 hc_gm_3 hf_gm_3 hc_gm_4 hf_gm_4 hc_gm_5 hf_gm_5 hc_gm_6 hf_gm_6 hc_gm_7 hf_gm_7 hc_gm_8 hf_gm_8
    clear BK_gm
    clear HB
    generalize (w6_.setCell ⟨gm, 3, none⟩ (.int .u32 grp)) = w7_ at nHB nBK nB_gq ⊢
    have HB := nHB
    have BK_gm := nBK
    have BK_gq := nB_gq
    clear nHB nBK nB_gq
    obtain ⟨hc_gq_0, hc_gq_1, hc_gq_2, hc_gq_3, hc_gq_4, hc_gq_5, hc_gq_6, hc_gq_7, hc_gq_8, hf_gq_0, hf_gq_1, hf_gq_2, hf_gq_3, hf_gq_4, hf_gq_5, hf_gq_6, hf_gq_7, hf_gq_8⟩ := cf9 BK_gq.out
    obtain ⟨hc_gm_0, hc_gm_1, hc_gm_2, hc_gm_3, hc_gm_4, hc_gm_5, hc_gm_6, hc_gm_7, hc_gm_8, hf_gm_0, hf_gm_1, hf_gm_2, hf_gm_3, hf_gm_4, hf_gm_5, hf_gm_6, hf_gm_7, hf_gm_8⟩ := cf9 BK_gm.out
    go_upto_region 24 with fail
    have nHB : Aside0 (Below w.heap.size w (w7_.setCell ⟨gm, 1, none⟩ (.int .i64 2))) := ⟨below_set HB.out GE_gm.out⟩
    have nBK : Aside0 ((w7_.setCell ⟨gm, 1, none⟩ (.int .i64 2)).heap[gm]? = some (.cells #[.int .u8 17, .int .i64 2, .int .u8 code, .int .u32 grp, .bool false, .int .u8 0, .int .u8 0, .slice none 0 0, .slice none 0 0] 27 (0, 0))) := ⟨blk_put (cs := #[.int .u8 17, .int .i64 0, .int .u8 code, .int .u32 grp, .bool false, .int .u8 0, .int .u8 0, .slice none 0 0, .slice none 0 0]) BK_gm.out 1 (.int .i64 2) rfl⟩
    have nB_gq : Aside0 ((w7_.setCell ⟨gm, 1, none⟩ (.int .i64 2)).heap[gq]? = some (.cells #[.int .u8 0, .int .i64 0, .int .u8 0, .int .u32 0, .bool false, .int .u8 0, .int .u8 0, .slice none 0 0, .slice none 0 0] 27 (0, 0))) := ⟨blk_far BK_gq.out NB_gq_gm.out _⟩
    clear hc_gq_0 hf_gq_0 hc_gq_1 hf_gq_1 hc_gq_2 hf_gq_2 hc_gq_3 hf_gq_3 hc_gq_4 hf_gq_4 hc_gq_5 hf_gq_5 hc_gq_6 hf_gq_6 hc_gq_7 hf_gq_7 hc_gq_8 hf_gq_8
    clear BK_gq
    clear hc_gm_0 hf_gm_0 hc_gm_1 hf_gm_1 hc_gm_2 hf_gm_2 hc_gm_3 hf_gm_3 hc_gm_4 hf_gm_4 hc_gm_5 hf_gm_5 hc_gm_6 hf_gm_6 hc_gm_7 hf_gm_7 hc_gm_8 hf_gm_8
    clear BK_gm
    clear HB
    generalize (w7_.setCell ⟨gm, 1, none⟩ (.int .i64 2)) = w8_ at nHB nBK nB_gq ⊢
    have HB := nHB
    have BK_gm := nBK
    have BK_gq := nB_gq
    clear nHB nBK nB_gq
    obtain ⟨hc_gq_0, hc_gq_1, hc_gq_2, hc_gq_3, hc_gq_4, hc_gq_5, hc_gq_6, hc_gq_7, hc_gq_8, hf_gq_0, hf_gq_1, hf_gq_2, hf_gq_3, hf_gq_4, hf_gq_5, hf_gq_6, hf_gq_7, hf_gq_8⟩ := cf9 BK_gq.out
    obtain ⟨hc_gm_0, hc_gm_1, hc_gm_2, hc_gm_3, hc_gm_4, hc_gm_5, hc_gm_6, hc_gm_7, hc_gm_8, hf_gm_0, hf_gm_1, hf_gm_2, hf_gm_3, hf_gm_4, hf_gm_5, hf_gm_6, hf_gm_7, hf_gm_8⟩ := cf9 BK_gm.out
    have e88 : ((l.length : Int) == 8) = false := beq_eq_false_iff_ne.2 (by have := Xhl8.out; omega)
    have e89 : decide ((l.length : Int) > 8) = true := decide_eq_true (by have := Xhl8.out; omega)
    have e12 : decide ((l.length : Int) < 12) = false := decide_eq_false (by have := Xhl12.out; omega)
    go_upto_region 33 with (first | (go_at_call 47; with_reducible refine (two10_w XBY.out XL.out Xhl12.out Xhn.out _ _ _ (Kd.C_below HC_l.out HB.out) HK_l.out).mono ?_; rintro e w9_ ⟨rfl, hB⟩; have nHB := Aside0.mk (HB.out.trans (hB.mono HB.out.size)); clear HB; have HB := nHB; clear nHB; clear hc_gq_0 hf_gq_0 hc_gq_1 hf_gq_1 hc_gq_2 hf_gq_2 hc_gq_3 hf_gq_3 hc_gq_4 hf_gq_4 hc_gq_5 hf_gq_5 hc_gq_6 hf_gq_6 hc_gq_7 hf_gq_7 hc_gq_8 hf_gq_8; have nBK := Aside0.mk (blk_below (g := gq) (o := .cells #[.int .u8 0, .int .i64 0, .int .u8 0, .int .u32 0, .bool false, .int .u8 0, .int .u8 0, .slice none 0 0, .slice none 0 0] 27 (0, 0)) BK_gq.out hB); clear BK_gq; have BK_gq := nBK; clear nBK; obtain ⟨hc_gq_0, hc_gq_1, hc_gq_2, hc_gq_3, hc_gq_4, hc_gq_5, hc_gq_6, hc_gq_7, hc_gq_8, hf_gq_0, hf_gq_1, hf_gq_2, hf_gq_3, hf_gq_4, hf_gq_5, hf_gq_6, hf_gq_7, hf_gq_8⟩ := cf9 BK_gq.out; clear hc_gm_0 hf_gm_0 hc_gm_1 hf_gm_1 hc_gm_2 hf_gm_2 hc_gm_3 hf_gm_3 hc_gm_4 hf_gm_4 hc_gm_5 hf_gm_5 hc_gm_6 hf_gm_6 hc_gm_7 hf_gm_7 hc_gm_8 hf_gm_8; have nBK := Aside0.mk (blk_below (g := gm) (o := .cells #[.int .u8 17, .int .i64 2, .int .u8 code, .int .u32 grp, .bool false, .int .u8 0, .int .u8 0, .slice none 0 0, .slice none 0 0] 27 (0, 0)) BK_gm.out hB); clear BK_gm; have BK_gm := nBK; clear nBK; obtain ⟨hc_gm_0, hc_gm_1, hc_gm_2, hc_gm_3, hc_gm_4, hc_gm_5, hc_gm_6, hc_gm_7, hc_gm_8, hf_gm_0, hf_gm_1, hf_gm_2, hf_gm_3, hf_gm_4, hf_gm_5, hf_gm_6, hf_gm_7, hf_gm_8⟩ := cf9 BK_gm.out; clear hB) | (go_at_call 48; with_reducible refine (many12_w XBY.out XL.out Xhn2.out Xhx.out _ _ _ (Kd.C_below HC_l.out HB.out) HK_l.out).mono ?_; rintro e w10_ ⟨v_x, rfl, hR, hB⟩; obtain ⟨A_x, c_x, rfl⟩ := Kd.R_slice hR; have hsz := HB.out.size; have nHB := Aside0.mk (HB.out.trans (hB.mono HB.out.size)); clear HB; have HB := nHB; clear nHB; clear hc_gq_0 hf_gq_0 hc_gq_1 hf_gq_1 hc_gq_2 hf_gq_2 hc_gq_3 hf_gq_3 hc_gq_4 hf_gq_4 hc_gq_5 hf_gq_5 hc_gq_6 hf_gq_6 hc_gq_7 hf_gq_7 hc_gq_8 hf_gq_8; have nBK := Aside0.mk (blk_below (g := gq) (o := .cells #[.int .u8 0, .int .i64 0, .int .u8 0, .int .u32 0, .bool false, .int .u8 0, .int .u8 0, .slice none 0 0, .slice none 0 0] 27 (0, 0)) BK_gq.out hB); clear BK_gq; have BK_gq := nBK; clear nBK; obtain ⟨hc_gq_0, hc_gq_1, hc_gq_2, hc_gq_3, hc_gq_4, hc_gq_5, hc_gq_6, hc_gq_7, hc_gq_8, hf_gq_0, hf_gq_1, hf_gq_2, hf_gq_3, hf_gq_4, hf_gq_5, hf_gq_6, hf_gq_7, hf_gq_8⟩ := cf9 BK_gq.out; clear hc_gm_0 hf_gm_0 hc_gm_1 hf_gm_1 hc_gm_2 hf_gm_2 hc_gm_3 hf_gm_3 hc_gm_4 hf_gm_4 hc_gm_5 hf_gm_5 hc_gm_6 hf_gm_6 hc_gm_7 hf_gm_7 hc_gm_8 hf_gm_8; have nBK := Aside0.mk (blk_below (g := gm) (o := .cells #[.int .u8 17, .int .i64 2, .int .u8 code, .int .u32 grp, .bool false, .int .u8 0, .int .u8 0, .slice none 0 0, .slice none 0 0] 27 (0, 0)) BK_gm.out hB); clear BK_gm; have BK_gm := nBK; clear nBK; obtain ⟨hc_gm_0, hc_gm_1, hc_gm_2, hc_gm_3, hc_gm_4, hc_gm_5, hc_gm_6, hc_gm_7, hc_gm_8, hf_gm_0, hf_gm_1, hf_gm_2, hf_gm_3, hf_gm_4, hf_gm_5, hf_gm_6, hf_gm_7, hf_gm_8⟩ := cf9 BK_gm.out; have HR_x := Aside0.mk (Kd.R_mono (Kd.R_lower hR hsz) (fun _ _ => trivial : ∀ k, _ → (fun _ => True) k)); clear hR hsz; clear hB))
    clear e88 e89 e12
    go_upto_region 34 with fail
    have nHB : Aside0 (Below w.heap.size w (w10_.setCell ⟨gm, 1, none⟩ (.int .i64 3))) := ⟨below_set HB.out GE_gm.out⟩
    have nBK : Aside0 ((w10_.setCell ⟨gm, 1, none⟩ (.int .i64 3)).heap[gm]? = some (.cells #[.int .u8 17, .int .i64 3, .int .u8 code, .int .u32 grp, .bool false, .int .u8 0, .int .u8 0, .slice none 0 0, .slice none 0 0] 27 (0, 0))) := ⟨blk_put (cs := #[.int .u8 17, .int .i64 2, .int .u8 code, .int .u32 grp, .bool false, .int .u8 0, .int .u8 0, .slice none 0 0, .slice none 0 0]) BK_gm.out 1 (.int .i64 3) rfl⟩
    have nB_gq : Aside0 ((w10_.setCell ⟨gm, 1, none⟩ (.int .i64 3)).heap[gq]? = some (.cells #[.int .u8 0, .int .i64 0, .int .u8 0, .int .u32 0, .bool false, .int .u8 0, .int .u8 0, .slice none 0 0, .slice none 0 0] 27 (0, 0))) := ⟨blk_far BK_gq.out NB_gq_gm.out _⟩
    have nR_x := Aside0.mk (Kd.R_mono (Kd.R_far (p := ⟨gm, 1, none⟩) (Kd.R_types HR_x.out BK_gm.out (by decide)) (fun _ hk => hk.2) (.int .i64 3)) (fun _ _ => trivial : ∀ k, _ → (fun _ => True) k))
    clear hc_gq_0 hf_gq_0 hc_gq_1 hf_gq_1 hc_gq_2 hf_gq_2 hc_gq_3 hf_gq_3 hc_gq_4 hf_gq_4 hc_gq_5 hf_gq_5 hc_gq_6 hf_gq_6 hc_gq_7 hf_gq_7 hc_gq_8 hf_gq_8
    clear BK_gq
    clear hc_gm_0 hf_gm_0 hc_gm_1 hf_gm_1 hc_gm_2 hf_gm_2 hc_gm_3 hf_gm_3 hc_gm_4 hf_gm_4 hc_gm_5 hf_gm_5 hc_gm_6 hf_gm_6 hc_gm_7 hf_gm_7 hc_gm_8 hf_gm_8
    clear BK_gm
    clear HR_x
    clear HB
    generalize (w10_.setCell ⟨gm, 1, none⟩ (.int .i64 3)) = w11_ at nHB nBK nB_gq nR_x ⊢
    have HB := nHB
    have BK_gm := nBK
    have BK_gq := nB_gq
    have HR_x := nR_x
    clear nHB nBK nB_gq nR_x
    obtain ⟨hc_gq_0, hc_gq_1, hc_gq_2, hc_gq_3, hc_gq_4, hc_gq_5, hc_gq_6, hc_gq_7, hc_gq_8, hf_gq_0, hf_gq_1, hf_gq_2, hf_gq_3, hf_gq_4, hf_gq_5, hf_gq_6, hf_gq_7, hf_gq_8⟩ := cf9 BK_gq.out
    obtain ⟨hc_gm_0, hc_gm_1, hc_gm_2, hc_gm_3, hc_gm_4, hc_gm_5, hc_gm_6, hc_gm_7, hc_gm_8, hf_gm_0, hf_gm_1, hf_gm_2, hf_gm_3, hf_gm_4, hf_gm_5, hf_gm_6, hf_gm_7, hf_gm_8⟩ := cf9 BK_gm.out
    have y8 := idx_cell HC_l.out 8 (by decide) (by have := Xhl12.out; omega)
    have y9 := idx_cell HC_l.out 9 (by decide) (by have := Xhl12.out; omega)
    rw [show rd l ((8 : Nat) : Int) = f from Xhf.out] at y8
    rw [show rd l ((9 : Nat) : Int) = every from Xhev.out] at y9
    have z8 := (HB.out.cell (World.block_lt_of_cell? w _ y8)).trans y8
    have c8 : ((8 : Int) < (l.length : Int)) = True := eq_true (by have := Xhl12.out; omega)
    have c9 : ((9 : Int) < (l.length : Int)) = True := eq_true (by have := Xhl12.out; omega)
    go_upto_region 35 with fail
    trace_state
    rw [Xhrob.out]
    have nHB : Aside0 (Below w.heap.size w (w11_.setCell ⟨gm, 5, none⟩ (.int .u8 rob))) := ⟨below_set HB.out GE_gm.out⟩
    have nBK : Aside0 ((w11_.setCell ⟨gm, 5, none⟩ (.int .u8 rob)).heap[gm]? = some (.cells #[.int .u8 17, .int .i64 3, .int .u8 code, .int .u32 grp, .bool false, .int .u8 rob, .int .u8 0, .slice none 0 0, .slice none 0 0] 27 (0, 0))) := ⟨blk_put (cs := #[.int .u8 17, .int .i64 3, .int .u8 code, .int .u32 grp, .bool false, .int .u8 0, .int .u8 0, .slice none 0 0, .slice none 0 0]) BK_gm.out 5 (.int .u8 rob) rfl⟩
    have nB_gq : Aside0 ((w11_.setCell ⟨gm, 5, none⟩ (.int .u8 rob)).heap[gq]? = some (.cells #[.int .u8 0, .int .i64 0, .int .u8 0, .int .u32 0, .bool false, .int .u8 0, .int .u8 0, .slice none 0 0, .slice none 0 0] 27 (0, 0))) := ⟨blk_far BK_gq.out NB_gq_gm.out _⟩
    have nR_x := Aside0.mk (Kd.R_mono (Kd.R_far (p := ⟨gm, 5, none⟩) (Kd.R_types HR_x.out BK_gm.out (by decide)) (fun _ hk => hk.2) (.int .u8 rob)) (fun _ _ => trivial : ∀ k, _ → (fun _ => True) k))
    clear hc_gq_0 hf_gq_0 hc_gq_1 hf_gq_1 hc_gq_2 hf_gq_2 hc_gq_3 hf_gq_3 hc_gq_4 hf_gq_4 hc_gq_5 hf_gq_5 hc_gq_6 hf_gq_6 hc_gq_7 hf_gq_7 hc_gq_8 hf_gq_8
    clear BK_gq
    clear hc_gm_0 hf_gm_0 hc_gm_1 hf_gm_1 hc_gm_2 hf_gm_2 hc_gm_3 hf_gm_3 hc_gm_4 hf_gm_4 hc_gm_5 hf_gm_5 hc_gm_6 hf_gm_6 hc_gm_7 hf_gm_7 hc_gm_8 hf_gm_8
    clear BK_gm
    clear HR_x
    clear HB
    generalize (w11_.setCell ⟨gm, 5, none⟩ (.int .u8 rob)) = w12_ at nHB nBK nB_gq nR_x ⊢
    have HB := nHB
    have BK_gm := nBK
    have BK_gq := nB_gq
    have HR_x := nR_x
    clear nHB nBK nB_gq nR_x
    obtain ⟨hc_gq_0, hc_gq_1, hc_gq_2, hc_gq_3, hc_gq_4, hc_gq_5, hc_gq_6, hc_gq_7, hc_gq_8, hf_gq_0, hf_gq_1, hf_gq_2, hf_gq_3, hf_gq_4, hf_gq_5, hf_gq_6, hf_gq_7, hf_gq_8⟩ := cf9 BK_gq.out
    obtain ⟨hc_gm_0, hc_gm_1, hc_gm_2, hc_gm_3, hc_gm_4, hc_gm_5, hc_gm_6, hc_gm_7, hc_gm_8, hf_gm_0, hf_gm_1, hf_gm_2, hf_gm_3, hf_gm_4, hf_gm_5, hf_gm_6, hf_gm_7, hf_gm_8⟩ := cf9 BK_gm.out
    have z8 := (HB.out.cell (World.block_lt_of_cell? w _ y8)).trans y8
    go_upto_region 36 with fail
    rw [Xhquiet.out]
    have nHB : Aside0 (Below w.heap.size w (w12_.setCell ⟨gm, 4, none⟩ (.bool quiet))) := ⟨below_set HB.out GE_gm.out⟩
    have nBK : Aside0 ((w12_.setCell ⟨gm, 4, none⟩ (.bool quiet)).heap[gm]? = some (.cells #[.int .u8 17, .int .i64 3, .int .u8 code, .int .u32 grp, .bool quiet, .int .u8 rob, .int .u8 0, .slice none 0 0, .slice none 0 0] 27 (0, 0))) := ⟨blk_put (cs := #[.int .u8 17, .int .i64 3, .int .u8 code, .int .u32 grp, .bool false, .int .u8 rob, .int .u8 0, .slice none 0 0, .slice none 0 0]) BK_gm.out 4 (.bool quiet) rfl⟩
    have nB_gq : Aside0 ((w12_.setCell ⟨gm, 4, none⟩ (.bool quiet)).heap[gq]? = some (.cells #[.int .u8 0, .int .i64 0, .int .u8 0, .int .u32 0, .bool false, .int .u8 0, .int .u8 0, .slice none 0 0, .slice none 0 0] 27 (0, 0))) := ⟨blk_far BK_gq.out NB_gq_gm.out _⟩
    have nR_x := Aside0.mk (Kd.R_mono (Kd.R_far (p := ⟨gm, 4, none⟩) (Kd.R_types HR_x.out BK_gm.out (by decide)) (fun _ hk => hk.2) (.bool quiet)) (fun _ _ => trivial : ∀ k, _ → (fun _ => True) k))
    clear hc_gq_0 hf_gq_0 hc_gq_1 hf_gq_1 hc_gq_2 hf_gq_2 hc_gq_3 hf_gq_3 hc_gq_4 hf_gq_4 hc_gq_5 hf_gq_5 hc_gq_6 hf_gq_6 hc_gq_7 hf_gq_7 hc_gq_8 hf_gq_8
    clear BK_gq
    clear hc_gm_0 hf_gm_0 hc_gm_1 hf_gm_1 hc_gm_2 hf_gm_2 hc_gm_3 hf_gm_3 hc_gm_4 hf_gm_4 hc_gm_5 hf_gm_5 hc_gm_6 hf_gm_6 hc_gm_7 hf_gm_7 hc_gm_8 hf_gm_8
    clear BK_gm
    clear HR_x
    clear HB
    generalize (w12_.setCell ⟨gm, 4, none⟩ (.bool quiet)) = w13_ at nHB nBK nB_gq nR_x ⊢
    have HB := nHB
    have BK_gm := nBK
    have BK_gq := nB_gq
    have HR_x := nR_x
    clear nHB nBK nB_gq nR_x
    obtain ⟨hc_gq_0, hc_gq_1, hc_gq_2, hc_gq_3, hc_gq_4, hc_gq_5, hc_gq_6, hc_gq_7, hc_gq_8, hf_gq_0, hf_gq_1, hf_gq_2, hf_gq_3, hf_gq_4, hf_gq_5, hf_gq_6, hf_gq_7, hf_gq_8⟩ := cf9 BK_gq.out
    obtain ⟨hc_gm_0, hc_gm_1, hc_gm_2, hc_gm_3, hc_gm_4, hc_gm_5, hc_gm_6, hc_gm_7, hc_gm_8, hf_gm_0, hf_gm_1, hf_gm_2, hf_gm_3, hf_gm_4, hf_gm_5, hf_gm_6, hf_gm_7, hf_gm_8⟩ := cf9 BK_gm.out
    have z9 := (HB.out.cell (World.block_lt_of_cell? w _ y9)).trans y9
    go_upto_region 37 with fail
    have nHB : Aside0 (Below w.heap.size w (w13_.setCell ⟨gm, 6, none⟩ (.int .u8 every))) := ⟨below_set HB.out GE_gm.out⟩
    have nBK : Aside0 ((w13_.setCell ⟨gm, 6, none⟩ (.int .u8 every)).heap[gm]? = some (.cells #[.int .u8 17, .int .i64 3, .int .u8 code, .int .u32 grp, .bool quiet, .int .u8 rob, .int .u8 every, .slice none 0 0, .slice none 0 0] 27 (0, 0))) := ⟨blk_put (cs := #[.int .u8 17, .int .i64 3, .int .u8 code, .int .u32 grp, .bool quiet, .int .u8 rob, .int .u8 0, .slice none 0 0, .slice none 0 0]) BK_gm.out 6 (.int .u8 every) rfl⟩
    have nB_gq : Aside0 ((w13_.setCell ⟨gm, 6, none⟩ (.int .u8 every)).heap[gq]? = some (.cells #[.int .u8 0, .int .i64 0, .int .u8 0, .int .u32 0, .bool false, .int .u8 0, .int .u8 0, .slice none 0 0, .slice none 0 0] 27 (0, 0))) := ⟨blk_far BK_gq.out NB_gq_gm.out _⟩
    have nR_x := Aside0.mk (Kd.R_mono (Kd.R_far (p := ⟨gm, 6, none⟩) (Kd.R_types HR_x.out BK_gm.out (by decide)) (fun _ hk => hk.2) (.int .u8 every)) (fun _ _ => trivial : ∀ k, _ → (fun _ => True) k))
    clear hc_gq_0 hf_gq_0 hc_gq_1 hf_gq_1 hc_gq_2 hf_gq_2 hc_gq_3 hf_gq_3 hc_gq_4 hf_gq_4 hc_gq_5 hf_gq_5 hc_gq_6 hf_gq_6 hc_gq_7 hf_gq_7 hc_gq_8 hf_gq_8
    clear BK_gq
    clear hc_gm_0 hf_gm_0 hc_gm_1 hf_gm_1 hc_gm_2 hf_gm_2 hc_gm_3 hf_gm_3 hc_gm_4 hf_gm_4 hc_gm_5 hf_gm_5 hc_gm_6 hf_gm_6 hc_gm_7 hf_gm_7 hc_gm_8 hf_gm_8
    clear BK_gm
    clear HR_x
    clear HB
    generalize (w13_.setCell ⟨gm, 6, none⟩ (.int .u8 every)) = w14_ at nHB nBK nB_gq nR_x ⊢
    have HB := nHB
    have BK_gm := nBK
    have BK_gq := nB_gq
    have HR_x := nR_x
    clear nHB nBK nB_gq nR_x
    obtain ⟨hc_gq_0, hc_gq_1, hc_gq_2, hc_gq_3, hc_gq_4, hc_gq_5, hc_gq_6, hc_gq_7, hc_gq_8, hf_gq_0, hf_gq_1, hf_gq_2, hf_gq_3, hf_gq_4, hf_gq_5, hf_gq_6, hf_gq_7, hf_gq_8⟩ := cf9 BK_gq.out
    obtain ⟨hc_gm_0, hc_gm_1, hc_gm_2, hc_gm_3, hc_gm_4, hc_gm_5, hc_gm_6, hc_gm_7, hc_gm_8, hf_gm_0, hf_gm_1, hf_gm_2, hf_gm_3, hf_gm_4, hf_gm_5, hf_gm_6, hf_gm_7, hf_gm_8⟩ := cf9 BK_gm.out
    clear z8 z9
    go_upto_region 38 with fail
    have nHB : Aside0 (Below w.heap.size w (w14_.setCell ⟨gm, 7, none⟩ (.slice A_x xs.length c_x))) := ⟨below_set HB.out GE_gm.out⟩
    have nBK : Aside0 ((w14_.setCell ⟨gm, 7, none⟩ (.slice A_x xs.length c_x)).heap[gm]? = some (.cells #[.int .u8 17, .int .i64 3, .int .u8 code, .int .u32 grp, .bool quiet, .int .u8 rob, .int .u8 every, .slice A_x xs.length c_x, .slice none 0 0] 27 (0, 0))) := ⟨blk_put (cs := #[.int .u8 17, .int .i64 3, .int .u8 code, .int .u32 grp, .bool quiet, .int .u8 rob, .int .u8 every, .slice none 0 0, .slice none 0 0]) BK_gm.out 7 (.slice A_x xs.length c_x) rfl⟩
    have nB_gq : Aside0 ((w14_.setCell ⟨gm, 7, none⟩ (.slice A_x xs.length c_x)).heap[gq]? = some (.cells #[.int .u8 0, .int .i64 0, .int .u8 0, .int .u32 0, .bool false, .int .u8 0, .int .u8 0, .slice none 0 0, .slice none 0 0] 27 (0, 0))) := ⟨blk_far BK_gq.out NB_gq_gm.out _⟩
    have nR_x := Aside0.mk (Kd.R_mono (Kd.R_far (p := ⟨gm, 7, none⟩) (Kd.R_types HR_x.out BK_gm.out (by decide)) (fun _ hk => hk.2) (.slice A_x xs.length c_x)) (fun _ _ => trivial : ∀ k, _ → (fun _ => True) k))
    clear hc_gq_0 hf_gq_0 hc_gq_1 hf_gq_1 hc_gq_2 hf_gq_2 hc_gq_3 hf_gq_3 hc_gq_4 hf_gq_4 hc_gq_5 hf_gq_5 hc_gq_6 hf_gq_6 hc_gq_7 hf_gq_7 hc_gq_8 hf_gq_8
    clear BK_gq
    clear hc_gm_0 hf_gm_0 hc_gm_1 hf_gm_1 hc_gm_2 hf_gm_2 hc_gm_3 hf_gm_3 hc_gm_4 hf_gm_4 hc_gm_5 hf_gm_5 hc_gm_6 hf_gm_6 hc_gm_7 hf_gm_7 hc_gm_8 hf_gm_8
    clear BK_gm
    clear HR_x
    clear HB
    generalize (w14_.setCell ⟨gm, 7, none⟩ (.slice A_x xs.length c_x)) = w15_ at nHB nBK nB_gq nR_x ⊢
    have HB := nHB
    have BK_gm := nBK
    have BK_gq := nB_gq
    have HR_x := nR_x
    clear nHB nBK nB_gq nR_x
    obtain ⟨hc_gq_0, hc_gq_1, hc_gq_2, hc_gq_3, hc_gq_4, hc_gq_5, hc_gq_6, hc_gq_7, hc_gq_8, hf_gq_0, hf_gq_1, hf_gq_2, hf_gq_3, hf_gq_4, hf_gq_5, hf_gq_6, hf_gq_7, hf_gq_8⟩ := cf9 BK_gq.out
    obtain ⟨hc_gm_0, hc_gm_1, hc_gm_2, hc_gm_3, hc_gm_4, hc_gm_5, hc_gm_6, hc_gm_7, hc_gm_8, hf_gm_0, hf_gm_1, hf_gm_2, hf_gm_3, hf_gm_4, hf_gm_5, hf_gm_6, hf_gm_7, hf_gm_8⟩ := cf9 BK_gm.out
    go_upto_region 39 with fail
    rw [Xhen.out]
    go_upto_region 40 with (first | (go_at_call 16; with_reducible refine (rrights_w Xhb.out _ _ _ (Kd.R_reads' HR_x.out).2.2 (Kd.R_reads' HR_x.out).2.1).mono ?_; rintro e w16_ ⟨rfl, hB⟩; have nHB := Aside0.mk (HB.out.trans (hB.mono HB.out.size)); clear HB; have HB := nHB; clear nHB; clear hc_gq_0 hf_gq_0 hc_gq_1 hf_gq_1 hc_gq_2 hf_gq_2 hc_gq_3 hf_gq_3 hc_gq_4 hf_gq_4 hc_gq_5 hf_gq_5 hc_gq_6 hf_gq_6 hc_gq_7 hf_gq_7 hc_gq_8 hf_gq_8; have nBK := Aside0.mk (blk_below (g := gq) (o := .cells #[.int .u8 0, .int .i64 0, .int .u8 0, .int .u32 0, .bool false, .int .u8 0, .int .u8 0, .slice none 0 0, .slice none 0 0] 27 (0, 0)) BK_gq.out hB); clear BK_gq; have BK_gq := nBK; clear nBK; obtain ⟨hc_gq_0, hc_gq_1, hc_gq_2, hc_gq_3, hc_gq_4, hc_gq_5, hc_gq_6, hc_gq_7, hc_gq_8, hf_gq_0, hf_gq_1, hf_gq_2, hf_gq_3, hf_gq_4, hf_gq_5, hf_gq_6, hf_gq_7, hf_gq_8⟩ := cf9 BK_gq.out; clear hc_gm_0 hf_gm_0 hc_gm_1 hf_gm_1 hc_gm_2 hf_gm_2 hc_gm_3 hf_gm_3 hc_gm_4 hf_gm_4 hc_gm_5 hf_gm_5 hc_gm_6 hf_gm_6 hc_gm_7 hf_gm_7 hc_gm_8 hf_gm_8; have nBK := Aside0.mk (blk_below (g := gm) (o := .cells #[.int .u8 17, .int .i64 3, .int .u8 code, .int .u32 grp, .bool quiet, .int .u8 rob, .int .u8 every, .slice A_x xs.length c_x, .slice none 0 0] 27 (0, 0)) BK_gm.out hB); clear BK_gm; have BK_gm := nBK; clear nBK; obtain ⟨hc_gm_0, hc_gm_1, hc_gm_2, hc_gm_3, hc_gm_4, hc_gm_5, hc_gm_6, hc_gm_7, hc_gm_8, hf_gm_0, hf_gm_1, hf_gm_2, hf_gm_3, hf_gm_4, hf_gm_5, hf_gm_6, hf_gm_7, hf_gm_8⟩ := cf9 BK_gm.out; have nHC := Aside0.mk (Kd.R_below HR_x.out hB); clear HR_x; have HR_x := nHC; clear nHC; clear hB))
    have hq := Xhq.out
    cases q with
    | true =>
      obtain ⟨rfl, rfl⟩ : m = msg0 ∧ er = 2 := ⟨Xhm.out.trans (by simp), Xhe.out.trans (by simp)⟩
      go_wp2
      exact rdc_end rfl rfl rfl BK_gq.out HB.out GE_gq.out
    | false =>
      cases b with
      | false =>
        obtain ⟨rfl, rfl⟩ : m = msg0 ∧ er = 2 := ⟨Xhm.out.trans (by simp), Xhe.out.trans (by simp)⟩
        go_wp2
        exact rdc_end rfl rfl rfl BK_gq.out HB.out GE_gq.out
      | true =>
        obtain ⟨rfl, rfl⟩ : m = ⟨17, 3, code, grp, quiet, rob, every, xs, []⟩ ∧ er = 0 := ⟨Xhm.out.trans (by simp), Xhe.out.trans (by simp)⟩
        go_wp2
        refine bodyPost_ret (results_ct rfl _ _ gq 27 #[.int .u8 17, .int .i64 3, .int .u8 code, .int .u32 grp, .bool quiet, .int .u8 rob, .int .u8 every, .slice A_x xs.length c_x, .slice none 0 0] (0, 0) _ rfl (zz9 BK_gq.out _ _ _ _ _ _ _ _ _) Try.underlying27 rfl (by kernel_rfl)) rfl ?_
        unfold RDone
        exact ⟨A_x, c_x, none, 0, rfl, (Kd.R_reads' (rr9 HR_x.out BK_gq.out _ _ _ _ _ _ _ _ _)).2.2, (Kd.R_reads' HR_x.out).2.1, Kd.C_nil _ _, Nat.le_refl _, bb9 HB.out GE_gq.out _ _ _ _ _ _ _ _ _⟩
end Go.Proofs.Ytmmjmncchckbbaa
