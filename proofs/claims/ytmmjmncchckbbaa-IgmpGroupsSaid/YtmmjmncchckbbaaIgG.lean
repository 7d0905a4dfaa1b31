/-
  IgmpGroups, walked.
-/
import Derived.Test.YtmmjmncchckbbaaIgT
namespace Go.Proofs.Ytmmjmncchckbbaa
open Go.RowKit Go.Proofs.YtmmjmncchckbbaaW.PrintWords Go.Proofs.YtmmjmncchckbbaaW.PrintLast Go.Proofs.YtmmjmncchckbbaaW.PrintMore Go.Proofs.Ytmmjmncchckbbaa.PIg
set_option linter.unusedVariables false
set_option linter.unusedSimpArgs false
theorem asked_is {a : Int} {b : Bool} (h : askB a = b) (w : World) : Calls Try.prog 22 #[.int .u32 a] w fun e w' => e = .returned (.bool b) ∧ Below w.heap.size w w' := h ▸ asked_w a w
def gA (k g : Int) : Msg := ⟨k, 0, 0, g, false, 0, 0, [], []⟩
def gD (g : Int) : Msg := ⟨17, 3, 0, g, false, 0, 0, [], []⟩
def gC (g kind : Int) : Msg := ⟨34, 0, 0, 0, false, 0, 0, [], [⟨kind, g, []⟩]⟩
theorem gA_right {k g : Int} (h0 : 0 ≤ g) (h1 : g < 4294967296) (hk : k = 18 ∨ k = 23) : igmp_Right.f 3 k 0 0 g false 0 0 [] [] = some (askB g) := by
  have h := right_some (K := 3) (gA k g) ⟨h0, h1⟩ (by simp [gA]) (by show (0 : Nat) + 2 * 0 ≤ 1000000; decide) (by show (0 : Nat) + 2 * 0 + 1 < 3; decide)
  have e : rightB (gA k g) = askB g := by
    unfold rightB
    rw [if_neg (by show ¬ k = 17; omega), if_pos (by show k = 18 ∨ k = 22 ∨ k = 23; omega)]
    show (askB g && decide (gA k g = gA k g)) = askB g
    simp
  rw [e] at h
  exact h
theorem gD_right {g : Int} (h0 : 0 ≤ g) (h1 : g < 4294967296) : igmp_Right.f 3 17 3 0 g false 0 0 [] [] = some (grpB g) := by
  have h := right_some (K := 3) (gD g) ⟨h0, h1⟩ (by simp [gD]) (by show (0 : Nat) + 2 * 0 ≤ 1000000; decide) (by show (0 : Nat) + 2 * 0 + 1 < 3; decide)
  have e : rightB (gD g) = grpB g := by
    unfold rightB queryB gD
    simp
  rw [e] at h
  exact h
theorem gC_right {g kind : Int} (h0 : 0 ≤ g) (h1 : g < 4294967296) : igmp_Right.f 5 34 0 0 0 false 0 0 [] [⟨kind, g, []⟩] = some (recB ⟨kind, g, []⟩) := by
  have h := right_some (K := 5) (gC g kind) ⟨by show (0 : Int) ≤ 0; decide, by show (0 : Int) < 4294967296; decide⟩ (by simp [gC]; exact ⟨h0, h1⟩) (by show (0 : Nat) + 2 * (0 + 0 + 1) ≤ 1000000; decide) (by show (0 : Nat) + 2 * (0 + 0 + 1) + 1 < 5; decide)
  have e : rightB (gC g kind) = recB ⟨kind, g, []⟩ := by
    unfold rightB gC
    simp
  rw [e] at h
  exact h
set_option maxHeartbeats 8000000 in
set_option maxRecDepth 100000 in
theorem groups_tttx {g kind : Int} (h0 : 0 ≤ g) (h1 : g < 4294967296) (ha : askB g = true) (k1 : decide (1 ≤ kind) = true) (k2 : decide (kind ≤ 6) = true) (hc : recB ⟨kind, g, []⟩ = true) (hd : grpB g = true) (w : World) : Calls Try.prog 9 #[.int .u32 g, .int .u8 kind] w fun e w' => e = .returned (.bool true) ∧ Below w.heap.size w w' := by
  have HB := Aside0.mk (Below.refl w.heap.size w)
  have QA := Aside0.mk (gA_right h0 h1 (Or.inl rfl))
  have QB := Aside0.mk (gA_right h0 h1 (Or.inr rfl))
  have QC := Aside0.mk (gC_right (kind := kind) h0 h1)
  have QD := Aside0.mk (gD_right h0 h1)
  rw [ha] at QA QB
  rw [hc] at QC
  rw [hd] at QD
  have HA := Aside0.mk ha
  clear ha hc hd
  obtain ⟨y, hy⟩ : ∃ y_, y_ = [(⟨kind, g, []⟩ : S44)] := ⟨_, rfl⟩
  rw [← hy] at QC
  have HY := Aside0.mk hy
  clear hy
  have k1p : 1 ≤ kind := by simpa using k1
  have k2p : kind ≤ 6 := by simpa using k2
  have RA := Aside0.mk (show ∀ w, Calls Try.prog 15 #[.agg #[.int .u8 18, .int .i64 0, .int .u8 0, .int .u32 g, .bool false, .int .u8 0, .int .u8 0, .slice none 0 0, .slice none 0 0]] w fun e w' => e = .returned (.bool true) ∧ Below w.heap.size w w' from fun w => right_w QA.out none 0 none 0 w (Kd.C_nil _ _) (Nat.le_refl _) (Kd.C_nil _ _) (Nat.le_refl _))
  have RB := Aside0.mk (show ∀ w, Calls Try.prog 15 #[.agg #[.int .u8 23, .int .i64 0, .int .u8 0, .int .u32 g, .bool false, .int .u8 0, .int .u8 0, .slice none 0 0, .slice none 0 0]] w fun e w' => e = .returned (.bool true) ∧ Below w.heap.size w w' from fun w => right_w QB.out none 0 none 0 w (Kd.C_nil _ _) (Nat.le_refl _) (Kd.C_nil _ _) (Nat.le_refl _))
  have RD := Aside0.mk (show ∀ w, Calls Try.prog 15 #[.agg #[.int .u8 17, .int .i64 3, .int .u8 0, .int .u32 g, .bool false, .int .u8 0, .int .u8 0, .slice none 0 0, .slice none 0 0]] w fun e w' => e = .returned (.bool true) ∧ Below w.heap.size w w' from fun w => right_w QD.out none 0 none 0 w (Kd.C_nil _ _) (Nat.le_refl _) (Kd.C_nil _ _) (Nat.le_refl _))
  have RC := Aside0.mk (show ∀ (A_r : Option Addr) (c_r : Nat) (w : World), Kd.C k44 w A_r y.length y → y.length ≤ c_r → Calls Try.prog 15 #[.agg #[.int .u8 34, .int .i64 0, .int .u8 0, .int .u32 0, .bool false, .int .u8 0, .int .u8 0, .slice none 0 0, .slice A_r y.length c_r]] w fun e w' => e = .returned (.bool true) ∧ Below w.heap.size w w' from fun A_r c_r w h1 h2 => right_w QC.out none 0 A_r c_r w (Kd.C_nil _ _) (Nat.le_refl _) h1 h2)
  go_enter Try.func9, Try.ntmps9
  go_wp2_with (first | (go_at_call 11; with_reducible refine (shown_calls _).mono ?_; rintro e w1_ ⟨rfl, hB⟩; have nHB := Aside0.mk (HB.out.trans (hB.mono HB.out.size)); clear HB; have HB := nHB; clear nHB; clear hB) | (go_at_call 22; with_reducible refine (asked_is HA.out _).mono ?_; rintro e w2_ ⟨rfl, hB⟩; have nHB := Aside0.mk (HB.out.trans (hB.mono HB.out.size)); clear HB; have HB := nHB; clear nHB; clear hB) | (go_at_call 15; with_reducible refine (RA.out _).mono ?_; rintro e w3_ ⟨rfl, hB⟩; have nHB := Aside0.mk (HB.out.trans (hB.mono HB.out.size)); clear HB; have HB := nHB; clear nHB; clear hB) | (go_at_call 15; with_reducible refine (RB.out _).mono ?_; rintro e w4_ ⟨rfl, hB⟩; have nHB := Aside0.mk (HB.out.trans (hB.mono HB.out.size)); clear HB; have HB := nHB; clear nHB; clear hB) | ((with_reducible refine gate_dst (N := 23) rfl ?_); refine Kd.N_lit k44 _ 44 ?hg (N' := 23) ?hd (xs := [(⟨kind, g, []⟩ : S44)]) (inner := [.int .u8 kind, .int .u32 g, .slice none 0 0]) (ok := fun _ => True) (okp := fun _ => True) ?hr ?hp (fun _ _ => trivial) trivial (Below.refl _ _) (Nat.le_refl _) (by simp) ?_; (case hd => rfl); (case hg => rfl); (case hr => first | (go_simp; done) | (go_simp; rfl)); (case hp => exact Reps.c3 (Kd.FK_of_M (k44_mkM _ 0 (fun _ => True) (⟨kind, g, []⟩ : S44) (v2 := .slice none 0 0) (Kd.R_nil _ _ _ _ _))) (Reps.none _ _)); intro v_y w5_ hN hB hg_ hn_; clear hg_ hn_; rw [← HY.out] at hN; have nHB := Aside0.mk (HB.out.trans (hB.mono HB.out.size)); clear HB; have HB := nHB; clear nHB; obtain ⟨A_y, c_y, rfl⟩ := Kd.N_slice hN; have HC_y := Aside0.mk (Kd.N_reads' hN).2.2; have HK_y := Aside0.mk (Kd.N_reads' hN).2.1; clear hN hB) | (go_at_call 15; with_reducible refine (RC.out _ _ _ HC_y.out HK_y.out).mono ?_; rintro e w6_ ⟨rfl, hB⟩; have nHB := Aside0.mk (HB.out.trans (hB.mono HB.out.size)); clear HB; have HB := nHB; clear nHB; have nHC := Aside0.mk (Kd.C_below HC_y.out hB); clear HC_y; have HC_y := nHC; clear nHC; clear hB) | (go_at_call 15; with_reducible refine (RD.out _).mono ?_; rintro e w7_ ⟨rfl, hB⟩; have nHB := Aside0.mk (HB.out.trans (hB.mono HB.out.size)); clear HB; have HB := nHB; clear nHB; have nHC := Aside0.mk (Kd.C_below HC_y.out hB); clear HC_y; have HC_y := nHC; clear nHC; clear hB))
  go_ret
  exact ⟨rfl, HB.out⟩
set_option maxHeartbeats 8000000 in
set_option maxRecDepth 100000 in
theorem groups_ttfx {g kind : Int} (h0 : 0 ≤ g) (h1 : g < 4294967296) (ha : askB g = true) (k1 : decide (1 ≤ kind) = true) (k2 : decide (kind ≤ 6) = false) (hc : recB ⟨kind, g, []⟩ = false) (hd : grpB g = true) (w : World) : Calls Try.prog 9 #[.int .u32 g, .int .u8 kind] w fun e w' => e = .returned (.bool true) ∧ Below w.heap.size w w' := by
  have HB := Aside0.mk (Below.refl w.heap.size w)
  have QA := Aside0.mk (gA_right h0 h1 (Or.inl rfl))
  have QB := Aside0.mk (gA_right h0 h1 (Or.inr rfl))
  have QC := Aside0.mk (gC_right (kind := kind) h0 h1)
  have QD := Aside0.mk (gD_right h0 h1)
  rw [ha] at QA QB
  rw [hc] at QC
  rw [hd] at QD
  have HA := Aside0.mk ha
  clear ha hc hd
  obtain ⟨y, hy⟩ : ∃ y_, y_ = [(⟨kind, g, []⟩ : S44)] := ⟨_, rfl⟩
  rw [← hy] at QC
  have HY := Aside0.mk hy
  clear hy
  have k1p : 1 ≤ kind := by simpa using k1
  have k2p : 6 < kind := by simpa using k2
  have RA := Aside0.mk (show ∀ w, Calls Try.prog 15 #[.agg #[.int .u8 18, .int .i64 0, .int .u8 0, .int .u32 g, .bool false, .int .u8 0, .int .u8 0, .slice none 0 0, .slice none 0 0]] w fun e w' => e = .returned (.bool true) ∧ Below w.heap.size w w' from fun w => right_w QA.out none 0 none 0 w (Kd.C_nil _ _) (Nat.le_refl _) (Kd.C_nil _ _) (Nat.le_refl _))
  have RB := Aside0.mk (show ∀ w, Calls Try.prog 15 #[.agg #[.int .u8 23, .int .i64 0, .int .u8 0, .int .u32 g, .bool false, .int .u8 0, .int .u8 0, .slice none 0 0, .slice none 0 0]] w fun e w' => e = .returned (.bool true) ∧ Below w.heap.size w w' from fun w => right_w QB.out none 0 none 0 w (Kd.C_nil _ _) (Nat.le_refl _) (Kd.C_nil _ _) (Nat.le_refl _))
  have RD := Aside0.mk (show ∀ w, Calls Try.prog 15 #[.agg #[.int .u8 17, .int .i64 3, .int .u8 0, .int .u32 g, .bool false, .int .u8 0, .int .u8 0, .slice none 0 0, .slice none 0 0]] w fun e w' => e = .returned (.bool true) ∧ Below w.heap.size w w' from fun w => right_w QD.out none 0 none 0 w (Kd.C_nil _ _) (Nat.le_refl _) (Kd.C_nil _ _) (Nat.le_refl _))
  have RC := Aside0.mk (show ∀ (A_r : Option Addr) (c_r : Nat) (w : World), Kd.C k44 w A_r y.length y → y.length ≤ c_r → Calls Try.prog 15 #[.agg #[.int .u8 34, .int .i64 0, .int .u8 0, .int .u32 0, .bool false, .int .u8 0, .int .u8 0, .slice none 0 0, .slice A_r y.length c_r]] w fun e w' => e = .returned (.bool false) ∧ Below w.heap.size w w' from fun A_r c_r w h1 h2 => right_w QC.out none 0 A_r c_r w (Kd.C_nil _ _) (Nat.le_refl _) h1 h2)
  go_enter Try.func9, Try.ntmps9
  go_wp2_with (first | (go_at_call 11; with_reducible refine (shown_calls _).mono ?_; rintro e w1_ ⟨rfl, hB⟩; have nHB := Aside0.mk (HB.out.trans (hB.mono HB.out.size)); clear HB; have HB := nHB; clear nHB; clear hB) | (go_at_call 22; with_reducible refine (asked_is HA.out _).mono ?_; rintro e w2_ ⟨rfl, hB⟩; have nHB := Aside0.mk (HB.out.trans (hB.mono HB.out.size)); clear HB; have HB := nHB; clear nHB; clear hB) | (go_at_call 15; with_reducible refine (RA.out _).mono ?_; rintro e w3_ ⟨rfl, hB⟩; have nHB := Aside0.mk (HB.out.trans (hB.mono HB.out.size)); clear HB; have HB := nHB; clear nHB; clear hB) | (go_at_call 15; with_reducible refine (RB.out _).mono ?_; rintro e w4_ ⟨rfl, hB⟩; have nHB := Aside0.mk (HB.out.trans (hB.mono HB.out.size)); clear HB; have HB := nHB; clear nHB; clear hB) | ((with_reducible refine gate_dst (N := 23) rfl ?_); refine Kd.N_lit k44 _ 44 ?hg (N' := 23) ?hd (xs := [(⟨kind, g, []⟩ : S44)]) (inner := [.int .u8 kind, .int .u32 g, .slice none 0 0]) (ok := fun _ => True) (okp := fun _ => True) ?hr ?hp (fun _ _ => trivial) trivial (Below.refl _ _) (Nat.le_refl _) (by simp) ?_; (case hd => rfl); (case hg => rfl); (case hr => first | (go_simp; done) | (go_simp; rfl)); (case hp => exact Reps.c3 (Kd.FK_of_M (k44_mkM _ 0 (fun _ => True) (⟨kind, g, []⟩ : S44) (v2 := .slice none 0 0) (Kd.R_nil _ _ _ _ _))) (Reps.none _ _)); intro v_y w5_ hN hB hg_ hn_; clear hg_ hn_; rw [← HY.out] at hN; have nHB := Aside0.mk (HB.out.trans (hB.mono HB.out.size)); clear HB; have HB := nHB; clear nHB; obtain ⟨A_y, c_y, rfl⟩ := Kd.N_slice hN; have HC_y := Aside0.mk (Kd.N_reads' hN).2.2; have HK_y := Aside0.mk (Kd.N_reads' hN).2.1; clear hN hB) | (go_at_call 15; with_reducible refine (RC.out _ _ _ HC_y.out HK_y.out).mono ?_; rintro e w6_ ⟨rfl, hB⟩; have nHB := Aside0.mk (HB.out.trans (hB.mono HB.out.size)); clear HB; have HB := nHB; clear nHB; have nHC := Aside0.mk (Kd.C_below HC_y.out hB); clear HC_y; have HC_y := nHC; clear nHC; clear hB) | (go_at_call 15; with_reducible refine (RD.out _).mono ?_; rintro e w7_ ⟨rfl, hB⟩; have nHB := Aside0.mk (HB.out.trans (hB.mono HB.out.size)); clear HB; have HB := nHB; clear nHB; have nHC := Aside0.mk (Kd.C_below HC_y.out hB); clear HC_y; have HC_y := nHC; clear nHC; clear hB))
  go_ret
  exact ⟨rfl, HB.out⟩
set_option maxHeartbeats 8000000 in
set_option maxRecDepth 100000 in
theorem groups_tfxx {g kind : Int} (h0 : 0 ≤ g) (h1 : g < 4294967296) (ha : askB g = true) (k1 : decide (1 ≤ kind) = false) (hc : recB ⟨kind, g, []⟩ = false) (hd : grpB g = true) (w : World) : Calls Try.prog 9 #[.int .u32 g, .int .u8 kind] w fun e w' => e = .returned (.bool true) ∧ Below w.heap.size w w' := by
  have HB := Aside0.mk (Below.refl w.heap.size w)
  have QA := Aside0.mk (gA_right h0 h1 (Or.inl rfl))
  have QB := Aside0.mk (gA_right h0 h1 (Or.inr rfl))
  have QC := Aside0.mk (gC_right (kind := kind) h0 h1)
  have QD := Aside0.mk (gD_right h0 h1)
  rw [ha] at QA QB
  rw [hc] at QC
  rw [hd] at QD
  have HA := Aside0.mk ha
  clear ha hc hd
  obtain ⟨y, hy⟩ : ∃ y_, y_ = [(⟨kind, g, []⟩ : S44)] := ⟨_, rfl⟩
  rw [← hy] at QC
  have HY := Aside0.mk hy
  clear hy
  have k1p : kind < 1 := by simpa using k1
  have RA := Aside0.mk (show ∀ w, Calls Try.prog 15 #[.agg #[.int .u8 18, .int .i64 0, .int .u8 0, .int .u32 g, .bool false, .int .u8 0, .int .u8 0, .slice none 0 0, .slice none 0 0]] w fun e w' => e = .returned (.bool true) ∧ Below w.heap.size w w' from fun w => right_w QA.out none 0 none 0 w (Kd.C_nil _ _) (Nat.le_refl _) (Kd.C_nil _ _) (Nat.le_refl _))
  have RB := Aside0.mk (show ∀ w, Calls Try.prog 15 #[.agg #[.int .u8 23, .int .i64 0, .int .u8 0, .int .u32 g, .bool false, .int .u8 0, .int .u8 0, .slice none 0 0, .slice none 0 0]] w fun e w' => e = .returned (.bool true) ∧ Below w.heap.size w w' from fun w => right_w QB.out none 0 none 0 w (Kd.C_nil _ _) (Nat.le_refl _) (Kd.C_nil _ _) (Nat.le_refl _))
  have RD := Aside0.mk (show ∀ w, Calls Try.prog 15 #[.agg #[.int .u8 17, .int .i64 3, .int .u8 0, .int .u32 g, .bool false, .int .u8 0, .int .u8 0, .slice none 0 0, .slice none 0 0]] w fun e w' => e = .returned (.bool true) ∧ Below w.heap.size w w' from fun w => right_w QD.out none 0 none 0 w (Kd.C_nil _ _) (Nat.le_refl _) (Kd.C_nil _ _) (Nat.le_refl _))
  have RC := Aside0.mk (show ∀ (A_r : Option Addr) (c_r : Nat) (w : World), Kd.C k44 w A_r y.length y → y.length ≤ c_r → Calls Try.prog 15 #[.agg #[.int .u8 34, .int .i64 0, .int .u8 0, .int .u32 0, .bool false, .int .u8 0, .int .u8 0, .slice none 0 0, .slice A_r y.length c_r]] w fun e w' => e = .returned (.bool false) ∧ Below w.heap.size w w' from fun A_r c_r w h1 h2 => right_w QC.out none 0 A_r c_r w (Kd.C_nil _ _) (Nat.le_refl _) h1 h2)
  go_enter Try.func9, Try.ntmps9
  go_wp2_with (first | (go_at_call 11; with_reducible refine (shown_calls _).mono ?_; rintro e w1_ ⟨rfl, hB⟩; have nHB := Aside0.mk (HB.out.trans (hB.mono HB.out.size)); clear HB; have HB := nHB; clear nHB; clear hB) | (go_at_call 22; with_reducible refine (asked_is HA.out _).mono ?_; rintro e w2_ ⟨rfl, hB⟩; have nHB := Aside0.mk (HB.out.trans (hB.mono HB.out.size)); clear HB; have HB := nHB; clear nHB; clear hB) | (go_at_call 15; with_reducible refine (RA.out _).mono ?_; rintro e w3_ ⟨rfl, hB⟩; have nHB := Aside0.mk (HB.out.trans (hB.mono HB.out.size)); clear HB; have HB := nHB; clear nHB; clear hB) | (go_at_call 15; with_reducible refine (RB.out _).mono ?_; rintro e w4_ ⟨rfl, hB⟩; have nHB := Aside0.mk (HB.out.trans (hB.mono HB.out.size)); clear HB; have HB := nHB; clear nHB; clear hB) | ((with_reducible refine gate_dst (N := 23) rfl ?_); refine Kd.N_lit k44 _ 44 ?hg (N' := 23) ?hd (xs := [(⟨kind, g, []⟩ : S44)]) (inner := [.int .u8 kind, .int .u32 g, .slice none 0 0]) (ok := fun _ => True) (okp := fun _ => True) ?hr ?hp (fun _ _ => trivial) trivial (Below.refl _ _) (Nat.le_refl _) (by simp) ?_; (case hd => rfl); (case hg => rfl); (case hr => first | (go_simp; done) | (go_simp; rfl)); (case hp => exact Reps.c3 (Kd.FK_of_M (k44_mkM _ 0 (fun _ => True) (⟨kind, g, []⟩ : S44) (v2 := .slice none 0 0) (Kd.R_nil _ _ _ _ _))) (Reps.none _ _)); intro v_y w5_ hN hB hg_ hn_; clear hg_ hn_; rw [← HY.out] at hN; have nHB := Aside0.mk (HB.out.trans (hB.mono HB.out.size)); clear HB; have HB := nHB; clear nHB; obtain ⟨A_y, c_y, rfl⟩ := Kd.N_slice hN; have HC_y := Aside0.mk (Kd.N_reads' hN).2.2; have HK_y := Aside0.mk (Kd.N_reads' hN).2.1; clear hN hB) | (go_at_call 15; with_reducible refine (RC.out _ _ _ HC_y.out HK_y.out).mono ?_; rintro e w6_ ⟨rfl, hB⟩; have nHB := Aside0.mk (HB.out.trans (hB.mono HB.out.size)); clear HB; have HB := nHB; clear nHB; have nHC := Aside0.mk (Kd.C_below HC_y.out hB); clear HC_y; have HC_y := nHC; clear nHC; clear hB) | (go_at_call 15; with_reducible refine (RD.out _).mono ?_; rintro e w7_ ⟨rfl, hB⟩; have nHB := Aside0.mk (HB.out.trans (hB.mono HB.out.size)); clear HB; have HB := nHB; clear nHB; have nHC := Aside0.mk (Kd.C_below HC_y.out hB); clear HC_y; have HC_y := nHC; clear nHC; clear hB))
  go_ret
  exact ⟨rfl, HB.out⟩
set_option maxHeartbeats 8000000 in
set_option maxRecDepth 100000 in
theorem groups_fxxt {g kind : Int} (h0 : 0 ≤ g) (h1 : g < 4294967296) (ha : askB g = false) (gz : (g == 0) = true) (hc : recB ⟨kind, g, []⟩ = false) (hd : grpB g = true) (w : World) : Calls Try.prog 9 #[.int .u32 g, .int .u8 kind] w fun e w' => e = .returned (.bool true) ∧ Below w.heap.size w w' := by
  have HB := Aside0.mk (Below.refl w.heap.size w)
  have QA := Aside0.mk (gA_right h0 h1 (Or.inl rfl))
  have QB := Aside0.mk (gA_right h0 h1 (Or.inr rfl))
  have QC := Aside0.mk (gC_right (kind := kind) h0 h1)
  have QD := Aside0.mk (gD_right h0 h1)
  rw [ha] at QA QB
  rw [hc] at QC
  rw [hd] at QD
  have HA := Aside0.mk ha
  clear ha hc hd
  obtain ⟨y, hy⟩ : ∃ y_, y_ = [(⟨kind, g, []⟩ : S44)] := ⟨_, rfl⟩
  rw [← hy] at QC
  have HY := Aside0.mk hy
  clear hy
  have RA := Aside0.mk (show ∀ w, Calls Try.prog 15 #[.agg #[.int .u8 18, .int .i64 0, .int .u8 0, .int .u32 g, .bool false, .int .u8 0, .int .u8 0, .slice none 0 0, .slice none 0 0]] w fun e w' => e = .returned (.bool false) ∧ Below w.heap.size w w' from fun w => right_w QA.out none 0 none 0 w (Kd.C_nil _ _) (Nat.le_refl _) (Kd.C_nil _ _) (Nat.le_refl _))
  have RB := Aside0.mk (show ∀ w, Calls Try.prog 15 #[.agg #[.int .u8 23, .int .i64 0, .int .u8 0, .int .u32 g, .bool false, .int .u8 0, .int .u8 0, .slice none 0 0, .slice none 0 0]] w fun e w' => e = .returned (.bool false) ∧ Below w.heap.size w w' from fun w => right_w QB.out none 0 none 0 w (Kd.C_nil _ _) (Nat.le_refl _) (Kd.C_nil _ _) (Nat.le_refl _))
  have RD := Aside0.mk (show ∀ w, Calls Try.prog 15 #[.agg #[.int .u8 17, .int .i64 3, .int .u8 0, .int .u32 g, .bool false, .int .u8 0, .int .u8 0, .slice none 0 0, .slice none 0 0]] w fun e w' => e = .returned (.bool true) ∧ Below w.heap.size w w' from fun w => right_w QD.out none 0 none 0 w (Kd.C_nil _ _) (Nat.le_refl _) (Kd.C_nil _ _) (Nat.le_refl _))
  have RC := Aside0.mk (show ∀ (A_r : Option Addr) (c_r : Nat) (w : World), Kd.C k44 w A_r y.length y → y.length ≤ c_r → Calls Try.prog 15 #[.agg #[.int .u8 34, .int .i64 0, .int .u8 0, .int .u32 0, .bool false, .int .u8 0, .int .u8 0, .slice none 0 0, .slice A_r y.length c_r]] w fun e w' => e = .returned (.bool false) ∧ Below w.heap.size w w' from fun A_r c_r w h1 h2 => right_w QC.out none 0 A_r c_r w (Kd.C_nil _ _) (Nat.le_refl _) h1 h2)
  go_enter Try.func9, Try.ntmps9
  go_wp2_with (first | (go_at_call 11; with_reducible refine (shown_calls _).mono ?_; rintro e w1_ ⟨rfl, hB⟩; have nHB := Aside0.mk (HB.out.trans (hB.mono HB.out.size)); clear HB; have HB := nHB; clear nHB; clear hB) | (go_at_call 22; with_reducible refine (asked_is HA.out _).mono ?_; rintro e w2_ ⟨rfl, hB⟩; have nHB := Aside0.mk (HB.out.trans (hB.mono HB.out.size)); clear HB; have HB := nHB; clear nHB; clear hB) | (go_at_call 15; with_reducible refine (RA.out _).mono ?_; rintro e w3_ ⟨rfl, hB⟩; have nHB := Aside0.mk (HB.out.trans (hB.mono HB.out.size)); clear HB; have HB := nHB; clear nHB; clear hB) | (go_at_call 15; with_reducible refine (RB.out _).mono ?_; rintro e w4_ ⟨rfl, hB⟩; have nHB := Aside0.mk (HB.out.trans (hB.mono HB.out.size)); clear HB; have HB := nHB; clear nHB; clear hB) | ((with_reducible refine gate_dst (N := 23) rfl ?_); refine Kd.N_lit k44 _ 44 ?hg (N' := 23) ?hd (xs := [(⟨kind, g, []⟩ : S44)]) (inner := [.int .u8 kind, .int .u32 g, .slice none 0 0]) (ok := fun _ => True) (okp := fun _ => True) ?hr ?hp (fun _ _ => trivial) trivial (Below.refl _ _) (Nat.le_refl _) (by simp) ?_; (case hd => rfl); (case hg => rfl); (case hr => first | (go_simp; done) | (go_simp; rfl)); (case hp => exact Reps.c3 (Kd.FK_of_M (k44_mkM _ 0 (fun _ => True) (⟨kind, g, []⟩ : S44) (v2 := .slice none 0 0) (Kd.R_nil _ _ _ _ _))) (Reps.none _ _)); intro v_y w5_ hN hB hg_ hn_; clear hg_ hn_; rw [← HY.out] at hN; have nHB := Aside0.mk (HB.out.trans (hB.mono HB.out.size)); clear HB; have HB := nHB; clear nHB; obtain ⟨A_y, c_y, rfl⟩ := Kd.N_slice hN; have HC_y := Aside0.mk (Kd.N_reads' hN).2.2; have HK_y := Aside0.mk (Kd.N_reads' hN).2.1; clear hN hB) | (go_at_call 15; with_reducible refine (RC.out _ _ _ HC_y.out HK_y.out).mono ?_; rintro e w6_ ⟨rfl, hB⟩; have nHB := Aside0.mk (HB.out.trans (hB.mono HB.out.size)); clear HB; have HB := nHB; clear nHB; have nHC := Aside0.mk (Kd.C_below HC_y.out hB); clear HC_y; have HC_y := nHC; clear nHC; clear hB) | (go_at_call 15; with_reducible refine (RD.out _).mono ?_; rintro e w7_ ⟨rfl, hB⟩; have nHB := Aside0.mk (HB.out.trans (hB.mono HB.out.size)); clear HB; have HB := nHB; clear nHB; have nHC := Aside0.mk (Kd.C_below HC_y.out hB); clear HC_y; have HC_y := nHC; clear nHC; clear hB))
  go_ret
  exact ⟨rfl, HB.out⟩
set_option maxHeartbeats 8000000 in
set_option maxRecDepth 100000 in
theorem groups_fxxf {g kind : Int} (h0 : 0 ≤ g) (h1 : g < 4294967296) (ha : askB g = false) (gz : (g == 0) = false) (hc : recB ⟨kind, g, []⟩ = false) (hd : grpB g = false) (w : World) : Calls Try.prog 9 #[.int .u32 g, .int .u8 kind] w fun e w' => e = .returned (.bool true) ∧ Below w.heap.size w w' := by
  have HB := Aside0.mk (Below.refl w.heap.size w)
  have QA := Aside0.mk (gA_right h0 h1 (Or.inl rfl))
  have QB := Aside0.mk (gA_right h0 h1 (Or.inr rfl))
  have QC := Aside0.mk (gC_right (kind := kind) h0 h1)
  have QD := Aside0.mk (gD_right h0 h1)
  rw [ha] at QA QB
  rw [hc] at QC
  rw [hd] at QD
  have HA := Aside0.mk ha
  clear ha hc hd
  obtain ⟨y, hy⟩ : ∃ y_, y_ = [(⟨kind, g, []⟩ : S44)] := ⟨_, rfl⟩
  rw [← hy] at QC
  have HY := Aside0.mk hy
  clear hy
  have RA := Aside0.mk (show ∀ w, Calls Try.prog 15 #[.agg #[.int .u8 18, .int .i64 0, .int .u8 0, .int .u32 g, .bool false, .int .u8 0, .int .u8 0, .slice none 0 0, .slice none 0 0]] w fun e w' => e = .returned (.bool false) ∧ Below w.heap.size w w' from fun w => right_w QA.out none 0 none 0 w (Kd.C_nil _ _) (Nat.le_refl _) (Kd.C_nil _ _) (Nat.le_refl _))
  have RB := Aside0.mk (show ∀ w, Calls Try.prog 15 #[.agg #[.int .u8 23, .int .i64 0, .int .u8 0, .int .u32 g, .bool false, .int .u8 0, .int .u8 0, .slice none 0 0, .slice none 0 0]] w fun e w' => e = .returned (.bool false) ∧ Below w.heap.size w w' from fun w => right_w QB.out none 0 none 0 w (Kd.C_nil _ _) (Nat.le_refl _) (Kd.C_nil _ _) (Nat.le_refl _))
  have RD := Aside0.mk (show ∀ w, Calls Try.prog 15 #[.agg #[.int .u8 17, .int .i64 3, .int .u8 0, .int .u32 g, .bool false, .int .u8 0, .int .u8 0, .slice none 0 0, .slice none 0 0]] w fun e w' => e = .returned (.bool false) ∧ Below w.heap.size w w' from fun w => right_w QD.out none 0 none 0 w (Kd.C_nil _ _) (Nat.le_refl _) (Kd.C_nil _ _) (Nat.le_refl _))
  have RC := Aside0.mk (show ∀ (A_r : Option Addr) (c_r : Nat) (w : World), Kd.C k44 w A_r y.length y → y.length ≤ c_r → Calls Try.prog 15 #[.agg #[.int .u8 34, .int .i64 0, .int .u8 0, .int .u32 0, .bool false, .int .u8 0, .int .u8 0, .slice none 0 0, .slice A_r y.length c_r]] w fun e w' => e = .returned (.bool false) ∧ Below w.heap.size w w' from fun A_r c_r w h1 h2 => right_w QC.out none 0 A_r c_r w (Kd.C_nil _ _) (Nat.le_refl _) h1 h2)
  go_enter Try.func9, Try.ntmps9
  go_wp2_with (first | (go_at_call 11; with_reducible refine (shown_calls _).mono ?_; rintro e w1_ ⟨rfl, hB⟩; have nHB := Aside0.mk (HB.out.trans (hB.mono HB.out.size)); clear HB; have HB := nHB; clear nHB; clear hB) | (go_at_call 22; with_reducible refine (asked_is HA.out _).mono ?_; rintro e w2_ ⟨rfl, hB⟩; have nHB := Aside0.mk (HB.out.trans (hB.mono HB.out.size)); clear HB; have HB := nHB; clear nHB; clear hB) | (go_at_call 15; with_reducible refine (RA.out _).mono ?_; rintro e w3_ ⟨rfl, hB⟩; have nHB := Aside0.mk (HB.out.trans (hB.mono HB.out.size)); clear HB; have HB := nHB; clear nHB; clear hB) | (go_at_call 15; with_reducible refine (RB.out _).mono ?_; rintro e w4_ ⟨rfl, hB⟩; have nHB := Aside0.mk (HB.out.trans (hB.mono HB.out.size)); clear HB; have HB := nHB; clear nHB; clear hB) | ((with_reducible refine gate_dst (N := 23) rfl ?_); refine Kd.N_lit k44 _ 44 ?hg (N' := 23) ?hd (xs := [(⟨kind, g, []⟩ : S44)]) (inner := [.int .u8 kind, .int .u32 g, .slice none 0 0]) (ok := fun _ => True) (okp := fun _ => True) ?hr ?hp (fun _ _ => trivial) trivial (Below.refl _ _) (Nat.le_refl _) (by simp) ?_; (case hd => rfl); (case hg => rfl); (case hr => first | (go_simp; done) | (go_simp; rfl)); (case hp => exact Reps.c3 (Kd.FK_of_M (k44_mkM _ 0 (fun _ => True) (⟨kind, g, []⟩ : S44) (v2 := .slice none 0 0) (Kd.R_nil _ _ _ _ _))) (Reps.none _ _)); intro v_y w5_ hN hB hg_ hn_; clear hg_ hn_; rw [← HY.out] at hN; have nHB := Aside0.mk (HB.out.trans (hB.mono HB.out.size)); clear HB; have HB := nHB; clear nHB; obtain ⟨A_y, c_y, rfl⟩ := Kd.N_slice hN; have HC_y := Aside0.mk (Kd.N_reads' hN).2.2; have HK_y := Aside0.mk (Kd.N_reads' hN).2.1; clear hN hB) | (go_at_call 15; with_reducible refine (RC.out _ _ _ HC_y.out HK_y.out).mono ?_; rintro e w6_ ⟨rfl, hB⟩; have nHB := Aside0.mk (HB.out.trans (hB.mono HB.out.size)); clear HB; have HB := nHB; clear nHB; have nHC := Aside0.mk (Kd.C_below HC_y.out hB); clear HC_y; have HC_y := nHC; clear nHC; clear hB) | (go_at_call 15; with_reducible refine (RD.out _).mono ?_; rintro e w7_ ⟨rfl, hB⟩; have nHB := Aside0.mk (HB.out.trans (hB.mono HB.out.size)); clear HB; have HB := nHB; clear nHB; have nHC := Aside0.mk (Kd.C_below HC_y.out hB); clear HC_y; have HC_y := nHC; clear nHC; clear hB))
  go_ret
  exact ⟨rfl, HB.out⟩
theorem groups_call {g kind : Int} (h0 : 0 ≤ g) (h1 : g < 4294967296) (w : World) : Calls Try.prog 9 #[.int .u32 g, .int .u8 kind] w fun e w' => e = .returned (.bool true) ∧ Below w.heap.size w w' := by
  cases ha : askB g
  · by_cases gz : g = 0
    · exact groups_fxxt h0 h1 ha (by simp [gz]) (by simp [recB, ha]) (by simp [grpB, gz]) w
    · exact groups_fxxf h0 h1 ha (by simp [gz]) (by simp [recB, ha]) (by simp [grpB, gz, ha]) w
  · have hd : grpB g = true := by unfold grpB; rw [ha]; simp
    by_cases k1 : 1 ≤ kind
    · by_cases k2 : kind ≤ 6
      · exact groups_tttx h0 h1 ha (decide_eq_true k1) (decide_eq_true k2) (by simp [recB, ha, k1, k2]) hd w
      · exact groups_ttfx h0 h1 ha (decide_eq_true k1) (decide_eq_false k2) (by simp [recB, ha, k1, k2]) hd w
    · exact groups_tfxx h0 h1 ha (decide_eq_false k1) (by simp [recB, ha, k1]) hd w
end Go.Proofs.Ytmmjmncchckbbaa
