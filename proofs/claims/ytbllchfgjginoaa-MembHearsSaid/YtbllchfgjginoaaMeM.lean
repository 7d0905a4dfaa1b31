/-
  memb.work: allow, except, isEx, block, toEx, toIn.
-/
import Derived.Test.YtbllchfgjginoaaSoJ
import Derived.Test.YtbllchfgjginoaaMeA
import Derived.MapFrom
import Derived.ChangeMaps4
namespace Go.Proofs.Ytbllchfgjginoaa
set_option maxHeartbeats 8000000
set_option maxRecDepth 100000
open Go.RowKit Go.Lib Go.Proofs.YtbllchfgjginoaaW.PrintWords Go.Proofs.YtbllchfgjginoaaW.PrintLast Go.Proofs.YtbllchfgjginoaaW.PrintMore Go.Proofs.Ytbllchfgjginoaa.PMe
set_option linter.unusedVariables false
set_option linter.unusedSimpArgs false
def al0_T : Bool × List (List Nat × List Nat) := (true, [([], []), ([], []), ([1], [1]), ([2], [2]), ([3], [3]), ([], []), ([5], [5]), ([6], [6]), ([7], [7]), ([8], [8]), ([0, 4, 9], [0, 4, 9])])
def al0_B : List Nat := [0, 0, 2, 6, 14, 0, 32, 96, 224, 480, 1023]
theorem al0_t : rtab .any (opsOf Try.f23 0) = al0_T := by kernel_rfl
theorem al0_b : waitsOk al0_T.2 al0_B = true := by kernel_rfl
def ex0_T : Bool × List (List Nat × List Nat) := (true, [([], []), ([0], [0]), ([1], [1]), ([2], [2]), ([], []), ([4], [4]), ([3, 5, 5], [3, 5]), ([6, 6, 0, 1, 2, 3, 4, 5, 6], [6])])
def ex0_B : List Nat := [0, 1, 3, 7, 0, 16, 63, 127]
theorem ex0_t : rtab .any (opsOf Try.f36 0) = ex0_T := by kernel_rfl
theorem ex0_b : waitsOk ex0_T.2 ex0_B = true := by kernel_rfl
def bl1_T : Bool × List (List Nat × List Nat) := (true, [([], []), ([], []), ([1], [1]), ([], []), ([3], [3]), ([4], [4]), ([5], [5]), ([2, 6, 2], [2, 6]), ([0, 7, 7], [0, 7])])
def bl1_B : List Nat := [0, 0, 2, 0, 8, 24, 56, 126, 255]
theorem bl1_t : rtab .any (opsOf Try.f25 1) = bl1_T := by kernel_rfl
theorem bl1_b : waitsOk bl1_T.2 bl1_B = true := by kernel_rfl
def bl3_T : Bool × List (List Nat × List Nat) := (true, [([], []), ([], []), ([1], [1]), ([2], [2]), ([3], [3]), ([], []), ([5], [5]), ([4, 6, 6], [4, 6]), ([], []), ([8], [8]), ([9], [9]), ([10], [10]), ([11], [11]), ([0, 7, 12, 7], [0, 7, 12])])
def bl3_B : List Nat := [0, 0, 2, 6, 14, 0, 32, 126, 0, 256, 768, 1792, 3840, 8191]
theorem bl3_t : rtab .any (opsOf Try.f25 3) = bl3_T := by kernel_rfl
theorem bl3_b : waitsOk bl3_T.2 bl3_B = true := by kernel_rfl
def te1_T : Bool × List (List Nat × List Nat) := (true, [([], []), ([0], [0]), ([], []), ([2], [2]), ([3], [3]), ([4], [4]), ([1, 5, 1], [1, 5]), ([6, 6, 0, 1, 2, 3, 4, 5, 6], [6])])
def te1_B : List Nat := [0, 1, 0, 4, 12, 28, 63, 127]
theorem te1_t : rtab .any (opsOf Try.f26 1) = te1_T := by kernel_rfl
theorem te1_b : waitsOk te1_T.2 te1_B = true := by kernel_rfl
def ti4_T : Bool × List (List Nat × List Nat) := (true, [([], []), ([], []), ([1], [1]), ([2], [2]), ([3], [3]), ([4], [4]), ([], []), ([6], [6]), ([7], [7]), ([8], [8]), ([9], [9]), ([5, 10], [5, 10]), ([0, 0, 1, 2, 3, 4, 5, 6, 7, 8, 9, 10, 11], [0]), ([12, 0, 1, 2, 3, 4, 5, 6, 7, 8, 9, 10, 11], [12]), ([13, 0, 1, 2, 3, 4, 5, 6, 7, 8, 9, 10, 11], [13]), ([14, 11, 0, 1, 2, 3, 4, 5, 6, 7, 8, 9, 10, 11], [11, 14])])
def ti4_B : List Nat := [0, 0, 2, 6, 14, 30, 0, 64, 192, 448, 960, 2046, 4095, 8191, 16383, 32767]
theorem ti4_t : rtab .any (opsOf Try.f27 4) = ti4_T := by kernel_rfl
theorem ti4_b : waitsOk ti4_T.2 ti4_B = true := by kernel_rfl
def ti5_T : Bool × List (List Nat × List Nat) := (true, [([], []), ([], []), ([1], [1]), ([2], [2]), ([3], [3]), ([], []), ([5], [5]), ([6], [6]), ([7], [7]), ([8], [8]), ([9], [9]), ([10], [10]), ([4, 11], [4, 11]), ([0, 0, 1, 2, 3, 4, 5, 6, 7, 8, 9, 10, 11, 12], [0]), ([13, 0, 1, 2, 3, 4, 5, 6, 7, 8, 9, 10, 11, 12], [13]), ([14, 12, 12, 0, 1, 2, 3, 4, 5, 6, 7, 8, 9, 10, 11, 12], [12, 14])])
def ti5_B : List Nat := [0, 0, 2, 6, 14, 0, 32, 96, 224, 480, 992, 2016, 4094, 8191, 16383, 32767]
theorem ti5_t : rtab .any (opsOf Try.f27 5) = ti5_T := by kernel_rfl
theorem ti5_b : waitsOk ti5_T.2 ti5_B = true := by kernel_rfl
structure WOk (m : WM) : Prop where
  s : SortH m.srcs
  b : Rise m.b
  ns : m.srcs.length ≤ 10000
  nb : m.b.length ≤ 10000
  na : m.asks.length ≤ 100
abbrev allS (xs : List S49) : List Int := thoseS (fun _ => true) xs
abbrev xS (xs : List S49) : List Int := thoseS (fun t => decide (0 < t)) xs
abbrev yS (xs : List S49) : List Int := thoseS (fun t => t == 0) xs
theorem those_rise (p : Int → Bool) {xs : List S49} (h : SortH xs) : Rise (thoseS p xs) := by
  unfold thoseS
  refine List.Pairwise.map _ (fun a b h => h) (h.filter _)
theorem all_rise {xs : List S49} (h : SortH xs) : Rise (allS xs) := those_rise _ h
theorem x_rise {xs : List S49} (h : SortH xs) : Rise (xS xs) := those_rise _ h
theorem y_rise {xs : List S49} (h : SortH xs) : Rise (yS xs) := those_rise _ h
theorem only_sorted {xs : List S49} (h : SortH xs) (l : List Int) : SortH (onlyS xs l) := h.filter _
theorem only_len (xs : List S49) (l : List Int) : (onlyS xs l).length ≤ xs.length := List.length_filter_le _ _
def allowM (m : WM) : WM := { m with srcs := keepS m.srcs m.b m.keep }
def exceptM (m : WM) (left : Int) : WM := { m with srcs := keepS (onlyS m.srcs m.b) (mns m.b (allS m.srcs)) left, ex := true, left := m.keep }
def isExM (m : WM) : WM := if m.ex = true then exceptM m m.keep else exceptM m 0
def blockM (m : WM) : WM := if m.ex = true then askM { m with srcs := keepS m.srcs (mns m.b (allS m.srcs)) m.left } (mns m.b (yS m.srcs)) else askM m (int (allS m.srcs) m.b)
def toExM (m : WM) : WM := if m.ex = true then askM (exceptM m m.left) (mns m.b (yS m.srcs)) else askM (exceptM m 0) (int (allS m.srcs) m.b)
def toInM (m : WM) : WM :=
  if (askM (allowM m) (mns (xS m.srcs) m.b)).ex = true then { askM (allowM m) (mns (xS m.srcs) m.b) with left := min (askM (allowM m) (mns (xS m.srcs) m.b)).left (askM (allowM m) (mns (xS m.srcs) m.b)).last, asks := (askM (allowM m) (mns (xS m.srcs) m.b)).asks ++ [⟨(askM (allowM m) (mns (xS m.srcs) m.b)).g, []⟩] }
  else askM (allowM m) (mns (xS m.srcs) m.b)
theorem all_len {m : WM} (h : WOk m) : (allS m.srcs).length ≤ 10000 := Nat.le_trans (those_len _ _) h.ns
theorem x_len {m : WM} (h : WOk m) : (xS m.srcs).length ≤ 10000 := Nat.le_trans (those_len _ _) h.ns
theorem y_len {m : WM} (h : WOk m) : (yS m.srcs).length ≤ 10000 := Nat.le_trans (those_len _ _) h.ns
theorem keep_ok {xs : List S49} (h : SortH xs) (h1 : xs.length ≤ 10000) {l : List Int} (h2 : l.length ≤ 20000) (left : Int) : SortH (keepS xs l left) ∧ (keepS xs l left).length ≤ 30000 := ⟨keep_sorted l left h, by have := keep_len l left h; omega⟩
theorem allow_w {base gw : Nat} {m : WM} {vS vB vA : Value} {w : World} (h : Wk base gw m vS vB vA w) (hk : WOk m) (hbs : base ≤ w.heap.size) :
    Calls Try.prog 23 #[.pointer (some ⟨gw, 0, none⟩)] w fun e w' => e = .returned (.tuple #[]) ∧ (∃ vS' vA', Wk base gw (allowM m) vS' vB vA' w') ∧ Fr base gw w w' := by
  have hu73 := Try.underlying73
  have hu28 := Try.underlying28
  have hu23 := Try.underlying23
  have hu46 := Try.underlying46
  obtain ⟨A_S, c_S, eS⟩ := Kd.R_slice h.S
  subst eS
  obtain ⟨A_A, c_A, eA⟩ := Kd.R_slice h.A
  subst eA
  obtain ⟨A_B, c_B, eB⟩ := Kd.R_slice h.B
  subst eB
  have XBS := Aside0.mk hbs
  have XK := Aside0.mk hk
  have HW := Aside0.mk h
  have HF := Aside0.mk (Fr.refl base gw w)
  clear h hk hbs
  go_enter Try.func23, Try.ntmps23
  go_upto_region 0 with fail
  have hw_6 : w.cell? ⟨gw, 6, none⟩ = some (.slice A_B m.b.length c_B) := (blk_cell HW.out.blk 6).trans rfl
  have hf_6 := blk_frozen HW.out.blk 6
  have hw_4 : w.cell? ⟨gw, 4, none⟩ = some (.int .i64 m.keep) := (blk_cell HW.out.blk 4).trans rfl
  have hf_4 := blk_frozen HW.out.blk 4
  refine start_ (n := 11) (S := fun w' => w'.cell? ⟨gw, 6, none⟩ = some (.slice A_B m.b.length c_B) ∧ w'.cell? ⟨gw, 4, none⟩ = some (.int .i64 m.keep)) (ds := [10]) #[false, false, false, false, false, false, false, false, false, false, false] (by kernel_rfl) rfl rfl ⟨hw_6, hw_4⟩ (fun hHeld => ?_); refine with_tabW al0_t al0_b (fun HT_ HW_ => ?_)
  have hB : Below w.heap.size w w.drew := below_drew (Below.refl _ _)
  generalize w.drew = w1_ at hB hHeld ⊢
  clear hw_6 hf_6 hw_4 hf_4
  replace HW := Aside0.mk (HW.out.below hB)
  replace HF := Aside0.mk (HF.out.trans (Fr.of_below hB))
  clear hB
  have hw_6 : w1_.cell? ⟨gw, 6, none⟩ = some (.slice A_B m.b.length c_B) := (blk_cell HW.out.blk 6).trans rfl
  have hf_6 := blk_frozen HW.out.blk 6
  have hw_4 : w1_.cell? ⟨gw, 4, none⟩ = some (.int .i64 m.keep) := (blk_cell HW.out.blk 4).trans rfl
  have hf_4 := blk_frozen HW.out.blk 4
  refine pw 0 2 (bb 11 1) rfl rfl HT_ ?_
  refine pw 1 3 (bb 11 3) rfl rfl HT_ ?_
  refine pw 2 4 (bb 11 7) rfl rfl HT_ ?_
  refine pw 3 5 (bb 11 15) rfl rfl HT_ ?_
  refine tk 4 6 (bb 11 31) rfl rfl HT_ HW_ hHeld ?_
  refine pw 5 7 (bb 11 63) rfl rfl HT_ ?_
  refine pw 6 8 (bb 11 127) rfl rfl HT_ ?_
  refine pw 7 9 (bb 11 255) rfl rfl HT_ ?_
  refine pw 8 10 (bb 11 511) rfl rfl HT_ ?_
  refine tk 9 11 (bb 11 1023) rfl rfl HT_ HW_ hHeld ?_
  refine last_ (i := 10) (N := some 12) #[true, true, true, true, true, true, true, true, true, true, true] rfl rfl (one_of HT_.out (by kernel_rfl)) (by decide) (fun K hK => ?_)
  refine goes_ Try.func35 (by kernel_rfl) rfl #[.pointer (some ⟨gw, 0, none⟩), .slice A_B m.b.length c_B, .int .i64 m.keep] (by rfl) rfl rfl (by (try simp only [List.map_toArray, List.map_cons, List.map_nil]); first | done | rfl) ?_
  (with_reducible refine (keep_w HW.out XK.out.s HW.out.B (by have h1 := XK.out.ns; have h2 := XK.out.nb; show m.srcs.length + _ ≤ _; omega) (Nat.le_trans XBS.out HF.out.size) m.keep).mono ?_)
  rintro e_ w2_ ⟨rfl, ⟨vS1, hW⟩, hFr⟩
  refine ⟨_, rfl, ?_⟩
  have hbx := HW.out.box
  clear hw_6 hf_6 hw_4 hf_4
  replace HF := Aside0.mk (HF.out.trans hFr)
  clear HW
  have HW := Aside0.mk hW
  clear hW hFr hbx
  refine hK.out _ _ ?_
  clear hK K
  refine nm ?_
  refine done_ (done_of HT_.out (by kernel_rfl)) ?_
  go_wp2
  go_end0
  exact ⟨rfl, ⟨_, _, HW.out⟩, HF.out⟩
theorem except_w {base gw : Nat} {m : WM} {vS vB vA : Value} {w : World} (h : Wk base gw m vS vB vA w) (hk : WOk m) (hbs : base ≤ w.heap.size) (left : Int) :
    Calls Try.prog 36 #[.pointer (some ⟨gw, 0, none⟩), .int .i64 left] w fun e w' => e = .returned (.tuple #[]) ∧ (∃ vS' vA', Wk base gw (exceptM m left) vS' vB vA' w') ∧ Fr base gw w w' := by
  have hu73 := Try.underlying73
  have hu28 := Try.underlying28
  have hu23 := Try.underlying23
  have hu46 := Try.underlying46
  obtain ⟨A_S, c_S, eS⟩ := Kd.R_slice h.S
  subst eS
  obtain ⟨A_A, c_A, eA⟩ := Kd.R_slice h.A
  subst eA
  obtain ⟨A_B, c_B, eB⟩ := Kd.R_slice h.B
  subst eB
  have XBS := Aside0.mk hbs
  have XK := Aside0.mk hk
  have HW := Aside0.mk h
  have HF := Aside0.mk (Fr.refl base gw w)
  clear h hk hbs
  go_enter Try.func36, Try.ntmps36
  go_upto_region 0 with fail
  have hw_6 : w.cell? ⟨gw, 6, none⟩ = some (.slice A_B m.b.length c_B) := (blk_cell HW.out.blk 6).trans rfl
  have hf_6 := blk_frozen HW.out.blk 6
  refine start_ (n := 8) (S := fun w' => w'.cell? ⟨gw, 6, none⟩ = some (.slice A_B m.b.length c_B)) (ds := []) #[false, false, false, false, false, false, false, false] (by kernel_rfl) rfl rfl hw_6 (fun hHeld => ?_); refine with_tabW ex0_t ex0_b (fun HT_ HW_ => ?_)
  have hB : Below w.heap.size w w.drew := below_drew (Below.refl _ _)
  generalize w.drew = w1_ at hB hHeld ⊢
  clear hw_6 hf_6
  replace HW := Aside0.mk (HW.out.below hB)
  replace HF := Aside0.mk (HF.out.trans (Fr.of_below hB))
  clear hB
  have hw_6 : w1_.cell? ⟨gw, 6, none⟩ = some (.slice A_B m.b.length c_B) := (blk_cell HW.out.blk 6).trans rfl
  have hf_6 := blk_frozen HW.out.blk 6
  refine pw 0 5 (bb 8 1) rfl rfl HT_ ?_
  refine pw 1 6 (bb 8 3) rfl rfl HT_ ?_
  refine pw 2 7 (bb 8 7) rfl rfl HT_ ?_
  refine tk 3 8 (bb 8 15) rfl rfl HT_ HW_ hHeld ?_
  refine pw 4 9 (bb 8 31) rfl rfl HT_ ?_
  refine on1 5 (some 10) (bb 8 63) rfl rfl HT_ (fun K hK => ?_)
  refine goes_ Try.func39 (by kernel_rfl) rfl #[.pointer (some ⟨gw, 0, none⟩)] (by rfl) rfl rfl (by (try simp only [List.map_toArray, List.map_cons, List.map_nil]); first | done | rfl) ?_
  (with_reducible refine (all_w HW.out (Nat.le_trans XK.out.ns (by omega))).mono ?_)
  rintro e_ w2_ ⟨v_a, rfl, hR, hB⟩
  obtain ⟨A_a, c_a, rfl⟩ := Kd.R_slice hR
  refine ⟨_, rfl, ?_⟩
  have hsz := Nat.le_trans XBS.out HF.out.size
  clear hw_6 hf_6
  replace HW := Aside0.mk (HW.out.below hB)
  replace HF := Aside0.mk (HF.out.trans (Fr.of_below hB))
  have HA_a := Aside0.mk (show RA w2_ base _ _ from Kd.R_lower (Kd.R_mono hR (fun _ _ => trivial)) hsz)
  clear hR hB hsz
  have hw_6 : w2_.cell? ⟨gw, 6, none⟩ = some (.slice A_B m.b.length c_B) := (blk_cell HW.out.blk 6).trans rfl
  have hf_6 := blk_frozen HW.out.blk 6
  refine hK.out _ _ hw_6 (fun hHeld => ?_)
  clear hK K
  refine nm ?_
  refine on1 6 (some 11) (bb 8 127) rfl rfl HT_ (fun K hK => ?_)
  refine goes_ Try.func41 (by kernel_rfl) rfl #[.slice A_B m.b.length c_B, .slice A_a (allS m.srcs).length c_a] (by rfl) rfl rfl (by (try simp only [List.map_toArray, List.map_cons, List.map_nil]); first | done | rfl) ?_
  (with_reducible refine (set_Minus.calls _ _ m.b _ _ (allS m.srcs) (mns m.b (allS m.srcs)) _ (Kd.R_reads' HW.out.B).2.2 (Kd.R_reads' HW.out.B).2.1 (Kd.R_reads' HA_a.out).2.2 (Kd.R_reads' HA_a.out).2.1 (mns_some (by have := XK.out.nb; omega) (by have := all_len XK.out; omega))).mono ?_)
  rintro e_ w3_ ⟨v_fr, rfl, hR, hB⟩
  obtain ⟨A_fr, c_fr, rfl⟩ := Kd.R_slice hR
  refine ⟨_, rfl, ?_⟩
  have hsz := Nat.le_trans XBS.out HF.out.size
  clear hw_6 hf_6
  replace HW := Aside0.mk (HW.out.below hB)
  replace HF := Aside0.mk (HF.out.trans (Fr.of_below hB))
  replace HA_a := mvR HA_a hB
  have HA_fr := Aside0.mk (show RA w3_ base _ _ from Kd.R_lower (Kd.R_mono hR (fun _ _ => trivial)) hsz)
  clear hR hB hsz
  have hw_6 : w3_.cell? ⟨gw, 6, none⟩ = some (.slice A_B m.b.length c_B) := (blk_cell HW.out.blk 6).trans rfl
  have hf_6 := blk_frozen HW.out.blk 6
  refine hK.out _ _ hw_6 (fun hHeld => ?_)
  clear hK K
  refine nm ?_
  refine pw 7 4 (bb 8 255) rfl rfl HT_ ?_
  refine done_ (done_of HT_.out (by kernel_rfl)) ?_
  have XMN := Aside0.mk (show (mns m.b (allS m.srcs)).length ≤ 20000 by have h1 := mns_len m.b (allS m.srcs); have h2 := XK.out.nb; have h3 := all_len XK.out; omega)
  have hw_6 : w3_.cell? ⟨gw, 6, none⟩ = some (.slice A_B m.b.length c_B) := (blk_cell HW.out.blk 6).trans rfl
  have hf_6 := blk_frozen HW.out.blk 6
  go_wp2_with (first | (go_at_call 56; (with_reducible refine (only_w HW.out HW.out.B XK.out.b (Nat.le_trans XK.out.nb (by omega)) (Nat.le_trans XK.out.ns (by omega))).mono ?_); rintro e_ w4_ ⟨rfl, ⟨vS1, hW⟩, hFr⟩; have hbx := HW.out.box; clear hw_6 hf_6; replace HA_a := Aside0.mk (hFr.row HA_a.out hbx); replace HA_fr := Aside0.mk (hFr.row HA_fr.out hbx); replace HF := Aside0.mk (HF.out.trans hFr); clear HW; have HW := Aside0.mk hW; clear hW hFr hbx; have hw_4 : w4_.cell? ⟨gw, 4, none⟩ = some (.int .i64 m.keep) := (blk_cell HW.out.blk 4).trans rfl; have hf_4 := blk_frozen HW.out.blk 4) | (go_at_call 35; (with_reducible refine (keep_w HW.out (only_sorted XK.out.s m.b) HA_fr.out (by have h1 := only_len m.srcs m.b; have h2 := XK.out.ns; have h3 := XMN.out; show (onlyS m.srcs m.b).length + _ ≤ _; omega) (Nat.le_trans XBS.out HF.out.size) left).mono ?_); rintro e_ w5_ ⟨rfl, ⟨vS2, hW⟩, hFr⟩; have hbx := HW.out.box; clear hw_4 hf_4; replace HA_a := Aside0.mk (hFr.row HA_a.out hbx); replace HA_fr := Aside0.mk (hFr.row HA_fr.out hbx); replace HF := Aside0.mk (HF.out.trans hFr); clear HW; have HW := Aside0.mk hW; clear hW hFr hbx; have hw_1 : w5_.cell? ⟨gw, 1, none⟩ = some (.bool m.ex) := (blk_cell HW.out.blk 1).trans rfl; have hf_1 := blk_frozen HW.out.blk 1; have hw_2 : w5_.cell? ⟨gw, 2, none⟩ = some (.int .i64 m.left) := (blk_cell HW.out.blk 2).trans rfl; have hf_2 := blk_frozen HW.out.blk 2; have hw_4 : w5_.cell? ⟨gw, 4, none⟩ = some (.int .i64 m.keep) := (blk_cell HW.out.blk 4).trans rfl; have hf_4 := blk_frozen HW.out.blk 4))
  go_end0
  refine ⟨rfl, ⟨vS2, _, ⟨blk_put (cs := #[.int .u32 m.g, .bool true, .int .i64 m.left, vS2, .int .i64 m.keep, .int .i64 m.last, .slice A_B m.b.length c_B, .slice A_A m.asks.length c_A]) (blk_put (cs := #[.int .u32 m.g, .bool m.ex, .int .i64 m.left, vS2, .int .i64 m.keep, .int .i64 m.last, .slice A_B m.b.length c_B, .slice A_A m.asks.length c_A]) HW.out.blk 1 (.bool true) rfl) 2 (.int .i64 m.keep) rfl, HW.out.ge, ?_, ?_, ?_⟩⟩, (HF.out.trans (Fr.set 1 (.bool true))).trans (Fr.set 2 (.int .i64 m.keep))⟩
  · exact Kd.R_set (Kd.R_set HW.out.S HW.out.blk (by decide) 1 _) (blk_put (cs := #[.int .u32 m.g, .bool m.ex, .int .i64 m.left, vS2, .int .i64 m.keep, .int .i64 m.last, .slice A_B m.b.length c_B, .slice A_A m.asks.length c_A]) HW.out.blk 1 (.bool true) rfl) (by decide) 2 _
  · exact Kd.R_set (Kd.R_set HW.out.B HW.out.blk (by decide) 1 _) (blk_put (cs := #[.int .u32 m.g, .bool m.ex, .int .i64 m.left, vS2, .int .i64 m.keep, .int .i64 m.last, .slice A_B m.b.length c_B, .slice A_A m.asks.length c_A]) HW.out.blk 1 (.bool true) rfl) (by decide) 2 _
  · exact Kd.R_set (Kd.R_set HW.out.A HW.out.blk (by decide) 1 _) (blk_put (cs := #[.int .u32 m.g, .bool m.ex, .int .i64 m.left, vS2, .int .i64 m.keep, .int .i64 m.last, .slice A_B m.b.length c_B, .slice A_A m.asks.length c_A]) HW.out.blk 1 (.bool true) rfl) (by decide) 2 _
theorem isEx_w {base gw : Nat} {m : WM} {vS vB vA : Value} {w : World} (h : Wk base gw m vS vB vA w) (hk : WOk m) (hbs : base ≤ w.heap.size) :
    Calls Try.prog 24 #[.pointer (some ⟨gw, 0, none⟩)] w fun e w' => e = .returned (.tuple #[]) ∧ (∃ vS' vA', Wk base gw (isExM m) vS' vB vA' w') ∧ Fr base gw w w' := by
  have hu73 := Try.underlying73
  have hu28 := Try.underlying28
  have hu23 := Try.underlying23
  have hu46 := Try.underlying46
  obtain ⟨A_S, c_S, eS⟩ := Kd.R_slice h.S
  subst eS
  obtain ⟨A_A, c_A, eA⟩ := Kd.R_slice h.A
  subst eA
  obtain ⟨A_B, c_B, eB⟩ := Kd.R_slice h.B
  subst eB
  have XBS := Aside0.mk hbs
  have XK := Aside0.mk hk
  have HW := Aside0.mk h
  have HF := Aside0.mk (Fr.refl base gw w)
  clear h hk hbs
  go_enter Try.func24, Try.ntmps24
  by_cases hx : m.ex = true
  · have XX := Aside0.mk hx
    have hw_1 : w.cell? ⟨gw, 1, none⟩ = some (.bool true) := by rw [← hx]; exact (blk_cell HW.out.blk 1).trans rfl
    have hf_1 := blk_frozen HW.out.blk 1
    clear hx
    have hw_4 : w.cell? ⟨gw, 4, none⟩ = some (.int .i64 m.keep) := (blk_cell HW.out.blk 4).trans rfl
    have hf_4 := blk_frozen HW.out.blk 4
    go_wp2_with (first | (go_at_call 36; (with_reducible refine (except_w HW.out XK.out (Nat.le_trans XBS.out HF.out.size) m.keep).mono ?_); rintro e_ w1_ ⟨rfl, ⟨vS1, vA1, hW⟩, hFr⟩; have hbx := HW.out.box; clear hw_1 hf_1 hw_4 hf_4; replace HF := Aside0.mk (HF.out.trans hFr); clear HW; have HW := Aside0.mk hW; clear hW hFr hbx))
    refine bodyPost_ret (results_none rfl _ _ _) rfl ?_
    exact ⟨rfl, ⟨_, _, by unfold isExM; rw [if_pos XX.out]; exact HW.out⟩, HF.out⟩
  · have XX := Aside0.mk hx
    have hw_1 : w.cell? ⟨gw, 1, none⟩ = some (.bool false) := by rw [← Bool.eq_false_iff.2 hx]; exact (blk_cell HW.out.blk 1).trans rfl
    have hf_1 := blk_frozen HW.out.blk 1
    clear hx
    go_wp2_with (first | (go_at_call 36; (with_reducible refine (except_w HW.out XK.out (Nat.le_trans XBS.out HF.out.size) 0).mono ?_); rintro e_ w1_ ⟨rfl, ⟨vS1, vA1, hW⟩, hFr⟩; have hbx := HW.out.box; clear hw_1 hf_1; replace HF := Aside0.mk (HF.out.trans hFr); clear HW; have HW := Aside0.mk hW; clear hW hFr hbx))
    go_end0
    exact ⟨rfl, ⟨_, _, by unfold isExM; rw [if_neg XX.out]; exact HW.out⟩, HF.out⟩
theorem block_w {base gw : Nat} {m : WM} {vS vB vA : Value} {w : World} (h : Wk base gw m vS vB vA w) (hk : WOk m) (hbs : base ≤ w.heap.size) :
    Calls Try.prog 25 #[.pointer (some ⟨gw, 0, none⟩)] w fun e w' => e = .returned (.tuple #[]) ∧ (∃ vS' vA', Wk base gw (blockM m) vS' vB vA' w') ∧ Fr base gw w w' := by
  have hu73 := Try.underlying73
  have hu28 := Try.underlying28
  have hu23 := Try.underlying23
  have hu46 := Try.underlying46
  obtain ⟨A_S, c_S, eS⟩ := Kd.R_slice h.S
  subst eS
  obtain ⟨A_A, c_A, eA⟩ := Kd.R_slice h.A
  subst eA
  obtain ⟨A_B, c_B, eB⟩ := Kd.R_slice h.B
  subst eB
  have XBS := Aside0.mk hbs
  have XK := Aside0.mk hk
  have HW := Aside0.mk h
  have HF := Aside0.mk (Fr.refl base gw w)
  clear h hk hbs
  go_enter Try.func25, Try.ntmps25
  by_cases hx : m.ex = true
  · have XX := Aside0.mk hx
    have hw_1 : w.cell? ⟨gw, 1, none⟩ = some (.bool true) := by rw [← hx]; exact (blk_cell HW.out.blk 1).trans rfl
    have hf_1 := blk_frozen HW.out.blk 1
    clear hx
    go_upto_region 3 with (first | (go_at_call 40; (with_reducible refine (y_w HW.out (Nat.le_trans XK.out.ns (by omega))).mono ?_); rintro e_ w1_ ⟨v_y, rfl, hR, hB⟩; obtain ⟨A_y, c_y, rfl⟩ := Kd.R_slice hR; have hsz := Nat.le_trans XBS.out HF.out.size; clear hw_1 hf_1; replace HW := Aside0.mk (HW.out.below hB); replace HF := Aside0.mk (HF.out.trans (Fr.of_below hB)); have HA_y := Aside0.mk (show RA w1_ base _ _ from Kd.R_lower (Kd.R_mono hR (fun _ _ => trivial)) hsz); clear hR hB hsz; have hw_1 : w1_.cell? ⟨gw, 1, none⟩ = some (.bool m.ex) := (blk_cell HW.out.blk 1).trans rfl; have hf_1 := blk_frozen HW.out.blk 1))
    have XMN := Aside0.mk (show (mns m.b (allS m.srcs)).length ≤ 20000 by have h1 := mns_len m.b (allS m.srcs); have h2 := XK.out.nb; have h3 := all_len XK.out; omega)
    clear hw_1 hf_1
    have hw_6 : w1_.cell? ⟨gw, 6, none⟩ = some (.slice A_B m.b.length c_B) := (blk_cell HW.out.blk 6).trans rfl
    have hf_6 := blk_frozen HW.out.blk 6
    have hw_2 : w1_.cell? ⟨gw, 2, none⟩ = some (.int .i64 m.left) := (blk_cell HW.out.blk 2).trans rfl
    have hf_2 := blk_frozen HW.out.blk 2
    refine start_ (n := 14) (S := fun w' => w'.cell? ⟨gw, 6, none⟩ = some (.slice A_B m.b.length c_B) ∧ w'.cell? ⟨gw, 2, none⟩ = some (.int .i64 m.left)) (ds := [13]) #[false, false, false, false, false, false, false, false, false, false, false, false, false, false] (by kernel_rfl) rfl rfl ⟨hw_6, hw_2⟩ (fun hHeld => ?_); refine with_tabW bl3_t bl3_b (fun HT_ HW_ => ?_)
    have hB : Below w1_.heap.size w1_ w1_.drew := below_drew (Below.refl _ _)
    generalize w1_.drew = w2_ at hB hHeld ⊢
    clear hw_6 hf_6 hw_2 hf_2
    replace HW := Aside0.mk (HW.out.below hB)
    replace HF := Aside0.mk (HF.out.trans (Fr.of_below hB))
    replace HA_y := mvR HA_y hB
    clear hB
    have hw_6 : w2_.cell? ⟨gw, 6, none⟩ = some (.slice A_B m.b.length c_B) := (blk_cell HW.out.blk 6).trans rfl
    have hf_6 := blk_frozen HW.out.blk 6
    have hw_2 : w2_.cell? ⟨gw, 2, none⟩ = some (.int .i64 m.left) := (blk_cell HW.out.blk 2).trans rfl
    have hf_2 := blk_frozen HW.out.blk 2
    refine pw 0 20 (bb 14 1) rfl rfl HT_ ?_
    refine pw 1 21 (bb 14 3) rfl rfl HT_ ?_
    refine pw 2 22 (bb 14 7) rfl rfl HT_ ?_
    refine pw 3 23 (bb 14 15) rfl rfl HT_ ?_
    refine tk 4 24 (bb 14 31) rfl rfl HT_ HW_ hHeld ?_
    refine pw 5 25 (bb 14 63) rfl rfl HT_ ?_
    refine pw 8 28 (bb 14 319) rfl rfl HT_ ?_
    refine pw 9 29 (bb 14 831) rfl rfl HT_ ?_
    refine pw 10 30 (bb 14 1855) rfl rfl HT_ ?_
    refine pw 11 31 (bb 14 3903) rfl rfl HT_ ?_
    refine tk 12 32 (bb 14 7999) rfl rfl HT_ HW_ hHeld ?_
    refine on1 6 (some 26) (bb 14 8063) rfl rfl HT_ (fun K hK => ?_)
    refine goes_ Try.func39 (by kernel_rfl) rfl #[.pointer (some ⟨gw, 0, none⟩)] (by rfl) rfl rfl (by (try simp only [List.map_toArray, List.map_cons, List.map_nil]); first | done | rfl) ?_
    (with_reducible refine (all_w HW.out (Nat.le_trans XK.out.ns (by omega))).mono ?_)
    rintro e_ w3_ ⟨v_a, rfl, hR, hB⟩
    obtain ⟨A_a, c_a, rfl⟩ := Kd.R_slice hR
    refine ⟨_, rfl, ?_⟩
    have hsz := Nat.le_trans XBS.out HF.out.size
    clear hw_6 hf_6 hw_2 hf_2
    replace HW := Aside0.mk (HW.out.below hB)
    replace HF := Aside0.mk (HF.out.trans (Fr.of_below hB))
    replace HA_y := mvR HA_y hB
    have HA_a := Aside0.mk (show RA w3_ base _ _ from Kd.R_lower (Kd.R_mono hR (fun _ _ => trivial)) hsz)
    clear hR hB hsz
    have hw_6 : w3_.cell? ⟨gw, 6, none⟩ = some (.slice A_B m.b.length c_B) := (blk_cell HW.out.blk 6).trans rfl
    have hf_6 := blk_frozen HW.out.blk 6
    have hw_2 : w3_.cell? ⟨gw, 2, none⟩ = some (.int .i64 m.left) := (blk_cell HW.out.blk 2).trans rfl
    have hf_2 := blk_frozen HW.out.blk 2
    refine hK.out _ _ ⟨hw_6, hw_2⟩ (fun hHeld => ?_)
    clear hK K
    refine nm ?_
    refine on1 7 (some 27) (bb 14 8191) rfl rfl HT_ (fun K hK => ?_)
    refine goes_ Try.func41 (by kernel_rfl) rfl #[.slice A_B m.b.length c_B, .slice A_a (allS m.srcs).length c_a] (by rfl) rfl rfl (by (try simp only [List.map_toArray, List.map_cons, List.map_nil]); first | done | rfl) ?_
    (with_reducible refine (set_Minus.calls _ _ m.b _ _ (allS m.srcs) (mns m.b (allS m.srcs)) _ (Kd.R_reads' HW.out.B).2.2 (Kd.R_reads' HW.out.B).2.1 (Kd.R_reads' HA_a.out).2.2 (Kd.R_reads' HA_a.out).2.1 (mns_some (by have := XK.out.nb; omega) (by have := all_len XK.out; omega))).mono ?_)
    rintro e_ w4_ ⟨v_fr, rfl, hR, hB⟩
    obtain ⟨A_fr, c_fr, rfl⟩ := Kd.R_slice hR
    refine ⟨_, rfl, ?_⟩
    have hsz := Nat.le_trans XBS.out HF.out.size
    clear hw_6 hf_6 hw_2 hf_2
    replace HW := Aside0.mk (HW.out.below hB)
    replace HF := Aside0.mk (HF.out.trans (Fr.of_below hB))
    replace HA_y := mvR HA_y hB
    replace HA_a := mvR HA_a hB
    have HA_fr := Aside0.mk (show RA w4_ base _ _ from Kd.R_lower (Kd.R_mono hR (fun _ _ => trivial)) hsz)
    clear hR hB hsz
    have hw_6 : w4_.cell? ⟨gw, 6, none⟩ = some (.slice A_B m.b.length c_B) := (blk_cell HW.out.blk 6).trans rfl
    have hf_6 := blk_frozen HW.out.blk 6
    have hw_2 : w4_.cell? ⟨gw, 2, none⟩ = some (.int .i64 m.left) := (blk_cell HW.out.blk 2).trans rfl
    have hf_2 := blk_frozen HW.out.blk 2
    refine hK.out _ _ ⟨hw_6, hw_2⟩ (fun hHeld => ?_)
    clear hK K
    refine nm ?_
    refine last_ (i := 13) (N := some 33) #[true, true, true, true, true, true, true, true, true, true, true, true, true, true] rfl rfl (one_of HT_.out (by kernel_rfl)) (by decide) (fun K hK => ?_)
    refine goes_ Try.func35 (by kernel_rfl) rfl #[.pointer (some ⟨gw, 0, none⟩), .slice A_fr (mns m.b (allS m.srcs)).length c_fr, .int .i64 m.left] (by rfl) rfl rfl (by (try simp only [List.map_toArray, List.map_cons, List.map_nil]); first | done | rfl) ?_
    (with_reducible refine (keep_w HW.out XK.out.s HA_fr.out (by have h1 := XK.out.ns; have h2 := XMN.out; show m.srcs.length + _ ≤ _; omega) (Nat.le_trans XBS.out HF.out.size) m.left).mono ?_)
    rintro e_ w5_ ⟨rfl, ⟨vS1, hW⟩, hFr⟩
    refine ⟨_, rfl, ?_⟩
    have hbx := HW.out.box
    clear hw_6 hf_6 hw_2 hf_2
    replace HA_y := Aside0.mk (hFr.row HA_y.out hbx)
    replace HA_a := Aside0.mk (hFr.row HA_a.out hbx)
    replace HA_fr := Aside0.mk (hFr.row HA_fr.out hbx)
    replace HF := Aside0.mk (HF.out.trans hFr)
    clear HW
    have HW := Aside0.mk hW
    clear hW hFr hbx
    refine hK.out _ _ ?_
    clear hK K
    refine nm ?_
    refine done_ (done_of HT_.out (by kernel_rfl)) ?_
    have XNY := Aside0.mk (show (mns m.b (yS m.srcs)).length ≤ 20000 by have h1 := mns_len m.b (yS m.srcs); have h2 := XK.out.nb; have h3 := y_len XK.out; omega)
    have XKO := Aside0.mk (keep_ok XK.out.s XK.out.ns XMN.out m.left)
    have hw_6 : w5_.cell? ⟨gw, 6, none⟩ = some (.slice A_B m.b.length c_B) := (blk_cell HW.out.blk 6).trans rfl
    have hf_6 := blk_frozen HW.out.blk 6
    go_wp2_with (first | (go_at_call 41; (with_reducible refine (set_Minus.calls _ _ m.b _ _ (yS m.srcs) (mns m.b (yS m.srcs)) _ (Kd.R_reads' HW.out.B).2.2 (Kd.R_reads' HW.out.B).2.1 (Kd.R_reads' HA_y.out).2.2 (Kd.R_reads' HA_y.out).2.1 (mns_some (by have := XK.out.nb; omega) (by have := y_len XK.out; omega))).mono ?_); rintro e_ w6_ ⟨v_n, rfl, hR, hB⟩; obtain ⟨A_n, c_n, rfl⟩ := Kd.R_slice hR; have hsz := Nat.le_trans XBS.out HF.out.size; clear hw_6 hf_6; replace HW := Aside0.mk (HW.out.below hB); replace HF := Aside0.mk (HF.out.trans (Fr.of_below hB)); replace HA_y := mvR HA_y hB; replace HA_a := mvR HA_a hB; replace HA_fr := mvR HA_fr hB; have HA_n := Aside0.mk (show RA w6_ base _ _ from Kd.R_lower (Kd.R_mono hR (fun _ _ => trivial)) hsz); clear hR hB hsz; have hw_6 : w6_.cell? ⟨gw, 6, none⟩ = some (.slice A_B m.b.length c_B) := (blk_cell HW.out.blk 6).trans rfl; have hf_6 := blk_frozen HW.out.blk 6) | (go_at_call 37; (with_reducible refine (ask_w HW.out HA_n.out (mns_rise XK.out.b (y_rise XK.out.s)) (by have := XNY.out; omega) (Nat.le_trans XKO.out.2 (by omega)) (Nat.le_trans XK.out.na (by omega)) (Nat.le_trans XBS.out HF.out.size)).mono ?_); rintro e_ w7_ ⟨rfl, ⟨vS2, vA2, hW⟩, hFr⟩; have hbx := HW.out.box; clear hw_6 hf_6; replace HA_y := Aside0.mk (hFr.row HA_y.out hbx); replace HA_a := Aside0.mk (hFr.row HA_a.out hbx); replace HA_fr := Aside0.mk (hFr.row HA_fr.out hbx); replace HA_n := Aside0.mk (hFr.row HA_n.out hbx); replace HF := Aside0.mk (HF.out.trans hFr); clear HW; have HW := Aside0.mk hW; clear hW hFr hbx))
    go_end0
    exact ⟨rfl, ⟨_, _, by unfold blockM; rw [if_pos XX.out]; exact HW.out⟩, HF.out⟩
  · have XX := Aside0.mk hx
    have hw_1 : w.cell? ⟨gw, 1, none⟩ = some (.bool false) := by rw [← Bool.eq_false_iff.2 hx]; exact (blk_cell HW.out.blk 1).trans rfl
    have hf_1 := blk_frozen HW.out.blk 1
    clear hx
    have XIL := Aside0.mk (show (int (allS m.srcs) m.b).length ≤ 20000 by have h1 := int_len (allS m.srcs) m.b; have h2 := XK.out.nb; have h3 := all_len XK.out; omega)
    go_upto_region 1 with fail
    clear hw_1 hf_1
    have hw_6 : w.cell? ⟨gw, 6, none⟩ = some (.slice A_B m.b.length c_B) := (blk_cell HW.out.blk 6).trans rfl
    have hf_6 := blk_frozen HW.out.blk 6
    refine start_ (n := 9) (S := fun w' => w'.cell? ⟨gw, 6, none⟩ = some (.slice A_B m.b.length c_B)) (ds := [8]) #[false, false, false, false, false, false, false, false, false] (by kernel_rfl) rfl rfl hw_6 (fun hHeld => ?_); refine with_tabW bl1_t bl1_b (fun HT_ HW_ => ?_)
    have hB : Below w.heap.size w w.drew := below_drew (Below.refl _ _)
    generalize w.drew = w1_ at hB hHeld ⊢
    clear hw_6 hf_6
    replace HW := Aside0.mk (HW.out.below hB)
    replace HF := Aside0.mk (HF.out.trans (Fr.of_below hB))
    clear hB
    have hw_6 : w1_.cell? ⟨gw, 6, none⟩ = some (.slice A_B m.b.length c_B) := (blk_cell HW.out.blk 6).trans rfl
    have hf_6 := blk_frozen HW.out.blk 6
    refine pw 0 9 (bb 9 1) rfl rfl HT_ ?_
    refine pw 1 10 (bb 9 3) rfl rfl HT_ ?_
    refine pw 3 12 (bb 9 11) rfl rfl HT_ ?_
    refine pw 4 13 (bb 9 27) rfl rfl HT_ ?_
    refine pw 5 14 (bb 9 59) rfl rfl HT_ ?_
    refine tk 6 15 (bb 9 123) rfl rfl HT_ HW_ hHeld ?_
    refine on1 2 (some 11) (bb 9 127) rfl rfl HT_ (fun K hK => ?_)
    refine goes_ Try.func39 (by kernel_rfl) rfl #[.pointer (some ⟨gw, 0, none⟩)] (by rfl) rfl rfl (by (try simp only [List.map_toArray, List.map_cons, List.map_nil]); first | done | rfl) ?_
    (with_reducible refine (all_w HW.out (Nat.le_trans XK.out.ns (by omega))).mono ?_)
    rintro e_ w2_ ⟨v_a, rfl, hR, hB⟩
    obtain ⟨A_a, c_a, rfl⟩ := Kd.R_slice hR
    refine ⟨_, rfl, ?_⟩
    have hsz := Nat.le_trans XBS.out HF.out.size
    clear hw_6 hf_6
    replace HW := Aside0.mk (HW.out.below hB)
    replace HF := Aside0.mk (HF.out.trans (Fr.of_below hB))
    have HA_a := Aside0.mk (show RA w2_ base _ _ from Kd.R_lower (Kd.R_mono hR (fun _ _ => trivial)) hsz)
    clear hR hB hsz
    have hw_6 : w2_.cell? ⟨gw, 6, none⟩ = some (.slice A_B m.b.length c_B) := (blk_cell HW.out.blk 6).trans rfl
    have hf_6 := blk_frozen HW.out.blk 6
    refine hK.out _ _ hw_6 (fun hHeld => ?_)
    clear hK K
    refine nm ?_
    refine on1 7 (some 16) (bb 9 255) rfl rfl HT_ (fun K hK => ?_)
    refine goes_ Try.func38 (by kernel_rfl) rfl #[.slice A_a (allS m.srcs).length c_a, .slice A_B m.b.length c_B] (by rfl) rfl rfl (by (try simp only [List.map_toArray, List.map_cons, List.map_nil]); first | done | rfl) ?_
    (with_reducible refine (set_Inter.calls _ _ (allS m.srcs) _ _ m.b (int (allS m.srcs) m.b) _ (Kd.R_reads' HA_a.out).2.2 (Kd.R_reads' HA_a.out).2.1 (Kd.R_reads' HW.out.B).2.2 (Kd.R_reads' HW.out.B).2.1 (int_some (by have := all_len XK.out; omega) (by have := XK.out.nb; omega))).mono ?_)
    rintro e_ w3_ ⟨v_i, rfl, hR, hB⟩
    obtain ⟨A_i, c_i, rfl⟩ := Kd.R_slice hR
    refine ⟨_, rfl, ?_⟩
    have hsz := Nat.le_trans XBS.out HF.out.size
    clear hw_6 hf_6
    replace HW := Aside0.mk (HW.out.below hB)
    replace HF := Aside0.mk (HF.out.trans (Fr.of_below hB))
    replace HA_a := mvR HA_a hB
    have HA_i := Aside0.mk (show RA w3_ base _ _ from Kd.R_lower (Kd.R_mono hR (fun _ _ => trivial)) hsz)
    clear hR hB hsz
    have hw_6 : w3_.cell? ⟨gw, 6, none⟩ = some (.slice A_B m.b.length c_B) := (blk_cell HW.out.blk 6).trans rfl
    have hf_6 := blk_frozen HW.out.blk 6
    refine hK.out _ _ hw_6 (fun hHeld => ?_)
    clear hK K
    refine nm ?_
    refine last_ (i := 8) (N := some 17) #[true, true, true, true, true, true, true, true, true] rfl rfl (one_of HT_.out (by kernel_rfl)) (by decide) (fun K hK => ?_)
    refine goes_ Try.func37 (by kernel_rfl) rfl #[.pointer (some ⟨gw, 0, none⟩), .slice A_i (int (allS m.srcs) m.b).length c_i] (by rfl) rfl rfl (by (try simp only [List.map_toArray, List.map_cons, List.map_nil]); first | done | rfl) ?_
    (with_reducible refine (ask_w HW.out HA_i.out (int_rise (all_rise XK.out.s) XK.out.b) (by have := XIL.out; omega) (Nat.le_trans XK.out.ns (by omega)) (Nat.le_trans XK.out.na (by omega)) (Nat.le_trans XBS.out HF.out.size)).mono ?_)
    rintro e_ w4_ ⟨rfl, ⟨vS1, vA1, hW⟩, hFr⟩
    refine ⟨_, rfl, ?_⟩
    have hbx := HW.out.box
    clear hw_6 hf_6
    replace HA_a := Aside0.mk (hFr.row HA_a.out hbx)
    replace HA_i := Aside0.mk (hFr.row HA_i.out hbx)
    replace HF := Aside0.mk (HF.out.trans hFr)
    clear HW
    have HW := Aside0.mk hW
    clear hW hFr hbx
    refine hK.out _ _ ?_
    clear hK K
    refine nm ?_
    refine done_ (done_of HT_.out (by kernel_rfl)) ?_
    go_wp2
    refine bodyPost_ret (results_none rfl _ _ _) rfl ?_
    exact ⟨rfl, ⟨_, _, by unfold blockM; rw [if_neg XX.out]; exact HW.out⟩, HF.out⟩
theorem toEx_w {base gw : Nat} {m : WM} {vS vB vA : Value} {w : World} (h : Wk base gw m vS vB vA w) (hk : WOk m) (hbs : base ≤ w.heap.size) :
    Calls Try.prog 26 #[.pointer (some ⟨gw, 0, none⟩)] w fun e w' => e = .returned (.tuple #[]) ∧ (∃ vS' vA', Wk base gw (toExM m) vS' vB vA' w') ∧ Fr base gw w w' := by
  have hu73 := Try.underlying73
  have hu28 := Try.underlying28
  have hu23 := Try.underlying23
  have hu46 := Try.underlying46
  obtain ⟨A_S, c_S, eS⟩ := Kd.R_slice h.S
  subst eS
  obtain ⟨A_A, c_A, eA⟩ := Kd.R_slice h.A
  subst eA
  obtain ⟨A_B, c_B, eB⟩ := Kd.R_slice h.B
  subst eB
  have XBS := Aside0.mk hbs
  have XK := Aside0.mk hk
  have HW := Aside0.mk h
  have HF := Aside0.mk (Fr.refl base gw w)
  clear h hk hbs
  have XEO : ∀ left : Int, Aside0 (SortH (exceptM m left).srcs ∧ (exceptM m left).srcs.length ≤ 30000) := fun left => ⟨keep_ok (only_sorted XK.out.s m.b) (Nat.le_trans (only_len _ _) XK.out.ns) (by have h1 := mns_len m.b (allS m.srcs); have h2 := XK.out.nb; have h3 := all_len XK.out; omega) left⟩
  go_enter Try.func26, Try.ntmps26
  by_cases hx : m.ex = true
  · have XX := Aside0.mk hx
    have hw_1 : w.cell? ⟨gw, 1, none⟩ = some (.bool true) := by rw [← hx]; exact (blk_cell HW.out.blk 1).trans rfl
    have hf_1 := blk_frozen HW.out.blk 1
    clear hx
    go_upto_region 5 with (first | (go_at_call 40; (with_reducible refine (y_w HW.out (Nat.le_trans XK.out.ns (by omega))).mono ?_); rintro e_ w1_ ⟨v_y, rfl, hR, hB⟩; obtain ⟨A_y, c_y, rfl⟩ := Kd.R_slice hR; have hsz := Nat.le_trans XBS.out HF.out.size; clear hw_1 hf_1; replace HW := Aside0.mk (HW.out.below hB); replace HF := Aside0.mk (HF.out.trans (Fr.of_below hB)); have HA_y := Aside0.mk (show RA w1_ base _ _ from Kd.R_lower (Kd.R_mono hR (fun _ _ => trivial)) hsz); clear hR hB hsz; have hw_1 : w1_.cell? ⟨gw, 1, none⟩ = some (.bool m.ex) := (blk_cell HW.out.blk 1).trans rfl; have hf_1 := blk_frozen HW.out.blk 1))
    clear hw_1 hf_1
    have hw_2 : w1_.cell? ⟨gw, 2, none⟩ = some (.int .i64 m.left) := (blk_cell HW.out.blk 2).trans rfl
    have hf_2 := blk_frozen HW.out.blk 2
    have XNY := Aside0.mk (show (mns m.b (yS m.srcs)).length ≤ 20000 by have h1 := mns_len m.b (yS m.srcs); have h2 := XK.out.nb; have h3 := y_len XK.out; omega)
    go_wp2_with (first | (go_at_call 36; (with_reducible refine (except_w HW.out XK.out (Nat.le_trans XBS.out HF.out.size) m.left).mono ?_); rintro e_ w2_ ⟨rfl, ⟨vS1, vA1, hW⟩, hFr⟩; have hbx := HW.out.box; clear hw_2 hf_2; replace HA_y := Aside0.mk (hFr.row HA_y.out hbx); replace HF := Aside0.mk (HF.out.trans hFr); clear HW; have HW := Aside0.mk hW; clear hW hFr hbx; have hw_6 : w2_.cell? ⟨gw, 6, none⟩ = some (.slice A_B m.b.length c_B) := (blk_cell HW.out.blk 6).trans rfl; have hf_6 := blk_frozen HW.out.blk 6) | (go_at_call 41; (with_reducible refine (set_Minus.calls _ _ m.b _ _ (yS m.srcs) (mns m.b (yS m.srcs)) _ (Kd.R_reads' HW.out.B).2.2 (Kd.R_reads' HW.out.B).2.1 (Kd.R_reads' HA_y.out).2.2 (Kd.R_reads' HA_y.out).2.1 (mns_some (by have := XK.out.nb; omega) (by have := y_len XK.out; omega))).mono ?_); rintro e_ w3_ ⟨v_n, rfl, hR, hB⟩; obtain ⟨A_n, c_n, rfl⟩ := Kd.R_slice hR; have hsz := Nat.le_trans XBS.out HF.out.size; clear hw_6 hf_6; replace HW := Aside0.mk (HW.out.below hB); replace HF := Aside0.mk (HF.out.trans (Fr.of_below hB)); replace HA_y := mvR HA_y hB; have HA_n := Aside0.mk (show RA w3_ base _ _ from Kd.R_lower (Kd.R_mono hR (fun _ _ => trivial)) hsz); clear hR hB hsz; have hw_6 : w3_.cell? ⟨gw, 6, none⟩ = some (.slice A_B m.b.length c_B) := (blk_cell HW.out.blk 6).trans rfl; have hf_6 := blk_frozen HW.out.blk 6) | (go_at_call 37; (with_reducible refine (ask_w HW.out HA_n.out (mns_rise XK.out.b (y_rise XK.out.s)) (by have := XNY.out; omega) (Nat.le_trans (XEO m.left).out.2 (by omega)) (Nat.le_trans XK.out.na (by omega)) (Nat.le_trans XBS.out HF.out.size)).mono ?_); rintro e_ w4_ ⟨rfl, ⟨vS2, vA2, hW⟩, hFr⟩; have hbx := HW.out.box; clear hw_6 hf_6; replace HA_y := Aside0.mk (hFr.row HA_y.out hbx); replace HA_n := Aside0.mk (hFr.row HA_n.out hbx); replace HF := Aside0.mk (HF.out.trans hFr); clear HW; have HW := Aside0.mk hW; clear hW hFr hbx))
    go_end0
    exact ⟨rfl, ⟨_, _, by unfold toExM; rw [if_pos XX.out]; exact HW.out⟩, HF.out⟩
  · have XX := Aside0.mk hx
    have hw_1 : w.cell? ⟨gw, 1, none⟩ = some (.bool false) := by rw [← Bool.eq_false_iff.2 hx]; exact (blk_cell HW.out.blk 1).trans rfl
    have hf_1 := blk_frozen HW.out.blk 1
    clear hx
    have XIL := Aside0.mk (show (int (allS m.srcs) m.b).length ≤ 20000 by have h1 := int_len (allS m.srcs) m.b; have h2 := XK.out.nb; have h3 := all_len XK.out; omega)
    go_upto_region 1 with fail
    clear hw_1 hf_1
    have hw_6 : w.cell? ⟨gw, 6, none⟩ = some (.slice A_B m.b.length c_B) := (blk_cell HW.out.blk 6).trans rfl
    have hf_6 := blk_frozen HW.out.blk 6
    refine start_ (n := 8) (S := fun w' => w'.cell? ⟨gw, 6, none⟩ = some (.slice A_B m.b.length c_B)) (ds := []) #[false, false, false, false, false, false, false, false] (by kernel_rfl) rfl rfl hw_6 (fun hHeld => ?_); refine with_tabW te1_t te1_b (fun HT_ HW_ => ?_)
    have hB : Below w.heap.size w w.drew := below_drew (Below.refl _ _)
    generalize w.drew = w1_ at hB hHeld ⊢
    clear hw_6 hf_6
    replace HW := Aside0.mk (HW.out.below hB)
    replace HF := Aside0.mk (HF.out.trans (Fr.of_below hB))
    clear hB
    have hw_6 : w1_.cell? ⟨gw, 6, none⟩ = some (.slice A_B m.b.length c_B) := (blk_cell HW.out.blk 6).trans rfl
    have hf_6 := blk_frozen HW.out.blk 6
    refine pw 0 10 (bb 8 1) rfl rfl HT_ ?_
    refine pw 2 12 (bb 8 5) rfl rfl HT_ ?_
    refine pw 3 13 (bb 8 13) rfl rfl HT_ ?_
    refine pw 4 14 (bb 8 29) rfl rfl HT_ ?_
    refine tk 5 15 (bb 8 61) rfl rfl HT_ HW_ hHeld ?_
    refine on1 1 (some 11) (bb 8 63) rfl rfl HT_ (fun K hK => ?_)
    refine goes_ Try.func39 (by kernel_rfl) rfl #[.pointer (some ⟨gw, 0, none⟩)] (by rfl) rfl rfl (by (try simp only [List.map_toArray, List.map_cons, List.map_nil]); first | done | rfl) ?_
    (with_reducible refine (all_w HW.out (Nat.le_trans XK.out.ns (by omega))).mono ?_)
    rintro e_ w2_ ⟨v_a, rfl, hR, hB⟩
    obtain ⟨A_a, c_a, rfl⟩ := Kd.R_slice hR
    refine ⟨_, rfl, ?_⟩
    have hsz := Nat.le_trans XBS.out HF.out.size
    clear hw_6 hf_6
    replace HW := Aside0.mk (HW.out.below hB)
    replace HF := Aside0.mk (HF.out.trans (Fr.of_below hB))
    have HA_a := Aside0.mk (show RA w2_ base _ _ from Kd.R_lower (Kd.R_mono hR (fun _ _ => trivial)) hsz)
    clear hR hB hsz
    have hw_6 : w2_.cell? ⟨gw, 6, none⟩ = some (.slice A_B m.b.length c_B) := (blk_cell HW.out.blk 6).trans rfl
    have hf_6 := blk_frozen HW.out.blk 6
    refine hK.out _ _ hw_6 (fun hHeld => ?_)
    clear hK K
    refine nm ?_
    refine on1 6 (some 16) (bb 8 127) rfl rfl HT_ (fun K hK => ?_)
    refine goes_ Try.func38 (by kernel_rfl) rfl #[.slice A_a (allS m.srcs).length c_a, .slice A_B m.b.length c_B] (by rfl) rfl rfl (by (try simp only [List.map_toArray, List.map_cons, List.map_nil]); first | done | rfl) ?_
    (with_reducible refine (set_Inter.calls _ _ (allS m.srcs) _ _ m.b (int (allS m.srcs) m.b) _ (Kd.R_reads' HA_a.out).2.2 (Kd.R_reads' HA_a.out).2.1 (Kd.R_reads' HW.out.B).2.2 (Kd.R_reads' HW.out.B).2.1 (int_some (by have := all_len XK.out; omega) (by have := XK.out.nb; omega))).mono ?_)
    rintro e_ w3_ ⟨v_i, rfl, hR, hB⟩
    obtain ⟨A_i, c_i, rfl⟩ := Kd.R_slice hR
    refine ⟨_, rfl, ?_⟩
    have hsz := Nat.le_trans XBS.out HF.out.size
    clear hw_6 hf_6
    replace HW := Aside0.mk (HW.out.below hB)
    replace HF := Aside0.mk (HF.out.trans (Fr.of_below hB))
    replace HA_a := mvR HA_a hB
    have HA_i := Aside0.mk (show RA w3_ base _ _ from Kd.R_lower (Kd.R_mono hR (fun _ _ => trivial)) hsz)
    clear hR hB hsz
    have hw_6 : w3_.cell? ⟨gw, 6, none⟩ = some (.slice A_B m.b.length c_B) := (blk_cell HW.out.blk 6).trans rfl
    have hf_6 := blk_frozen HW.out.blk 6
    refine hK.out _ _ hw_6 (fun hHeld => ?_)
    clear hK K
    refine nm ?_
    refine pw 7 2 (bb 8 255) rfl rfl HT_ ?_
    refine done_ (done_of HT_.out (by kernel_rfl)) ?_
    go_wp2_with (first | (go_at_call 36; (with_reducible refine (except_w HW.out XK.out (Nat.le_trans XBS.out HF.out.size) 0).mono ?_); rintro e_ w4_ ⟨rfl, ⟨vS1, vA1, hW⟩, hFr⟩; have hbx := HW.out.box; clear hw_6 hf_6; replace HA_a := Aside0.mk (hFr.row HA_a.out hbx); replace HA_i := Aside0.mk (hFr.row HA_i.out hbx); replace HF := Aside0.mk (HF.out.trans hFr); clear HW; have HW := Aside0.mk hW; clear hW hFr hbx) | (go_at_call 37; (with_reducible refine (ask_w HW.out HA_i.out (int_rise (all_rise XK.out.s) XK.out.b) (by have := XIL.out; omega) (Nat.le_trans (XEO 0).out.2 (by omega)) (Nat.le_trans XK.out.na (by omega)) (Nat.le_trans XBS.out HF.out.size)).mono ?_); rintro e_ w5_ ⟨rfl, ⟨vS2, vA2, hW⟩, hFr⟩; have hbx := HW.out.box; replace HA_a := Aside0.mk (hFr.row HA_a.out hbx); replace HA_i := Aside0.mk (hFr.row HA_i.out hbx); replace HF := Aside0.mk (HF.out.trans hFr); clear HW; have HW := Aside0.mk hW; clear hW hFr hbx))
    refine bodyPost_ret (results_none rfl _ _ _) rfl ?_
    exact ⟨rfl, ⟨_, _, by unfold toExM; rw [if_neg XX.out]; exact HW.out⟩, HF.out⟩
theorem ask_na (m : WM) (l : List Int) : (askM m l).asks.length ≤ m.asks.length + 1 := by
  unfold askM; split
  · omega
  · simp
theorem toIn_w {base gw : Nat} {m : WM} {vS vB vA : Value} {w : World} (h : Wk base gw m vS vB vA w) (hk : WOk m) (hbs : base ≤ w.heap.size) :
    Calls Try.prog 27 #[.pointer (some ⟨gw, 0, none⟩)] w fun e w' => e = .returned (.tuple #[]) ∧ (∃ vS' vA', Wk base gw (toInM m) vS' vB vA' w') ∧ Fr base gw w w' := by
  have hu73 := Try.underlying73
  have hu28 := Try.underlying28
  have hu23 := Try.underlying23
  have hu46 := Try.underlying46
  obtain ⟨A_S, c_S, eS⟩ := Kd.R_slice h.S
  subst eS
  obtain ⟨A_A, c_A, eA⟩ := Kd.R_slice h.A
  subst eA
  obtain ⟨A_B, c_B, eB⟩ := Kd.R_slice h.B
  subst eB
  have XBS := Aside0.mk hbs
  have XK := Aside0.mk hk
  have HW := Aside0.mk h
  have HF := Aside0.mk (Fr.refl base gw w)
  clear h hk hbs
  go_enter Try.func27, Try.ntmps27
  have XNX := Aside0.mk (show (mns (xS m.srcs) m.b).length ≤ 20000 by have h1 := mns_len (xS m.srcs) m.b; have h2 := XK.out.nb; have h3 := x_len XK.out; omega)
  have XKO := Aside0.mk (keep_ok XK.out.s XK.out.ns (show m.b.length ≤ 20000 by have := XK.out.nb; omega) m.keep)
  go_upto_region 3 with (first | (go_at_call 42; (with_reducible refine (x_w HW.out (Nat.le_trans XK.out.ns (by omega))).mono ?_); rintro e_ w1_ ⟨v_x, rfl, hR, hB⟩; obtain ⟨A_x, c_x, rfl⟩ := Kd.R_slice hR; have hsz := Nat.le_trans XBS.out HF.out.size; replace HW := Aside0.mk (HW.out.below hB); replace HF := Aside0.mk (HF.out.trans (Fr.of_below hB)); have HA_x := Aside0.mk (show RA w1_ base _ _ from Kd.R_lower (Kd.R_mono hR (fun _ _ => trivial)) hsz); clear hR hB hsz) | (go_at_call 23; (with_reducible refine (allow_w HW.out XK.out (Nat.le_trans XBS.out HF.out.size)).mono ?_); rintro e_ w2_ ⟨rfl, ⟨vS1, vA1, hW⟩, hFr⟩; have hbx := HW.out.box; replace HA_x := Aside0.mk (hFr.row HA_x.out hbx); replace HF := Aside0.mk (HF.out.trans hFr); clear HW; have HW := Aside0.mk hW; clear hW hFr hbx; have hw_6 : w2_.cell? ⟨gw, 6, none⟩ = some (.slice A_B m.b.length c_B) := (blk_cell HW.out.blk 6).trans rfl; have hf_6 := blk_frozen HW.out.blk 6) | (go_at_call 41; (with_reducible refine (set_Minus.calls _ _ (xS m.srcs) _ _ m.b (mns (xS m.srcs) m.b) _ (Kd.R_reads' HA_x.out).2.2 (Kd.R_reads' HA_x.out).2.1 (Kd.R_reads' HW.out.B).2.2 (Kd.R_reads' HW.out.B).2.1 (mns_some (by have := x_len XK.out; omega) (by have := XK.out.nb; omega))).mono ?_); rintro e_ w3_ ⟨v_n, rfl, hR, hB⟩; obtain ⟨A_n, c_n, rfl⟩ := Kd.R_slice hR; have hsz := Nat.le_trans XBS.out HF.out.size; clear hw_6 hf_6; replace HW := Aside0.mk (HW.out.below hB); replace HF := Aside0.mk (HF.out.trans (Fr.of_below hB)); replace HA_x := mvR HA_x hB; have HA_n := Aside0.mk (show RA w3_ base _ _ from Kd.R_lower (Kd.R_mono hR (fun _ _ => trivial)) hsz); clear hR hB hsz; have hw_6 : w3_.cell? ⟨gw, 6, none⟩ = some (.slice A_B m.b.length c_B) := (blk_cell HW.out.blk 6).trans rfl; have hf_6 := blk_frozen HW.out.blk 6) | (go_at_call 37; (with_reducible refine (ask_w HW.out HA_n.out (mns_rise (x_rise XK.out.s) XK.out.b) (by have := XNX.out; omega) (Nat.le_trans XKO.out.2 (by omega)) (Nat.le_trans XK.out.na (by omega)) (Nat.le_trans XBS.out HF.out.size)).mono ?_); rintro e_ w4_ ⟨rfl, ⟨vS2, vA2, hW⟩, hFr⟩; have hbx := HW.out.box; clear hw_6 hf_6; replace HA_x := Aside0.mk (hFr.row HA_x.out hbx); replace HA_n := Aside0.mk (hFr.row HA_n.out hbx); replace HF := Aside0.mk (HF.out.trans hFr); clear HW; have HW := Aside0.mk hW; clear hW hFr hbx))
  obtain ⟨m2, hm2⟩ : ∃ m2, m2 = askM (allowM m) (mns (xS m.srcs) m.b) := ⟨_, rfl⟩
  have XNA := Aside0.mk (show m2.asks.length ≤ 101 by rw [hm2]; have h1 := ask_na (allowM m) (mns (xS m.srcs) m.b); have h2 : (allowM m).asks.length ≤ 100 := XK.out.na; omega)
  rw [← hm2] at HW
  have XM2 := Aside0.mk hm2
  clear hm2 HA_x HA_n
  obtain ⟨A_T, c_T, eT⟩ := Kd.R_slice HW.out.S
  subst eT
  obtain ⟨A_Q, c_Q, eQ⟩ := Kd.R_slice HW.out.A
  subst eQ
  by_cases hx : m2.ex = true
  · have XX := Aside0.mk hx
    have hw_1 : w4_.cell? ⟨gw, 1, none⟩ = some (.bool true) := by rw [← hx]; exact (blk_cell HW.out.blk 1).trans rfl
    have hf_1 := blk_frozen HW.out.blk 1
    clear hx
    go_upto_region 4 with fail
    clear hw_1 hf_1
    have hw_2 : w4_.cell? ⟨gw, 2, none⟩ = some (.int .i64 m2.left) := (blk_cell HW.out.blk 2).trans rfl
    have hf_2 := blk_frozen HW.out.blk 2
    have hw_5 : w4_.cell? ⟨gw, 5, none⟩ = some (.int .i64 m2.last) := (blk_cell HW.out.blk 5).trans rfl
    have hf_5 := blk_frozen HW.out.blk 5
    refine start_ (n := 16) (S := fun w' => w'.cell? ⟨gw, 2, none⟩ = some (.int .i64 m2.left) ∧ w'.cell? ⟨gw, 5, none⟩ = some (.int .i64 m2.last)) (ds := [15]) #[false, false, false, false, false, false, false, false, false, false, false, false, false, false, false, false] (by kernel_rfl) rfl rfl ⟨hw_2, hw_5⟩ (fun hHeld => ?_); refine with_tabW ti4_t ti4_b (fun HT_ HW_ => ?_)
    have hB : Below w4_.heap.size w4_ w4_.drew := below_drew (Below.refl _ _)
    generalize w4_.drew = w5_ at hB hHeld ⊢
    clear hw_2 hf_2 hw_5 hf_5
    replace HW := Aside0.mk (HW.out.below hB)
    replace HF := Aside0.mk (HF.out.trans (Fr.of_below hB))
    clear hB
    have hw_2 : w5_.cell? ⟨gw, 2, none⟩ = some (.int .i64 m2.left) := (blk_cell HW.out.blk 2).trans rfl
    have hf_2 := blk_frozen HW.out.blk 2
    have hw_5 : w5_.cell? ⟨gw, 5, none⟩ = some (.int .i64 m2.last) := (blk_cell HW.out.blk 5).trans rfl
    have hf_5 := blk_frozen HW.out.blk 5
    refine pw 0 20 (bb 16 1) rfl rfl HT_ ?_
    refine pw 1 21 (bb 16 3) rfl rfl HT_ ?_
    refine pw 2 22 (bb 16 7) rfl rfl HT_ ?_
    refine pw 3 23 (bb 16 15) rfl rfl HT_ ?_
    refine pw 4 24 (bb 16 31) rfl rfl HT_ ?_
    refine tk 5 25 (bb 16 63) rfl rfl HT_ HW_ hHeld ?_
    refine pw 6 26 (bb 16 127) rfl rfl HT_ ?_
    refine pw 7 27 (bb 16 255) rfl rfl HT_ ?_
    refine pw 8 28 (bb 16 511) rfl rfl HT_ ?_
    refine pw 9 29 (bb 16 1023) rfl rfl HT_ ?_
    refine tk 10 30 (bb 16 2047) rfl rfl HT_ HW_ hHeld ?_
    refine pw 11 31 (bb 16 4095) rfl rfl HT_ ?_
    refine pw 12 32 (bb 16 8191) rfl rfl HT_ ?_
    refine pw 13 33 (bb 16 16383) rfl rfl HT_ ?_
    refine pw 14 34 (bb 16 32767) rfl rfl HT_ ?_
    refine last_ (i := 15) (N := none) #[true, true, true, true, true, true, true, true, true, true, true, true, true, true, true, true] rfl rfl (one_of HT_.out (by kernel_rfl)) (by decide) (fun K hK => ?_)
    refine skip_ (w1 := ?_) (by rfl) rfl ?_ ?_
    rotate_left
    · go_simp
      rfl
    have HW4 := Aside0.mk (show Wk base gw { m2 with left := (min m2.left m2.last) } (.slice A_T m2.srcs.length c_T) (.slice A_B m.b.length c_B) (.slice A_Q m2.asks.length c_Q) (w5_.setCell ⟨gw, 2, none⟩ (.int .i64 (min m2.left m2.last))) from ⟨blk_put (cs := #[.int .u32 m2.g, .bool m2.ex, .int .i64 m2.left, .slice A_T m2.srcs.length c_T, .int .i64 m2.keep, .int .i64 m2.last, .slice A_B m.b.length c_B, .slice A_Q m2.asks.length c_Q]) HW.out.blk 2 _ rfl, HW.out.ge, Kd.R_set HW.out.S HW.out.blk (by decide) 2 _, Kd.R_set HW.out.B HW.out.blk (by decide) 2 _, Kd.R_set HW.out.A HW.out.blk (by decide) 2 _⟩)
    replace HF := Aside0.mk (HF.out.trans (Fr.set 2 (.int .i64 (min m2.left m2.last))))
    clear hw_2 hf_2 hw_5 hf_5
    clear HW
    generalize (w5_.setCell ⟨gw, 2, none⟩ (.int .i64 (min m2.left m2.last))) = w6_ at HW4 HF ⊢
    have HW := HW4
    clear HW4
    refine hK.out _ _ ?_
    clear hK K
    refine done_ (done_of HT_.out (by kernel_rfl)) ?_
    go_upto_region 5 with fail
    have hw_7 : w6_.cell? ⟨gw, 7, none⟩ = some (.slice A_Q m2.asks.length c_Q) := (blk_cell HW.out.blk 7).trans rfl
    have hf_7 := blk_frozen HW.out.blk 7
    have hw_0 : w6_.cell? ⟨gw, 0, none⟩ = some (.int .u32 m2.g) := (blk_cell HW.out.blk 0).trans rfl
    have hf_0 := blk_frozen HW.out.blk 0
    refine start_ (n := 16) (S := fun w' => w'.cell? ⟨gw, 7, none⟩ = some (.slice A_Q m2.asks.length c_Q) ∧ w'.cell? ⟨gw, 0, none⟩ = some (.int .u32 m2.g)) (ds := [12, 15]) #[false, false, false, false, false, false, false, false, false, false, false, false, false, false, false, false] (by kernel_rfl) rfl rfl ⟨hw_7, hw_0⟩ (fun hHeld => ?_); refine with_tabW ti5_t ti5_b (fun HT_ HW_ => ?_)
    have hB : Below w6_.heap.size w6_ w6_.drew := below_drew (Below.refl _ _)
    generalize w6_.drew = w7_ at hB hHeld ⊢
    clear hw_7 hf_7 hw_0 hf_0
    replace HW := Aside0.mk (HW.out.below hB)
    replace HF := Aside0.mk (HF.out.trans (Fr.of_below hB))
    clear hB
    have hw_7 : w7_.cell? ⟨gw, 7, none⟩ = some (.slice A_Q m2.asks.length c_Q) := (blk_cell HW.out.blk 7).trans rfl
    have hf_7 := blk_frozen HW.out.blk 7
    have hw_0 : w7_.cell? ⟨gw, 0, none⟩ = some (.int .u32 m2.g) := (blk_cell HW.out.blk 0).trans rfl
    have hf_0 := blk_frozen HW.out.blk 0
    refine pw 0 35 (bb 16 1) rfl rfl HT_ ?_
    refine pw 1 36 (bb 16 3) rfl rfl HT_ ?_
    refine pw 2 37 (bb 16 7) rfl rfl HT_ ?_
    refine pw 3 38 (bb 16 15) rfl rfl HT_ ?_
    refine tk 4 39 (bb 16 31) rfl rfl HT_ HW_ hHeld ?_
    refine pw 5 40 (bb 16 63) rfl rfl HT_ ?_
    refine pw 6 41 (bb 16 127) rfl rfl HT_ ?_
    refine pw 7 42 (bb 16 255) rfl rfl HT_ ?_
    refine pw 8 43 (bb 16 511) rfl rfl HT_ ?_
    refine tk 9 44 (bb 16 1023) rfl rfl HT_ HW_ hHeld ?_
    refine pw 10 45 (bb 16 2047) rfl rfl HT_ ?_
    refine on1 11 (some 46) (bb 16 4095) rfl rfl HT_ (fun K hK => ?_)
    refine value_ (w1 := ?_) (v := ?_) (by rfl) rfl ?_ ?_
    rotate_left 2
    · go_simp
      constructor
      · rfl
      · rfl
    have hB9 := below_alloc (Below.refl w7_.heap.size w7_) (.cells #[.int .u32 m2.g, .slice none 0 0] 46)
    replace hw_7 := (hB9.cell (World.block_lt_of_cell? _ _ hw_7)).trans hw_7
    replace hw_0 := (hB9.cell (World.block_lt_of_cell? _ _ hw_0)).trans hw_0
    clear hB9 hf_7 hf_0
    refine hK.out _ _ ⟨hw_7, hw_0⟩ (fun hHeld => ?_)
    clear hK K
    refine nm ?_
    refine last_ (i := 12) (N := some 47) #[true, true, true, true, true, true, true, true, true, true, true, true, true, false, false, false] rfl rfl (one_of HT_.out (by kernel_rfl)) (by decide) (fun K hK => ?_)
    refine Kd.R_append_step k46 (w0 := w7_) base (by rfl) (.tmp 39) (.tmp 46) 35 46 (.agg #[(.int .u32 0), (.slice none 0 0)]) 32 rfl Try.underlying35 info46 rfl (by decide) (by decide) _ m2.asks (⟨m2.g, []⟩ : S46) [.int .u32 m2.g, .slice none 0 0] (fun _ => True) (fun _ => False) rfl rfl (k46_mkM _ _ _ (⟨m2.g, []⟩ : S46) (Kd.R_nil _ _ _ _ _)) (fun _ hk => hk.elim) (fun _ _ => trivial) HW.out.A (Below.refl _ _) (Nat.le_trans XBS.out HF.out.size) (by have := XNA.out; omega) ?_
    intro v9 w8_ hR9 hB9 hG9 hat9
    obtain ⟨A9, c9, e9⟩ := Kd.R_slice hR9
    subst e9
    have hl9 : (m2.asks ++ [(⟨m2.g, []⟩ : S46)]).length = m2.asks.length + 1 := by rw [List.length_append]; rfl
    rw [hl9] at hR9 ⊢
    clear hl9
    have HR9 := Aside0.mk hR9
    have HO9 := Aside0.mk (HW.out.overA (asks2 := m2.asks) (vA2 := .slice none 0 0) hG9)
    have HK9 := Aside0.mk (show w8_.heap[gw]? = _ from HO9.out.1.trans HW.out.blk)
    clear hR9 hB9 hG9 hat9 hw_7 hw_0
    have hw_7 : w8_.cell? ⟨gw, 7, none⟩ = some (.slice A_Q m2.asks.length c_Q) := (blk_cell HK9.out 7).trans rfl
    have hf_7 := blk_frozen HK9.out 7
    refine hK.out _ _ ?_
    clear hK K
    refine nm ?_
    refine pw 13 48 (bb 16 16383) rfl rfl HT_ ?_
    refine pw 14 49 (bb 16 32767) rfl rfl HT_ ?_
    refine last_ (i := 15) (N := none) #[true, true, true, true, true, true, true, true, true, true, true, true, true, true, true, true] rfl rfl (one_of HT_.out (by kernel_rfl)) (by decide) (fun K hK => ?_)
    refine skip_ (w1 := ?_) (by rfl) rfl ?_ ?_
    rotate_left
    · go_simp
      rfl
    obtain ⟨_, hB3, hS3, hF3⟩ := HO9.out
    have HFIN := Aside0.mk (show Wk base gw { m2 with left := (min m2.left m2.last), asks := m2.asks ++ [⟨m2.g, []⟩] } (.slice A_T m2.srcs.length c_T) (.slice A_B m.b.length c_B) (.slice A9 (m2.asks.length + 1) c9) (w8_.setCell ⟨gw, 7, none⟩ (.slice A9 (m2.asks.length + 1) c9)) from ⟨blk_put (cs := #[.int .u32 m2.g, .bool m2.ex, .int .i64 (min m2.left m2.last), .slice A_T m2.srcs.length c_T, .int .i64 m2.keep, .int .i64 m2.last, .slice A_B m.b.length c_B, .slice A_Q m2.asks.length c_Q]) HK9.out 7 _ rfl, HW.out.ge, Kd.R_set hS3 HK9.out (by decide) 7 _, Kd.R_set hB3 HK9.out (by decide) 7 _, Kd.R_set HR9.out HK9.out (by decide) 7 _⟩)
    have HFF := Aside0.mk ((HF.out.trans hF3).trans (Fr.set 7 (.slice A9 (m2.asks.length + 1) c9)))
    clear hB3 hS3 hF3 HK9 HR9 HO9 HW HF hw_7 hf_7
    generalize (w8_.setCell ⟨gw, 7, none⟩ (.slice A9 (m2.asks.length + 1) c9)) = w9_ at HFIN HFF ⊢
    refine hK.out _ _ ?_
    clear hK K
    refine done_ (done_of HT_.out (by kernel_rfl)) ?_
    go_wp2
    go_end0
    exact ⟨rfl, ⟨_, _, by unfold toInM; rw [← XM2.out, if_pos XX.out]; exact HFIN.out⟩, HFF.out⟩
  · have XX := Aside0.mk hx
    have hw_1 : w4_.cell? ⟨gw, 1, none⟩ = some (.bool false) := by rw [← Bool.eq_false_iff.2 hx]; exact (blk_cell HW.out.blk 1).trans rfl
    have hf_1 := blk_frozen HW.out.blk 1
    clear hx
    go_wp2
    go_end0
    exact ⟨rfl, ⟨_, _, by unfold toInM; rw [← XM2.out, if_neg XX.out]; exact HW.out⟩, HF.out⟩
end Go.Proofs.Ytbllchfgjginoaa
/-
  A small map of function values: filled, looked up; a call of one of them (chapter 08).
-/
namespace Go.Proofs.Ytbllchfgjginoaa
open Go.RowKit Go.Lib Go.Proofs.YtbllchfgjginoaaW.PrintWords Go.Proofs.YtbllchfgjginoaaW.PrintLast Go.Proofs.YtbllchfgjginoaaW.PrintMore Go.Proofs.Ytbllchfgjginoaa.PMe
set_option linter.unusedVariables false
set_option linter.unusedSimpArgs false
theorem ud69 : Try.prog.underlying 69 = some (.map 5 67) := by kernel_rfl
theorem ud5 : Try.prog.underlying 5 = some (.int .u8) := by kernel_rfl
theorem zv67 (w : World) : (zeroValue 67).run Try.prog w = .ok .nilFunc w := by kernel_rfl
section
variable {w : World} {b clock : Nat} {es : Array MapEntry} {kv : Int} {val : Value}
theorem run_ins (hb : w.heap[b]? = some (.map es clock)) (h1 : Instr.findNow (.int .u8) (.int .u8 kv) es.toList 0 = some none) :
    (Instr.mapUpdate 69 (.map (some b)) (.int .u8 kv) val).run Try.prog w = .ok () { w with heap := w.heap.setIfInBounds b (.map (es.push ⟨.int .u8 kv, val, clock⟩) (clock + 1)) } := by
  simp [Instr.mapUpdate, run_underlying ud69, MapKept.run_getObj_map hb, MapKept.run_checkKey ud5 (show MapKept.IsKey (.int .u8) (.int .u8 kv) from rfl), MapKept.run_findKey ud5 h1, MapKept.run_setObj_map _ hb, Result.andThen]
theorem run_look {z : Option (Nat × Value)} (hb : w.heap[b]? = some (.map es clock)) (h1 : Instr.findNow (.int .u8) (.int .u8 kv) es.toList 0 = some z) :
    (Instr.lookup 69 (.map (some b)) (.int .u8 kv) true).run Try.prog w = .ok (match z with | some (_, v) => .tuple #[v, .bool true] | none => .tuple #[.nilFunc, .bool false]) w := by
  cases z <;> simp [Instr.lookup, run_underlying ud69, MapKept.run_getObj_map hb, MapKept.run_checkKey ud5 (show MapKept.IsKey (.int .u8) (.int .u8 kv) from rfl), MapKept.run_findKey ud5 h1, zv67, Result.andThen]
end
section
variable {P : Program} {ops : Array Oper} {Q : Exit → Act → World → Prop}
theorem mk_ {W : World} {rest : List Oper} {o : Oper} {a : Act} (hg : o.guard = none) (t : TypeId) (hop : o.op = .makeMap t none)
    (h : ∀ b w1, b = W.heap.size → w1.heap[b]? = some (.map #[] 0) → Below W.heap.size W w1 → wpList P ops Q rest (a.put o.dst (.map (some b))) w1) : wpList P ops Q (o :: rest) a W := by
  refine wpList_plain hg fun K hK => ?_
  unfold Oper.wp
  simp only [execOp, hop, Option.map_none, Sem.run_bind, run_makeMap, Result.andThen]
  exact hK _ _ (h _ _ rfl (by show (W.heap.push (Obj.map #[] 0))[W.heap.size]? = _; simp) (below_alloc (Below.refl _ _) _))
theorem ins_ {w : World} {rest : List Oper} {o : Oper} {a : Act} (hg : o.guard = none) (m v : Operand) (kv : Int) (hop : o.op = .insert 69 m (.const (.int .u8 kv)) v)
    (b clock : Nat) (es : Array MapEntry) (hm : a.eval m = .map (some b)) (val : Value) (hv : a.eval v = val) (hb : w.heap[b]? = some (.map es clock)) (h1 : Instr.findNow (.int .u8) (.int .u8 kv) es.toList 0 = some none)
    (h : ∀ w1, w1.heap[b]? = some (.map (es.push ⟨.int .u8 kv, val, clock⟩) (clock + 1)) → (∀ n VV, Below n VV w → n ≤ b → Below n VV w1) → wpList Try.prog ops Q rest (a.put o.dst undef) w1) : wpList Try.prog ops Q (o :: rest) a w := by
  refine wpList_plain hg fun K hK => ?_
  unfold Oper.wp
  have he : a.eval (.const (.int .u8 kv)) = .int .u8 kv := rfl
  simp only [execOp, hop, hm, hv, he, Sem.run_bind, run_ins hb h1, Result.andThen]
  exact hK _ _ (h _ (MapKept.heap_set hb).1 (fun n VV h hn => ⟨h.os, h.tape, h.output, by simpa using h.size, fun k hk => ((MapKept.heap_set hb).2 k (by omega)).trans (h.block k hk)⟩))
theorem goesB_ {rest : List Oper} {oi : Oper} {a : Act} {w : World} (N : Option Tmp) (hd : oi.dst = N) (hg : oi.guard = none) {f : FuncId} {fn : Func} {xs : Array Operand} {ts : Array TypeId} {cv : Operand} (hf : P.funcs[f]? = some fn) (hname : (fn.name == "runtime.NumGoroutine") = false) (hb : fn.body.isSome = true) (first args : Array Value)
    (hop : oi.op = .call { callee := .value cv, args := xs, argTypes := ts }) (hv : a.eval cv = .func (.func f) first #[]) (hargs : first ++ xs.map a.eval = args)
    (h : Calls P f args w fun e w' => ∃ v, e = .returned v ∧ wpList P ops Q rest (a.put N v) w') : wpList P ops Q (oi :: rest) a w := by
  refine wpList_plain hg fun K hK => ?_
  have he := enters_ hf hname hb args w
  have hrun : (execOp a.eval oi).run P w = .ok (.enter f args) w := by
    unfold execOp
    rw [hop]
    simp only [resolve, hv]
    simp [Deferred.ofValue, invoke, hargs, he]
  unfold Oper.wp
  rw [hrun, Oper.upon_enter]
  refine h.mono fun e w'' hh => ?_
  obtain ⟨v, rfl, hk⟩ := hh
  subst hd
  exact hK _ _ hk
end
def es6 : Array MapEntry := ((((((#[] : Array MapEntry).push ⟨.int .u8 1, .func (.func 23) #[] #[], 0⟩).push ⟨.int .u8 5, .func (.func 23) #[] #[], 0 + 1⟩).push ⟨.int .u8 2, .func (.func 24) #[] #[], 0 + 1 + 1⟩).push ⟨.int .u8 6, .func (.func 25) #[] #[], 0 + 1 + 1 + 1⟩).push ⟨.int .u8 4, .func (.func 26) #[] #[], 0 + 1 + 1 + 1 + 1⟩).push ⟨.int .u8 3, .func (.func 27) #[] #[], 0 + 1 + 1 + 1 + 1 + 1⟩
/-- A row of held sources, cloned. -/
theorem cloneH_w (A : Option Addr) (c : Nat) (l : List S49) (w : World) (hn : l.length ≤ 1000000) (hr : Kd.C k49 w A l.length l) :
    Calls Try.prog 29 #[.slice A l.length c] w fun e w' => ∃ v, e = .returned v ∧ Kd.R k49 49 w' w.heap.size (fun _ => True) v l ∧ Below w.heap.size w w' := by
  have hrr : ReadsRow (fun (x : S49) c => c = [.int .u32 x.f0, .int .i64 x.f1]) 2 w A l.length l := ReadsRow.imp_ (w := w) (w1 := w) hr (Below.refl _ _) (fun p c hp => k49_open hp)
  refine (clone_w (R := fun (x : S49) c => c = [.int .u32 x.f0, .int .i64 x.f1]) (fun p c hp => by rw [hp]; intro u hu; simp only [List.mem_cons] at hu; rcases hu with rfl | rfl | hu <;> first | rfl | cases hu) A c l w hn hrr).mono ?_
  rintro e w' ⟨v, rfl, inner, ho, hR, h1, hg⟩
  exact ⟨v, rfl, ⟨fun _ _ => trivial, inner, ho, Reps.imp_ hR (fun p c hp => by rw [hp]; exact k49_mkM _ _ _ _)⟩, ⟨hg.os, hg.tape, hg.output, hg.size, fun k hk => hg.block k hk (by simp)⟩⟩
end Go.Proofs.Ytbllchfgjginoaa
