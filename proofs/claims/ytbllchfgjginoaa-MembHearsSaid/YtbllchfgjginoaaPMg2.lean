-- written by a program of this session (hprint.py), over the kit's printer
import Derived.Test.YtbllchfgjginoaaSoJ
import Derived.Test.YtbllchfgjginoaaPMf4
import Derived.Test.YtbllchfgjginoaaPMg1
namespace Go.Proofs.Ytbllchfgjginoaa.PMe
open Go.RowKit Go.Proofs.YtbllchfgjginoaaW.PrintWords Go.Proofs.YtbllchfgjginoaaW.PrintLast Go.Proofs.YtbllchfgjginoaaW.PrintMore
attribute [local go_sem] max2_int min2_int max_two min_two max_three min_three max_four min_four   -- for this text's walks alone
set_option linter.unusedVariables false
set_option linter.unusedSimpArgs false

/-! ### stolonref08_held: function 48 -/
def stolonref08_held.l0 : Nat → List Int → Int → List Int → Int → List (S49) → Int → Int → Bool → Int → List (S49) → Option ((List (S49)))
  | 0, _, _, _, _, _, _, _, _, _, _ => none
  | k + 1, x1, x2, x3, x4, x11, x12, x113000, x113001, x113002, x113003 => if x12 < (x1.length : Int) then (if 0 ≤ x12 then ((stolonref08_left.f k x113000 x113001 x113002 x113003 (rd x1 x12)).bind fun t114 => (if t114 < 0 then ((stolonref06_Has.f k x3 (rd x1 x12)).bind fun t116 => (if t116 = true then (if x11.length < 8796093022208 then (stolonref08_held.l0 k x1 x2 x3 x4 (x11 ++ [(⟨rd x1 x12, x4⟩ : S49)]) (wrap64 (x12 + 1)) x113000 x113001 x113002 x113003) else (none)) else (if x11.length < 8796093022208 then (stolonref08_held.l0 k x1 x2 x3 x4 (x11 ++ [(⟨rd x1 x12, x2⟩ : S49)]) (wrap64 (x12 + 1)) x113000 x113001 x113002 x113003) else (none)))) else ((stolonref06_Has.f k x3 (rd x1 x12)).bind fun t126 => (if t126 = true then (if x11.length < 8796093022208 then (stolonref08_held.l0 k x1 x2 x3 x4 (x11 ++ [(⟨rd x1 x12, x4⟩ : S49)]) (wrap64 (x12 + 1)) x113000 x113001 x113002 x113003) else (none)) else (if x11.length < 8796093022208 then (stolonref08_held.l0 k x1 x2 x3 x4 (x11 ++ [(⟨rd x1 x12, t114⟩ : S49)]) (wrap64 (x12 + 1)) x113000 x113001 x113002 x113003) else (none)))))) else (none)) else (some x11)
def stolonref08_held.f (k : Nat) (a0_0 : Int) (a0_1 : Bool) (a0_2 : Int) (l0_3 : List (S49)) (l1 : List Int) (a2 : Int) (l3 : List Int) (a4 : Int) : Option ((List (S49))) := stolonref08_held.l0 k l1 a2 l3 a4 ([] : List (S49)) 0 a0_0 a0_1 a0_2 l0_3
theorem stolonref08_held.mono_l : ∀ k, (∀ y0 y1 y2 y3 y4 y5 y6 y7 y8 y9, LeO (stolonref08_held.l0 k y0 y1 y2 y3 y4 y5 y6 y7 y8 y9) (stolonref08_held.l0 (k + 1) y0 y1 y2 y3 y4 y5 y6 y7 y8 y9))
  | 0 => fun _ _ _ _ _ _ _ _ _ _ r h => by simp [stolonref08_held.l0] at h
  | k + 1 => by
    have ih0 := stolonref08_held.mono_l k
    · intro y0 y1 y2 y3 y4 y5 y6 y7 y8 y9
      unfold stolonref08_held.l0
      repeat' first
      | (with_reducible exact ih0 _ _ _ _ _ _ _ _ _ _)
      | (with_reducible exact stolonref06_Has.mono _ _ _)
      | (with_reducible exact stolonref08_left.mono _ _ _ _ _ _)
      | (with_reducible exact LeO.refl _)
      | (with_reducible exact LeO.none _)
      | (with_reducible refine LeO.ite ?_ ?_)
      | (with_reducible refine LeO.bind ?_ (fun _ => ?_))
      | exact ih0 _ _ _ _ _ _ _ _ _ _
      | exact stolonref06_Has.mono _ _ _
      | exact stolonref08_left.mono _ _ _ _ _ _
      | exact LeO.none _
      | refine LeO.ite ?_ ?_
      | refine LeO.bind ?_ (fun _ => ?_)
theorem stolonref08_held.mono : ∀ a0 a1 a2 a3 a4 a5 a6 a7 k, LeO (stolonref08_held.f k a0 a1 a2 a3 a4 a5 a6 a7) (stolonref08_held.f (k + 1) a0 a1 a2 a3 a4 a5 a6 a7) := by
  intro a0 a1 a2 a3 a4 a5 a6 a7 k
  have ih0 := stolonref08_held.mono_l k
  unfold stolonref08_held.f
  repeat' first
      | (with_reducible exact ih0 _ _ _ _ _ _ _ _ _ _)
      | (with_reducible exact stolonref06_Has.mono _ _ _)
      | (with_reducible exact stolonref08_left.mono _ _ _ _ _ _)
      | (with_reducible exact LeO.refl _)
      | (with_reducible exact LeO.none _)
      | (with_reducible refine LeO.ite ?_ ?_)
      | (with_reducible refine LeO.bind ?_ (fun _ => ?_))
      | exact ih0 _ _ _ _ _ _ _ _ _ _
      | exact stolonref06_Has.mono _ _ _
      | exact stolonref08_left.mono _ _ _ _ _ _
      | exact LeO.none _
      | refine LeO.ite ?_ ?_
      | refine LeO.bind ?_ (fun _ => ?_)
set_option maxHeartbeats 8000000 in
set_option maxRecDepth 100000 in
theorem stolonref08_held.calls (k : Nat) (a0_0 : Int) (a0_1 : Bool) (a0_2 : Int) (A0_3 : Option Addr) (c0_3 : Nat) (l0_3 : List (S49)) (A1 : Option Addr) (c1 : Nat) (l1 : List Int) (a2 : Int) (A3 : Option Addr) (c3 : Nat) (l3 : List Int) (a4 : Int) (r : List (S49)) (w : World) (hr0_3 : Kd.C k49 w A0_3 l0_3.length l0_3) (hc0_3 : l0_3.length ≤ c0_3) (hr1 : Kd.C (Kd.int .u32) w A1 l1.length l1) (hc1 : l1.length ≤ c1) (hr3 : Kd.C (Kd.int .u32) w A3 l3.length l3) (hc3 : l3.length ≤ c3) (h : stolonref08_held.f k a0_0 a0_1 a0_2 l0_3 l1 a2 l3 a4 = some r) :
    Calls Try.prog 48 #[.agg #[.int .u32 a0_0, .bool a0_1, .int .i64 a0_2, .slice A0_3 l0_3.length c0_3], .slice A1 l1.length c1, .int .i64 a2, .slice A3 l3.length c3, .int .i64 a4] w fun e w' => ∃ v0_ : Value, e = .returned (v0_) ∧ Kd.R k49 49 w' w.heap.size (fun _ => True) v0_ r ∧ Below w.heap.size w w' := by
  have hu28 := Try.underlying28
  have hu49 := Try.underlying49
  have HR0_3 := Aside0.mk hr0_3
  have HC0_3 := Aside0.mk hc0_3
  clear hr0_3 hc0_3
  have HR1 := Aside0.mk hr1
  have HC1 := Aside0.mk hc1
  clear hr1 hc1
  have HR3 := Aside0.mk hr3
  have HC3 := Aside0.mk hc3
  clear hr3 hc3
  have HB := Aside0.mk (Below.refl w.heap.size w)
  have H : (stolonref08_held.l0 k l1 a2 l3 a4 ([] : List (S49)) 0 a0_0 a0_1 a0_2 l0_3) = some r := h
  clear h
  have H' := Aside0.mk H
  clear H
  go_enter Try.func48, Try.ntmps48
  go_wp2_with (first | ((with_reducible refine gate_dst (N := 5) rfl ?_); refine bxn (cs := #[.int .u32 a0_0, .bool a0_1, .int .i64 a0_2, .slice A0_3 l0_3.length c0_3]) (t := 28) ?_; intro gb112 hg w6 hbox hb; have BK112 := Aside0.mk (hbox); have GW112 := Aside0.mk ((by rw [hg]; exact (below_size (bl HB)) : w.heap.size ≤ gb112)); have GE112 := Aside0.mk ((by rw [hg]; exact (below_size (bl HB)) : w.heap.size ≤ gb112)); replace HB := Aside0.mk (below_step (bl HB) hb); clear hb hbox hg))
  go_loopg [11, 12] k (fun kq v11 v12 w' => ∃ (x11_1 : List (S49)) (x12_1 : Int), v12 = .int .i64 x12_1 ∧ Aside0 (stolonref08_held.l0 kq l1 a2 l3 a4 x11_1 x12_1 a0_0 a0_1 a0_2 l0_3 = some r) ∧ Aside0 (kq ≤ k) ∧ Aside0 (Kd.R k49 49 w' w.heap.size (fun _ => True) v11 x11_1) ∧ Aside0 (w'.heap[gb112]? = some (.cells #[.int .u32 a0_0, .bool a0_1, .int .i64 a0_2, (.slice A0_3 l0_3.length c0_3)] 28 (0, 0))) ∧ Aside0 (Below w.heap.size w w'))
  case atStart => exact ⟨(([] : List (S49))), (0), (fr), H', ⟨Nat.le_refl _⟩, ⟨nl⟩, ⟨ba BK112.out⟩, ⟨bl HB⟩⟩
  case round =>
    clear H'
    try clear c1
    try clear p2
    try clear c3
    try clear c4
    obtain ⟨x11_1, x12_1, rfl, HA, HK1, HO_11, BK112, HB⟩ := hrel
    cases gk with
    | zero => exact absurd HA.out (by simp [stolonref08_held.l0])
    | succ k1 =>
      have H := HA.out
      clear HA
      simp only [stolonref08_held.l0] at H
      by_cases c7 : x12_1 < (l1.length : Int)
      · rw [if_pos c7] at H
        have c7b0 : decide (x12_1 < (l1.length : Int)) = true := decide_eq_true c7
        clear c7
        by_cases c8 : 0 ≤ x12_1
        · rw [if_pos c8] at H
          have c8b0 : decide (0 ≤ x12_1) = true := decide_eq_true c8
          clear c8
          replace H := Option.bind_eq_some_iff.mp H
          obtain ⟨t114, A90, H⟩ := H
          replace H : (if t114 < 0 then ((stolonref06_Has.f k1 l3 (rd l1 x12_1)).bind fun t116 => (if t116 = true then (if x11_1.length < 8796093022208 then (stolonref08_held.l0 k1 l1 a2 l3 a4 (x11_1 ++ [(⟨rd l1 x12_1, a4⟩ : S49)]) (wrap64 (x12_1 + 1)) a0_0 a0_1 a0_2 l0_3) else (none)) else (if x11_1.length < 8796093022208 then (stolonref08_held.l0 k1 l1 a2 l3 a4 (x11_1 ++ [(⟨rd l1 x12_1, a2⟩ : S49)]) (wrap64 (x12_1 + 1)) a0_0 a0_1 a0_2 l0_3) else (none)))) else ((stolonref06_Has.f k1 l3 (rd l1 x12_1)).bind fun t126 => (if t126 = true then (if x11_1.length < 8796093022208 then (stolonref08_held.l0 k1 l1 a2 l3 a4 (x11_1 ++ [(⟨rd l1 x12_1, a4⟩ : S49)]) (wrap64 (x12_1 + 1)) a0_0 a0_1 a0_2 l0_3) else (none)) else (if x11_1.length < 8796093022208 then (stolonref08_held.l0 k1 l1 a2 l3 a4 (x11_1 ++ [(⟨rd l1 x12_1, t114⟩ : S49)]) (wrap64 (x12_1 + 1)) a0_0 a0_1 a0_2 l0_3) else (none))))) = some r := H
          have A9 := Aside0.mk A90
          clear A90
          by_cases c10 : t114 < 0
          · rw [if_pos c10] at H
            have c10b0 : decide (t114 < 0) = true := decide_eq_true c10
            clear c10
            replace H := Option.bind_eq_some_iff.mp H
            obtain ⟨t116, A110, H⟩ := H
            replace H : (if t116 = true then (if x11_1.length < 8796093022208 then (stolonref08_held.l0 k1 l1 a2 l3 a4 (x11_1 ++ [(⟨rd l1 x12_1, a4⟩ : S49)]) (wrap64 (x12_1 + 1)) a0_0 a0_1 a0_2 l0_3) else (none)) else (if x11_1.length < 8796093022208 then (stolonref08_held.l0 k1 l1 a2 l3 a4 (x11_1 ++ [(⟨rd l1 x12_1, a2⟩ : S49)]) (wrap64 (x12_1 + 1)) a0_0 a0_1 a0_2 l0_3) else (none))) = some r := H
            have A11 := Aside0.mk A110
            clear A110
            by_cases c12 : t116 = true
            · subst c12
              replace H : (if x11_1.length < 8796093022208 then (stolonref08_held.l0 k1 l1 a2 l3 a4 (x11_1 ++ [(⟨rd l1 x12_1, a4⟩ : S49)]) (wrap64 (x12_1 + 1)) a0_0 a0_1 a0_2 l0_3) else (none)) = some r := by rw [if_pos rfl] at H; exact H
              by_cases c13 : x11_1.length < 8796093022208
              · rw [if_pos c13] at H
                have LMc13 := Aside0.mk c13
                clear c13
                obtain ⟨y118, hy118⟩ : ∃ y_ : List (S49), y_ = (x11_1 ++ [(⟨rd l1 x12_1, a4⟩ : S49)]) := ⟨_, rfl⟩
                replace H : (stolonref08_held.l0 k1 l1 a2 l3 a4 y118 (wrap64 (x12_1 + 1)) a0_0 a0_1 a0_2 l0_3) = some r := by first | (rw [hy118]; with_reducible exact H) | (have H2_ := (Option.bind_some _ _).symm.trans H; rw [hy118]; with_reducible exact H2_) | (have H2_ := (Option.bind_some _ _).symm.trans H; with_reducible exact H2_) | with_reducible exact H | (rw [hy118]; exact H) | exact H
                have Ny118 := Aside0.mk hy118
                clear hy118
                have H' := Aside0.mk H
                clear H
                try go_wp2
                have n0_ := Aside0.mk (Kd.R_drew HO_11.out)
                have n1_ := Aside0.mk (blk_drew BK112.out)
                have n2_ := Aside0.mk (below_drew1 HB.out)
                clear HO_11
                clear BK112
                clear HB
                have HO_11 := n0_
                have BK112 := n1_
                have HB := n2_
                clear n0_ n1_ n2_
                have p113 : 0 ≤ (x12_1 : Int) := od
                have q113 : x12_1 < (l1.length : Int) := od
                obtain ⟨ad113, e113, hx113_0⟩ := Kd.at_int HR1.out x12_1 p113 q113
                have hw113_0 := hx113_0
                cases e113
                replace hx113_0 := hcz HB hx113_0
                replace p113 := eq_true p113
                replace q113 := eq_true q113
                refine start_ (n := 7) (S := fun w' => w'.cell? ⟨gb112, 0, none⟩ = some (.int .u32 a0_0) ∧ w'.cell? ⟨gb112, 1, none⟩ = some (.bool a0_1) ∧ w'.cell? ⟨gb112, 2, none⟩ = some (.int .i64 a0_2) ∧ w'.cell? ⟨gb112, 3, none⟩ = some (.slice A0_3 l0_3.length c0_3) ∧ w'.cell? (ad113.add (x12_1).toNat) = some (.int .u32 (rd l1 x12_1))) (ds := []) #[false, false, false, false, false, false, false] (by kernel_rfl) rfl rfl ⟨(blk_cell BK112.out 0).trans rfl, (blk_cell BK112.out 1).trans rfl, (blk_cell BK112.out 2).trans rfl, (blk_cell BK112.out 3).trans rfl, ((HB.out.cell (World.block_lt_of_cell? w _ hw113_0)).trans hw113_0)⟩ (fun hHeld => ?_)
                generalize wr.drew = w14 at HO_11 BK112 HB hx113_0 hHeld ⊢
                refine pure_ (i := 1) (N := some 22) (v := ?_) (a' := ?_) #[false, true, false, false, false, false, false] rfl rfl (by kernel_rfl) (fun _ _ _ h => h) (Or.inl ⟨by rfl, ?_⟩) ?_ ?_
                rotate_left
                · intro w'
                  go_simp
                  with_reducible rfl
                rotate_left
                · simp only [Act.put, List.setIfInBounds_toArray, List.set_cons_zero, List.set_cons_succ, i64_w, i32_w]
                  rfl
                refine pure_ (i := 2) (N := some 23) (v := ?_) (a' := ?_) #[false, true, true, false, false, false, false] rfl rfl (by kernel_rfl) (fun _ _ _ h => h) (Or.inl ⟨by rfl, ?_⟩) ?_ ?_
                rotate_left
                · intro w'
                  go_simp
                  with_reducible rfl
                rotate_left
                · simp only [Act.put, List.setIfInBounds_toArray, List.set_cons_zero, List.set_cons_succ, i64_w, i32_w]
                  rfl
                refine pure_ (i := 3) (N := some 24) (v := ?_) (a' := ?_) #[false, true, true, true, false, false, false] rfl rfl (by kernel_rfl) (fun _ _ _ h => h) (Or.inl ⟨by rfl, ?_⟩) ?_ ?_
                rotate_left
                · intro w'
                  go_simp
                  with_reducible rfl
                rotate_left
                · simp only [Act.put, List.setIfInBounds_toArray, List.set_cons_zero, List.set_cons_succ, i64_w, i32_w]
                  rfl
                refine take_ (i := 0) (N := some 21) (v := ?_) (a' := ?_) #[true, true, true, true, false, false, false] rfl rfl (by kernel_rfl) (fun _ _ _ h => h) (Or.inl ⟨by rfl, ?_⟩) hHeld ?_ ?_
                rotate_left
                · rintro w' ⟨s0, s1, s2, s3, s4⟩
                  go_simp
                  with_reducible rfl
                rotate_left
                · simp only [Act.put, List.setIfInBounds_toArray, List.set_cons_zero, List.set_cons_succ, i64_w, i32_w]
                  rfl
                refine take_ (i := 4) (N := some 25) (v := ?_) (a' := ?_) #[true, true, true, true, true, false, false] rfl rfl (by kernel_rfl) (fun _ _ _ h => h) (Or.inl ⟨by rfl, ?_⟩) hHeld ?_ ?_
                rotate_left
                · rintro w' ⟨s0, s1, s2, s3, s4⟩
                  go_simp
                  with_reducible rfl
                rotate_left
                · simp only [Act.put, List.setIfInBounds_toArray, List.set_cons_zero, List.set_cons_succ, i64_w, i32_w]
                  rfl
                refine one_ (i := 5) (N := some 26) #[true, true, true, true, true, true, false] rfl rfl (by kernel_rfl) (by decide) (fun K hK => ?_)
                refine gfn Try.func68 #[.agg #[.int .u32 a0_0, .bool a0_1, .int .i64 a0_2, .slice A0_3 l0_3.length c0_3], .int .u32 (rd l1 x12_1)] ?_
                with_reducible refine (stolonref08_left.calls k1 a0_0 a0_1 a0_2 _ _ l0_3 (rd l1 x12_1) t114 _ ?side1 ?side2 A9.out).mono ?_
                (case side1 => exact ca (Kd.C_below HR0_3.out HB.out))
                (case side2 => exact HC0_3.out)
                rintro e w15 ⟨rfl, hb⟩
                refine ⟨_, rfl, ?_⟩
                have n0_ := Aside0.mk (Kd.R_below (rad HO_11.out) hb)
                have n1_ := Aside0.mk (blk_below (g := gb112) (o := .cells #[.int .u32 a0_0, .bool a0_1, .int .i64 a0_2, .slice A0_3 l0_3.length c0_3] 28 (0, 0)) (ba BK112.out) hb)
                have n2_ := Aside0.mk (below_step (bl HB) hb)
                clear HO_11
                clear BK112
                clear HB
                have HO_11 := n0_
                have BK112 := n1_
                have HB := n2_
                clear n0_ n1_ n2_
                (try clear hb)
                (try clear hb2)
                (try clear hk)
                (try clear hi)
                refine hK.out _ _ ⟨(blk_cell BK112.out 0).trans rfl, (blk_cell BK112.out 1).trans rfl, (blk_cell BK112.out 2).trans rfl, (blk_cell BK112.out 3).trans rfl, ((HB.out.cell (World.block_lt_of_cell? w _ hw113_0)).trans hw113_0)⟩ (fun hHeld => ?_)
                clear hK K
                refine nm ?_
                refine pure_ (i := 6) (N := some 13) (v := ?_) (a' := ?_) #[true, true, true, true, true, true, true] rfl rfl (by kernel_rfl) (fun _ _ _ h => h) (Or.inl ⟨by rfl, ?_⟩) ?_ ?_
                rotate_left
                · intro w'
                  go_simp
                  with_reducible rfl
                rotate_left
                · simp only [Act.put, List.setIfInBounds_toArray, List.set_cons_zero, List.set_cons_succ, i64_w, i32_w]
                  rfl
                refine done_ (by kernel_rfl) ?_
                have p115 : 0 ≤ (x12_1 : Int) := od
                have q115 : x12_1 < (l1.length : Int) := od
                obtain ⟨ad115, e115, hx115_0⟩ := Kd.at_int HR1.out x12_1 p115 q115
                obtain rfl : ad113 = ad115 := (by injection e115)
                replace hx115_0 := hcz HB hx115_0
                replace p115 := eq_true p115
                replace q115 := eq_true q115
                try go_wp2_with (first | ((with_reducible refine gate_callee (f := 18) rfl ?_); refine goesL_ (some 35) rfl rfl Try.func18 (by kernel_rfl) rfl #[.slice A3 l3.length c3, .int .u32 (rd l1 x12_1)] rfl (by (try simp only [List.map_toArray, List.map_cons, List.map_nil]); first | done | rfl | (simp only [List.length_drop, List.length_take]; rfl)) ?_; (with_reducible refine (stolonref06_Has.calls k1 _ _ l3 (rd l1 x12_1) true _ ?side1 ?side2 A11.out).mono ?_); (case side1 => exact ca (Kd.C_below HR3.out HB.out)); (case side2 => exact HC3.out); rintro e w' ⟨rfl, ⟨nd, rfl⟩⟩; refine ⟨_, rfl, ?_⟩; have p117 : 0 ≤ (x12_1 : Int) := od; have q117 : x12_1 < (l1.length : Int) := od; obtain ⟨ad117, e117, hx117_0⟩ := Kd.at_int HR1.out x12_1 p117 q117; obtain rfl : ad113 = ad117 := (by injection e117); replace hx117_0 := hcz HB hx117_0; replace p117 := eq_true p117; replace q117 := eq_true q117) | ((with_reducible refine gate_builtin (b := .append) (xs := #[.tmp 38, .tmp 45]) rfl ?_); at_builtin; refine Kd.R_append k49 (w0 := w) w.heap.size rfl (.tmp 38) (.tmp 45) 26 49 (.agg #[(.int .u32 0), (.int .i64 0)]) 16 rfl Try.underlying26 info49 rfl (by decide) (by omega) u11 x11_1 (⟨rd l1 x12_1, a4⟩ : S49) [.int .u32 (rd l1 x12_1), .int .i64 a4] (fun _ => True) (fun _ => False) rfl rfl ?aP (fun _ hk => hk.elim) ?aF ?aO ?aB ?aS ?aL ?_; (case aP => exact k49_mkM _ _ _ (⟨rd l1 x12_1, a4⟩ : S49)); (case aB => exact (bl HB)); (case aF => exact (fun _ _ => trivial)); (case aO => exact (rad HO_11.out)); (case aS => exact (below_size (bl HB))); (case aL => have := LMc13.out; omega); intro v119 w16 ho hb hg hat; rw [← Ny118.out] at ho; have n0_ := Aside0.mk (blk_grown (g := gb112) (o := .cells #[.int .u32 a0_0, .bool a0_1, .int .i64 a0_2, .slice A0_3 l0_3.length c0_3] 28 (0, 0)) (ba BK112.out) hg (Kd.R_ne HO_11.out BK112.out (by decide))); have n1_ := Aside0.mk (hb); have n2_ := Aside0.mk (ho); clear BK112; clear HB; clear HO_11; have BK112 := n0_; have HB := n1_; have HO120 := n2_; clear n0_ n1_ n2_; clear ho hb hg hat))
                go_roundg k1
                case measure => have := HK1.out; omega
                case rel => exact ⟨(y118), (wrap64 (x12_1 + 1)), (fr), H', ⟨by have := HK1.out; omega⟩, ⟨rad HO120.out⟩, ⟨ba BK112.out⟩, ⟨bl HB⟩⟩
              · rw [if_neg c13] at H
                exact absurd H (by simp)
            · replace c12 := Bool.eq_false_iff.mpr c12
              subst c12
              replace H : (if x11_1.length < 8796093022208 then (stolonref08_held.l0 k1 l1 a2 l3 a4 (x11_1 ++ [(⟨rd l1 x12_1, a2⟩ : S49)]) (wrap64 (x12_1 + 1)) a0_0 a0_1 a0_2 l0_3) else (none)) = some r := by rw [if_neg (show ¬ (false = true) by decide)] at H; exact H
              by_cases c17 : x11_1.length < 8796093022208
              · rw [if_pos c17] at H
                have LMc17 := Aside0.mk c17
                clear c17
                obtain ⟨y122, hy122⟩ : ∃ y_ : List (S49), y_ = (x11_1 ++ [(⟨rd l1 x12_1, a2⟩ : S49)]) := ⟨_, rfl⟩
                replace H : (stolonref08_held.l0 k1 l1 a2 l3 a4 y122 (wrap64 (x12_1 + 1)) a0_0 a0_1 a0_2 l0_3) = some r := by first | (rw [hy122]; with_reducible exact H) | (have H2_ := (Option.bind_some _ _).symm.trans H; rw [hy122]; with_reducible exact H2_) | (have H2_ := (Option.bind_some _ _).symm.trans H; with_reducible exact H2_) | with_reducible exact H | (rw [hy122]; exact H) | exact H
                have Ny122 := Aside0.mk hy122
                clear hy122
                have H' := Aside0.mk H
                clear H
                try go_wp2
                have n0_ := Aside0.mk (Kd.R_drew HO_11.out)
                have n1_ := Aside0.mk (blk_drew BK112.out)
                have n2_ := Aside0.mk (below_drew1 HB.out)
                clear HO_11
                clear BK112
                clear HB
                have HO_11 := n0_
                have BK112 := n1_
                have HB := n2_
                clear n0_ n1_ n2_
                have p113 : 0 ≤ (x12_1 : Int) := od
                have q113 : x12_1 < (l1.length : Int) := od
                obtain ⟨ad113, e113, hx113_0⟩ := Kd.at_int HR1.out x12_1 p113 q113
                have hw113_0 := hx113_0
                cases e113
                replace hx113_0 := hcz HB hx113_0
                replace p113 := eq_true p113
                replace q113 := eq_true q113
                refine start_ (n := 7) (S := fun w' => w'.cell? ⟨gb112, 0, none⟩ = some (.int .u32 a0_0) ∧ w'.cell? ⟨gb112, 1, none⟩ = some (.bool a0_1) ∧ w'.cell? ⟨gb112, 2, none⟩ = some (.int .i64 a0_2) ∧ w'.cell? ⟨gb112, 3, none⟩ = some (.slice A0_3 l0_3.length c0_3) ∧ w'.cell? (ad113.add (x12_1).toNat) = some (.int .u32 (rd l1 x12_1))) (ds := []) #[false, false, false, false, false, false, false] (by kernel_rfl) rfl rfl ⟨(blk_cell BK112.out 0).trans rfl, (blk_cell BK112.out 1).trans rfl, (blk_cell BK112.out 2).trans rfl, (blk_cell BK112.out 3).trans rfl, ((HB.out.cell (World.block_lt_of_cell? w _ hw113_0)).trans hw113_0)⟩ (fun hHeld => ?_)
                generalize wr.drew = w18 at HO_11 BK112 HB hx113_0 hHeld ⊢
                refine pure_ (i := 1) (N := some 22) (v := ?_) (a' := ?_) #[false, true, false, false, false, false, false] rfl rfl (by kernel_rfl) (fun _ _ _ h => h) (Or.inl ⟨by rfl, ?_⟩) ?_ ?_
                rotate_left
                · intro w'
                  go_simp
                  with_reducible rfl
                rotate_left
                · simp only [Act.put, List.setIfInBounds_toArray, List.set_cons_zero, List.set_cons_succ, i64_w, i32_w]
                  rfl
                refine pure_ (i := 2) (N := some 23) (v := ?_) (a' := ?_) #[false, true, true, false, false, false, false] rfl rfl (by kernel_rfl) (fun _ _ _ h => h) (Or.inl ⟨by rfl, ?_⟩) ?_ ?_
                rotate_left
                · intro w'
                  go_simp
                  with_reducible rfl
                rotate_left
                · simp only [Act.put, List.setIfInBounds_toArray, List.set_cons_zero, List.set_cons_succ, i64_w, i32_w]
                  rfl
                refine pure_ (i := 3) (N := some 24) (v := ?_) (a' := ?_) #[false, true, true, true, false, false, false] rfl rfl (by kernel_rfl) (fun _ _ _ h => h) (Or.inl ⟨by rfl, ?_⟩) ?_ ?_
                rotate_left
                · intro w'
                  go_simp
                  with_reducible rfl
                rotate_left
                · simp only [Act.put, List.setIfInBounds_toArray, List.set_cons_zero, List.set_cons_succ, i64_w, i32_w]
                  rfl
                refine take_ (i := 0) (N := some 21) (v := ?_) (a' := ?_) #[true, true, true, true, false, false, false] rfl rfl (by kernel_rfl) (fun _ _ _ h => h) (Or.inl ⟨by rfl, ?_⟩) hHeld ?_ ?_
                rotate_left
                · rintro w' ⟨s0, s1, s2, s3, s4⟩
                  go_simp
                  with_reducible rfl
                rotate_left
                · simp only [Act.put, List.setIfInBounds_toArray, List.set_cons_zero, List.set_cons_succ, i64_w, i32_w]
                  rfl
                refine take_ (i := 4) (N := some 25) (v := ?_) (a' := ?_) #[true, true, true, true, true, false, false] rfl rfl (by kernel_rfl) (fun _ _ _ h => h) (Or.inl ⟨by rfl, ?_⟩) hHeld ?_ ?_
                rotate_left
                · rintro w' ⟨s0, s1, s2, s3, s4⟩
                  go_simp
                  with_reducible rfl
                rotate_left
                · simp only [Act.put, List.setIfInBounds_toArray, List.set_cons_zero, List.set_cons_succ, i64_w, i32_w]
                  rfl
                refine one_ (i := 5) (N := some 26) #[true, true, true, true, true, true, false] rfl rfl (by kernel_rfl) (by decide) (fun K hK => ?_)
                refine gfn Try.func68 #[.agg #[.int .u32 a0_0, .bool a0_1, .int .i64 a0_2, .slice A0_3 l0_3.length c0_3], .int .u32 (rd l1 x12_1)] ?_
                with_reducible refine (stolonref08_left.calls k1 a0_0 a0_1 a0_2 _ _ l0_3 (rd l1 x12_1) t114 _ ?side1 ?side2 A9.out).mono ?_
                (case side1 => exact ca (Kd.C_below HR0_3.out HB.out))
                (case side2 => exact HC0_3.out)
                rintro e w19 ⟨rfl, hb⟩
                refine ⟨_, rfl, ?_⟩
                have n0_ := Aside0.mk (Kd.R_below (rad HO_11.out) hb)
                have n1_ := Aside0.mk (blk_below (g := gb112) (o := .cells #[.int .u32 a0_0, .bool a0_1, .int .i64 a0_2, .slice A0_3 l0_3.length c0_3] 28 (0, 0)) (ba BK112.out) hb)
                have n2_ := Aside0.mk (below_step (bl HB) hb)
                clear HO_11
                clear BK112
                clear HB
                have HO_11 := n0_
                have BK112 := n1_
                have HB := n2_
                clear n0_ n1_ n2_
                (try clear hb)
                (try clear hb2)
                (try clear hk)
                (try clear hi)
                refine hK.out _ _ ⟨(blk_cell BK112.out 0).trans rfl, (blk_cell BK112.out 1).trans rfl, (blk_cell BK112.out 2).trans rfl, (blk_cell BK112.out 3).trans rfl, ((HB.out.cell (World.block_lt_of_cell? w _ hw113_0)).trans hw113_0)⟩ (fun hHeld => ?_)
                clear hK K
                refine nm ?_
                refine pure_ (i := 6) (N := some 13) (v := ?_) (a' := ?_) #[true, true, true, true, true, true, true] rfl rfl (by kernel_rfl) (fun _ _ _ h => h) (Or.inl ⟨by rfl, ?_⟩) ?_ ?_
                rotate_left
                · intro w'
                  go_simp
                  with_reducible rfl
                rotate_left
                · simp only [Act.put, List.setIfInBounds_toArray, List.set_cons_zero, List.set_cons_succ, i64_w, i32_w]
                  rfl
                refine done_ (by kernel_rfl) ?_
                have p115 : 0 ≤ (x12_1 : Int) := od
                have q115 : x12_1 < (l1.length : Int) := od
                obtain ⟨ad115, e115, hx115_0⟩ := Kd.at_int HR1.out x12_1 p115 q115
                obtain rfl : ad113 = ad115 := (by injection e115)
                replace hx115_0 := hcz HB hx115_0
                replace p115 := eq_true p115
                replace q115 := eq_true q115
                try go_wp2_with (first | ((with_reducible refine gate_callee (f := 18) rfl ?_); refine goesL_ (some 35) rfl rfl Try.func18 (by kernel_rfl) rfl #[.slice A3 l3.length c3, .int .u32 (rd l1 x12_1)] rfl (by (try simp only [List.map_toArray, List.map_cons, List.map_nil]); first | done | rfl | (simp only [List.length_drop, List.length_take]; rfl)) ?_; (with_reducible refine (stolonref06_Has.calls k1 _ _ l3 (rd l1 x12_1) false _ ?side1 ?side2 A11.out).mono ?_); (case side1 => exact ca (Kd.C_below HR3.out HB.out)); (case side2 => exact HC3.out); rintro e w' ⟨rfl, ⟨nd, rfl⟩⟩; refine ⟨_, rfl, ?_⟩; have p121 : 0 ≤ (x12_1 : Int) := od; have q121 : x12_1 < (l1.length : Int) := od; obtain ⟨ad121, e121, hx121_0⟩ := Kd.at_int HR1.out x12_1 p121 q121; obtain rfl : ad113 = ad121 := (by injection e121); replace hx121_0 := hcz HB hx121_0; replace p121 := eq_true p121; replace q121 := eq_true q121) | ((with_reducible refine gate_builtin (b := .append) (xs := #[.tmp 38, .tmp 45]) rfl ?_); at_builtin; refine Kd.R_append k49 (w0 := w) w.heap.size rfl (.tmp 38) (.tmp 45) 26 49 (.agg #[(.int .u32 0), (.int .i64 0)]) 16 rfl Try.underlying26 info49 rfl (by decide) (by omega) u11 x11_1 (⟨rd l1 x12_1, a2⟩ : S49) [.int .u32 (rd l1 x12_1), .int .i64 a2] (fun _ => True) (fun _ => False) rfl rfl ?aP (fun _ hk => hk.elim) ?aF ?aO ?aB ?aS ?aL ?_; (case aP => exact k49_mkM _ _ _ (⟨rd l1 x12_1, a2⟩ : S49)); (case aB => exact (bl HB)); (case aF => exact (fun _ _ => trivial)); (case aO => exact (rad HO_11.out)); (case aS => exact (below_size (bl HB))); (case aL => have := LMc17.out; omega); intro v123 w20 ho hb hg hat; rw [← Ny122.out] at ho; have n0_ := Aside0.mk (blk_grown (g := gb112) (o := .cells #[.int .u32 a0_0, .bool a0_1, .int .i64 a0_2, .slice A0_3 l0_3.length c0_3] 28 (0, 0)) (ba BK112.out) hg (Kd.R_ne HO_11.out BK112.out (by decide))); have n1_ := Aside0.mk (hb); have n2_ := Aside0.mk (ho); clear BK112; clear HB; clear HO_11; have BK112 := n0_; have HB := n1_; have HO124 := n2_; clear n0_ n1_ n2_; clear ho hb hg hat))
                go_roundg k1
                case measure => have := HK1.out; omega
                case rel => exact ⟨(y122), (wrap64 (x12_1 + 1)), (fr), H', ⟨by have := HK1.out; omega⟩, ⟨rad HO124.out⟩, ⟨ba BK112.out⟩, ⟨bl HB⟩⟩
              · rw [if_neg c17] at H
                exact absurd H (by simp)
          · rw [if_neg c10] at H
            have c10b0 : decide (t114 < 0) = false := decide_eq_false c10
            clear c10
            replace H := Option.bind_eq_some_iff.mp H
            obtain ⟨t126, A210, H⟩ := H
            replace H : (if t126 = true then (if x11_1.length < 8796093022208 then (stolonref08_held.l0 k1 l1 a2 l3 a4 (x11_1 ++ [(⟨rd l1 x12_1, a4⟩ : S49)]) (wrap64 (x12_1 + 1)) a0_0 a0_1 a0_2 l0_3) else (none)) else (if x11_1.length < 8796093022208 then (stolonref08_held.l0 k1 l1 a2 l3 a4 (x11_1 ++ [(⟨rd l1 x12_1, t114⟩ : S49)]) (wrap64 (x12_1 + 1)) a0_0 a0_1 a0_2 l0_3) else (none))) = some r := H
            have A21 := Aside0.mk A210
            clear A210
            by_cases c22 : t126 = true
            · subst c22
              replace H : (if x11_1.length < 8796093022208 then (stolonref08_held.l0 k1 l1 a2 l3 a4 (x11_1 ++ [(⟨rd l1 x12_1, a4⟩ : S49)]) (wrap64 (x12_1 + 1)) a0_0 a0_1 a0_2 l0_3) else (none)) = some r := by rw [if_pos rfl] at H; exact H
              by_cases c23 : x11_1.length < 8796093022208
              · rw [if_pos c23] at H
                have LMc23 := Aside0.mk c23
                clear c23
                obtain ⟨y128, hy128⟩ : ∃ y_ : List (S49), y_ = (x11_1 ++ [(⟨rd l1 x12_1, a4⟩ : S49)]) := ⟨_, rfl⟩
                replace H : (stolonref08_held.l0 k1 l1 a2 l3 a4 y128 (wrap64 (x12_1 + 1)) a0_0 a0_1 a0_2 l0_3) = some r := by first | (rw [hy128]; with_reducible exact H) | (have H2_ := (Option.bind_some _ _).symm.trans H; rw [hy128]; with_reducible exact H2_) | (have H2_ := (Option.bind_some _ _).symm.trans H; with_reducible exact H2_) | with_reducible exact H | (rw [hy128]; exact H) | exact H
                have Ny128 := Aside0.mk hy128
                clear hy128
                have H' := Aside0.mk H
                clear H
                try go_wp2
                have n0_ := Aside0.mk (Kd.R_drew HO_11.out)
                have n1_ := Aside0.mk (blk_drew BK112.out)
                have n2_ := Aside0.mk (below_drew1 HB.out)
                clear HO_11
                clear BK112
                clear HB
                have HO_11 := n0_
                have BK112 := n1_
                have HB := n2_
                clear n0_ n1_ n2_
                have p113 : 0 ≤ (x12_1 : Int) := od
                have q113 : x12_1 < (l1.length : Int) := od
                obtain ⟨ad113, e113, hx113_0⟩ := Kd.at_int HR1.out x12_1 p113 q113
                have hw113_0 := hx113_0
                cases e113
                replace hx113_0 := hcz HB hx113_0
                replace p113 := eq_true p113
                replace q113 := eq_true q113
                refine start_ (n := 7) (S := fun w' => w'.cell? ⟨gb112, 0, none⟩ = some (.int .u32 a0_0) ∧ w'.cell? ⟨gb112, 1, none⟩ = some (.bool a0_1) ∧ w'.cell? ⟨gb112, 2, none⟩ = some (.int .i64 a0_2) ∧ w'.cell? ⟨gb112, 3, none⟩ = some (.slice A0_3 l0_3.length c0_3) ∧ w'.cell? (ad113.add (x12_1).toNat) = some (.int .u32 (rd l1 x12_1))) (ds := []) #[false, false, false, false, false, false, false] (by kernel_rfl) rfl rfl ⟨(blk_cell BK112.out 0).trans rfl, (blk_cell BK112.out 1).trans rfl, (blk_cell BK112.out 2).trans rfl, (blk_cell BK112.out 3).trans rfl, ((HB.out.cell (World.block_lt_of_cell? w _ hw113_0)).trans hw113_0)⟩ (fun hHeld => ?_)
                generalize wr.drew = w24 at HO_11 BK112 HB hx113_0 hHeld ⊢
                refine pure_ (i := 1) (N := some 22) (v := ?_) (a' := ?_) #[false, true, false, false, false, false, false] rfl rfl (by kernel_rfl) (fun _ _ _ h => h) (Or.inl ⟨by rfl, ?_⟩) ?_ ?_
                rotate_left
                · intro w'
                  go_simp
                  with_reducible rfl
                rotate_left
                · simp only [Act.put, List.setIfInBounds_toArray, List.set_cons_zero, List.set_cons_succ, i64_w, i32_w]
                  rfl
                refine pure_ (i := 2) (N := some 23) (v := ?_) (a' := ?_) #[false, true, true, false, false, false, false] rfl rfl (by kernel_rfl) (fun _ _ _ h => h) (Or.inl ⟨by rfl, ?_⟩) ?_ ?_
                rotate_left
                · intro w'
                  go_simp
                  with_reducible rfl
                rotate_left
                · simp only [Act.put, List.setIfInBounds_toArray, List.set_cons_zero, List.set_cons_succ, i64_w, i32_w]
                  rfl
                refine pure_ (i := 3) (N := some 24) (v := ?_) (a' := ?_) #[false, true, true, true, false, false, false] rfl rfl (by kernel_rfl) (fun _ _ _ h => h) (Or.inl ⟨by rfl, ?_⟩) ?_ ?_
                rotate_left
                · intro w'
                  go_simp
                  with_reducible rfl
                rotate_left
                · simp only [Act.put, List.setIfInBounds_toArray, List.set_cons_zero, List.set_cons_succ, i64_w, i32_w]
                  rfl
                refine take_ (i := 0) (N := some 21) (v := ?_) (a' := ?_) #[true, true, true, true, false, false, false] rfl rfl (by kernel_rfl) (fun _ _ _ h => h) (Or.inl ⟨by rfl, ?_⟩) hHeld ?_ ?_
                rotate_left
                · rintro w' ⟨s0, s1, s2, s3, s4⟩
                  go_simp
                  with_reducible rfl
                rotate_left
                · simp only [Act.put, List.setIfInBounds_toArray, List.set_cons_zero, List.set_cons_succ, i64_w, i32_w]
                  rfl
                refine take_ (i := 4) (N := some 25) (v := ?_) (a' := ?_) #[true, true, true, true, true, false, false] rfl rfl (by kernel_rfl) (fun _ _ _ h => h) (Or.inl ⟨by rfl, ?_⟩) hHeld ?_ ?_
                rotate_left
                · rintro w' ⟨s0, s1, s2, s3, s4⟩
                  go_simp
                  with_reducible rfl
                rotate_left
                · simp only [Act.put, List.setIfInBounds_toArray, List.set_cons_zero, List.set_cons_succ, i64_w, i32_w]
                  rfl
                refine one_ (i := 5) (N := some 26) #[true, true, true, true, true, true, false] rfl rfl (by kernel_rfl) (by decide) (fun K hK => ?_)
                refine gfn Try.func68 #[.agg #[.int .u32 a0_0, .bool a0_1, .int .i64 a0_2, .slice A0_3 l0_3.length c0_3], .int .u32 (rd l1 x12_1)] ?_
                with_reducible refine (stolonref08_left.calls k1 a0_0 a0_1 a0_2 _ _ l0_3 (rd l1 x12_1) t114 _ ?side1 ?side2 A9.out).mono ?_
                (case side1 => exact ca (Kd.C_below HR0_3.out HB.out))
                (case side2 => exact HC0_3.out)
                rintro e w25 ⟨rfl, hb⟩
                refine ⟨_, rfl, ?_⟩
                have n0_ := Aside0.mk (Kd.R_below (rad HO_11.out) hb)
                have n1_ := Aside0.mk (blk_below (g := gb112) (o := .cells #[.int .u32 a0_0, .bool a0_1, .int .i64 a0_2, .slice A0_3 l0_3.length c0_3] 28 (0, 0)) (ba BK112.out) hb)
                have n2_ := Aside0.mk (below_step (bl HB) hb)
                clear HO_11
                clear BK112
                clear HB
                have HO_11 := n0_
                have BK112 := n1_
                have HB := n2_
                clear n0_ n1_ n2_
                (try clear hb)
                (try clear hb2)
                (try clear hk)
                (try clear hi)
                refine hK.out _ _ ⟨(blk_cell BK112.out 0).trans rfl, (blk_cell BK112.out 1).trans rfl, (blk_cell BK112.out 2).trans rfl, (blk_cell BK112.out 3).trans rfl, ((HB.out.cell (World.block_lt_of_cell? w _ hw113_0)).trans hw113_0)⟩ (fun hHeld => ?_)
                clear hK K
                refine nm ?_
                refine pure_ (i := 6) (N := some 13) (v := ?_) (a' := ?_) #[true, true, true, true, true, true, true] rfl rfl (by kernel_rfl) (fun _ _ _ h => h) (Or.inl ⟨by rfl, ?_⟩) ?_ ?_
                rotate_left
                · intro w'
                  go_simp
                  with_reducible rfl
                rotate_left
                · simp only [Act.put, List.setIfInBounds_toArray, List.set_cons_zero, List.set_cons_succ, i64_w, i32_w]
                  rfl
                refine done_ (by kernel_rfl) ?_
                have p125 : 0 ≤ (x12_1 : Int) := od
                have q125 : x12_1 < (l1.length : Int) := od
                obtain ⟨ad125, e125, hx125_0⟩ := Kd.at_int HR1.out x12_1 p125 q125
                obtain rfl : ad113 = ad125 := (by injection e125)
                replace hx125_0 := hcz HB hx125_0
                replace p125 := eq_true p125
                replace q125 := eq_true q125
                try go_wp2_with (first | ((with_reducible refine gate_callee (f := 18) rfl ?_); refine goesL_ (some 35) rfl rfl Try.func18 (by kernel_rfl) rfl #[.slice A3 l3.length c3, .int .u32 (rd l1 x12_1)] rfl (by (try simp only [List.map_toArray, List.map_cons, List.map_nil]); first | done | rfl | (simp only [List.length_drop, List.length_take]; rfl)) ?_; (with_reducible refine (stolonref06_Has.calls k1 _ _ l3 (rd l1 x12_1) true _ ?side1 ?side2 A21.out).mono ?_); (case side1 => exact ca (Kd.C_below HR3.out HB.out)); (case side2 => exact HC3.out); rintro e w' ⟨rfl, ⟨nd, rfl⟩⟩; refine ⟨_, rfl, ?_⟩; have p127 : 0 ≤ (x12_1 : Int) := od; have q127 : x12_1 < (l1.length : Int) := od; obtain ⟨ad127, e127, hx127_0⟩ := Kd.at_int HR1.out x12_1 p127 q127; obtain rfl : ad113 = ad127 := (by injection e127); replace hx127_0 := hcz HB hx127_0; replace p127 := eq_true p127; replace q127 := eq_true q127) | ((with_reducible refine gate_builtin (b := .append) (xs := #[.tmp 38, .tmp 45]) rfl ?_); at_builtin; refine Kd.R_append k49 (w0 := w) w.heap.size rfl (.tmp 38) (.tmp 45) 26 49 (.agg #[(.int .u32 0), (.int .i64 0)]) 16 rfl Try.underlying26 info49 rfl (by decide) (by omega) u11 x11_1 (⟨rd l1 x12_1, a4⟩ : S49) [.int .u32 (rd l1 x12_1), .int .i64 a4] (fun _ => True) (fun _ => False) rfl rfl ?aP (fun _ hk => hk.elim) ?aF ?aO ?aB ?aS ?aL ?_; (case aP => exact k49_mkM _ _ _ (⟨rd l1 x12_1, a4⟩ : S49)); (case aB => exact (bl HB)); (case aF => exact (fun _ _ => trivial)); (case aO => exact (rad HO_11.out)); (case aS => exact (below_size (bl HB))); (case aL => have := LMc23.out; omega); intro v129 w26 ho hb hg hat; rw [← Ny128.out] at ho; have n0_ := Aside0.mk (blk_grown (g := gb112) (o := .cells #[.int .u32 a0_0, .bool a0_1, .int .i64 a0_2, .slice A0_3 l0_3.length c0_3] 28 (0, 0)) (ba BK112.out) hg (Kd.R_ne HO_11.out BK112.out (by decide))); have n1_ := Aside0.mk (hb); have n2_ := Aside0.mk (ho); clear BK112; clear HB; clear HO_11; have BK112 := n0_; have HB := n1_; have HO130 := n2_; clear n0_ n1_ n2_; clear ho hb hg hat))
                go_roundg k1
                case measure => have := HK1.out; omega
                case rel => exact ⟨(y128), (wrap64 (x12_1 + 1)), (fr), H', ⟨by have := HK1.out; omega⟩, ⟨rad HO130.out⟩, ⟨ba BK112.out⟩, ⟨bl HB⟩⟩
              · rw [if_neg c23] at H
                exact absurd H (by simp)
            · replace c22 := Bool.eq_false_iff.mpr c22
              subst c22
              replace H : (if x11_1.length < 8796093022208 then (stolonref08_held.l0 k1 l1 a2 l3 a4 (x11_1 ++ [(⟨rd l1 x12_1, t114⟩ : S49)]) (wrap64 (x12_1 + 1)) a0_0 a0_1 a0_2 l0_3) else (none)) = some r := by rw [if_neg (show ¬ (false = true) by decide)] at H; exact H
              by_cases c27 : x11_1.length < 8796093022208
              · rw [if_pos c27] at H
                have LMc27 := Aside0.mk c27
                clear c27
                obtain ⟨y132, hy132⟩ : ∃ y_ : List (S49), y_ = (x11_1 ++ [(⟨rd l1 x12_1, t114⟩ : S49)]) := ⟨_, rfl⟩
                replace H : (stolonref08_held.l0 k1 l1 a2 l3 a4 y132 (wrap64 (x12_1 + 1)) a0_0 a0_1 a0_2 l0_3) = some r := by first | (rw [hy132]; with_reducible exact H) | (have H2_ := (Option.bind_some _ _).symm.trans H; rw [hy132]; with_reducible exact H2_) | (have H2_ := (Option.bind_some _ _).symm.trans H; with_reducible exact H2_) | with_reducible exact H | (rw [hy132]; exact H) | exact H
                have Ny132 := Aside0.mk hy132
                clear hy132
                have H' := Aside0.mk H
                clear H
                try go_wp2
                have n0_ := Aside0.mk (Kd.R_drew HO_11.out)
                have n1_ := Aside0.mk (blk_drew BK112.out)
                have n2_ := Aside0.mk (below_drew1 HB.out)
                clear HO_11
                clear BK112
                clear HB
                have HO_11 := n0_
                have BK112 := n1_
                have HB := n2_
                clear n0_ n1_ n2_
                have p113 : 0 ≤ (x12_1 : Int) := od
                have q113 : x12_1 < (l1.length : Int) := od
                obtain ⟨ad113, e113, hx113_0⟩ := Kd.at_int HR1.out x12_1 p113 q113
                have hw113_0 := hx113_0
                cases e113
                replace hx113_0 := hcz HB hx113_0
                replace p113 := eq_true p113
                replace q113 := eq_true q113
                refine start_ (n := 7) (S := fun w' => w'.cell? ⟨gb112, 0, none⟩ = some (.int .u32 a0_0) ∧ w'.cell? ⟨gb112, 1, none⟩ = some (.bool a0_1) ∧ w'.cell? ⟨gb112, 2, none⟩ = some (.int .i64 a0_2) ∧ w'.cell? ⟨gb112, 3, none⟩ = some (.slice A0_3 l0_3.length c0_3) ∧ w'.cell? (ad113.add (x12_1).toNat) = some (.int .u32 (rd l1 x12_1))) (ds := []) #[false, false, false, false, false, false, false] (by kernel_rfl) rfl rfl ⟨(blk_cell BK112.out 0).trans rfl, (blk_cell BK112.out 1).trans rfl, (blk_cell BK112.out 2).trans rfl, (blk_cell BK112.out 3).trans rfl, ((HB.out.cell (World.block_lt_of_cell? w _ hw113_0)).trans hw113_0)⟩ (fun hHeld => ?_)
                generalize wr.drew = w28 at HO_11 BK112 HB hx113_0 hHeld ⊢
                refine pure_ (i := 1) (N := some 22) (v := ?_) (a' := ?_) #[false, true, false, false, false, false, false] rfl rfl (by kernel_rfl) (fun _ _ _ h => h) (Or.inl ⟨by rfl, ?_⟩) ?_ ?_
                rotate_left
                · intro w'
                  go_simp
                  with_reducible rfl
                rotate_left
                · simp only [Act.put, List.setIfInBounds_toArray, List.set_cons_zero, List.set_cons_succ, i64_w, i32_w]
                  rfl
                refine pure_ (i := 2) (N := some 23) (v := ?_) (a' := ?_) #[false, true, true, false, false, false, false] rfl rfl (by kernel_rfl) (fun _ _ _ h => h) (Or.inl ⟨by rfl, ?_⟩) ?_ ?_
                rotate_left
                · intro w'
                  go_simp
                  with_reducible rfl
                rotate_left
                · simp only [Act.put, List.setIfInBounds_toArray, List.set_cons_zero, List.set_cons_succ, i64_w, i32_w]
                  rfl
                refine pure_ (i := 3) (N := some 24) (v := ?_) (a' := ?_) #[false, true, true, true, false, false, false] rfl rfl (by kernel_rfl) (fun _ _ _ h => h) (Or.inl ⟨by rfl, ?_⟩) ?_ ?_
                rotate_left
                · intro w'
                  go_simp
                  with_reducible rfl
                rotate_left
                · simp only [Act.put, List.setIfInBounds_toArray, List.set_cons_zero, List.set_cons_succ, i64_w, i32_w]
                  rfl
                refine take_ (i := 0) (N := some 21) (v := ?_) (a' := ?_) #[true, true, true, true, false, false, false] rfl rfl (by kernel_rfl) (fun _ _ _ h => h) (Or.inl ⟨by rfl, ?_⟩) hHeld ?_ ?_
                rotate_left
                · rintro w' ⟨s0, s1, s2, s3, s4⟩
                  go_simp
                  with_reducible rfl
                rotate_left
                · simp only [Act.put, List.setIfInBounds_toArray, List.set_cons_zero, List.set_cons_succ, i64_w, i32_w]
                  rfl
                refine take_ (i := 4) (N := some 25) (v := ?_) (a' := ?_) #[true, true, true, true, true, false, false] rfl rfl (by kernel_rfl) (fun _ _ _ h => h) (Or.inl ⟨by rfl, ?_⟩) hHeld ?_ ?_
                rotate_left
                · rintro w' ⟨s0, s1, s2, s3, s4⟩
                  go_simp
                  with_reducible rfl
                rotate_left
                · simp only [Act.put, List.setIfInBounds_toArray, List.set_cons_zero, List.set_cons_succ, i64_w, i32_w]
                  rfl
                refine one_ (i := 5) (N := some 26) #[true, true, true, true, true, true, false] rfl rfl (by kernel_rfl) (by decide) (fun K hK => ?_)
                refine gfn Try.func68 #[.agg #[.int .u32 a0_0, .bool a0_1, .int .i64 a0_2, .slice A0_3 l0_3.length c0_3], .int .u32 (rd l1 x12_1)] ?_
                with_reducible refine (stolonref08_left.calls k1 a0_0 a0_1 a0_2 _ _ l0_3 (rd l1 x12_1) t114 _ ?side1 ?side2 A9.out).mono ?_
                (case side1 => exact ca (Kd.C_below HR0_3.out HB.out))
                (case side2 => exact HC0_3.out)
                rintro e w29 ⟨rfl, hb⟩
                refine ⟨_, rfl, ?_⟩
                have n0_ := Aside0.mk (Kd.R_below (rad HO_11.out) hb)
                have n1_ := Aside0.mk (blk_below (g := gb112) (o := .cells #[.int .u32 a0_0, .bool a0_1, .int .i64 a0_2, .slice A0_3 l0_3.length c0_3] 28 (0, 0)) (ba BK112.out) hb)
                have n2_ := Aside0.mk (below_step (bl HB) hb)
                clear HO_11
                clear BK112
                clear HB
                have HO_11 := n0_
                have BK112 := n1_
                have HB := n2_
                clear n0_ n1_ n2_
                (try clear hb)
                (try clear hb2)
                (try clear hk)
                (try clear hi)
                refine hK.out _ _ ⟨(blk_cell BK112.out 0).trans rfl, (blk_cell BK112.out 1).trans rfl, (blk_cell BK112.out 2).trans rfl, (blk_cell BK112.out 3).trans rfl, ((HB.out.cell (World.block_lt_of_cell? w _ hw113_0)).trans hw113_0)⟩ (fun hHeld => ?_)
                clear hK K
                refine nm ?_
                refine pure_ (i := 6) (N := some 13) (v := ?_) (a' := ?_) #[true, true, true, true, true, true, true] rfl rfl (by kernel_rfl) (fun _ _ _ h => h) (Or.inl ⟨by rfl, ?_⟩) ?_ ?_
                rotate_left
                · intro w'
                  go_simp
                  with_reducible rfl
                rotate_left
                · simp only [Act.put, List.setIfInBounds_toArray, List.set_cons_zero, List.set_cons_succ, i64_w, i32_w]
                  rfl
                refine done_ (by kernel_rfl) ?_
                have p125 : 0 ≤ (x12_1 : Int) := od
                have q125 : x12_1 < (l1.length : Int) := od
                obtain ⟨ad125, e125, hx125_0⟩ := Kd.at_int HR1.out x12_1 p125 q125
                obtain rfl : ad113 = ad125 := (by injection e125)
                replace hx125_0 := hcz HB hx125_0
                replace p125 := eq_true p125
                replace q125 := eq_true q125
                try go_wp2_with (first | ((with_reducible refine gate_callee (f := 18) rfl ?_); refine goesL_ (some 35) rfl rfl Try.func18 (by kernel_rfl) rfl #[.slice A3 l3.length c3, .int .u32 (rd l1 x12_1)] rfl (by (try simp only [List.map_toArray, List.map_cons, List.map_nil]); first | done | rfl | (simp only [List.length_drop, List.length_take]; rfl)) ?_; (with_reducible refine (stolonref06_Has.calls k1 _ _ l3 (rd l1 x12_1) false _ ?side1 ?side2 A21.out).mono ?_); (case side1 => exact ca (Kd.C_below HR3.out HB.out)); (case side2 => exact HC3.out); rintro e w' ⟨rfl, ⟨nd, rfl⟩⟩; refine ⟨_, rfl, ?_⟩; have p131 : 0 ≤ (x12_1 : Int) := od; have q131 : x12_1 < (l1.length : Int) := od; obtain ⟨ad131, e131, hx131_0⟩ := Kd.at_int HR1.out x12_1 p131 q131; obtain rfl : ad113 = ad131 := (by injection e131); replace hx131_0 := hcz HB hx131_0; replace p131 := eq_true p131; replace q131 := eq_true q131) | ((with_reducible refine gate_builtin (b := .append) (xs := #[.tmp 38, .tmp 45]) rfl ?_); at_builtin; refine Kd.R_append k49 (w0 := w) w.heap.size rfl (.tmp 38) (.tmp 45) 26 49 (.agg #[(.int .u32 0), (.int .i64 0)]) 16 rfl Try.underlying26 info49 rfl (by decide) (by omega) u11 x11_1 (⟨rd l1 x12_1, t114⟩ : S49) [.int .u32 (rd l1 x12_1), .int .i64 t114] (fun _ => True) (fun _ => False) rfl rfl ?aP (fun _ hk => hk.elim) ?aF ?aO ?aB ?aS ?aL ?_; (case aP => exact k49_mkM _ _ _ (⟨rd l1 x12_1, t114⟩ : S49)); (case aB => exact (bl HB)); (case aF => exact (fun _ _ => trivial)); (case aO => exact (rad HO_11.out)); (case aS => exact (below_size (bl HB))); (case aL => have := LMc27.out; omega); intro v133 w30 ho hb hg hat; rw [← Ny132.out] at ho; have n0_ := Aside0.mk (blk_grown (g := gb112) (o := .cells #[.int .u32 a0_0, .bool a0_1, .int .i64 a0_2, .slice A0_3 l0_3.length c0_3] 28 (0, 0)) (ba BK112.out) hg (Kd.R_ne HO_11.out BK112.out (by decide))); have n1_ := Aside0.mk (hb); have n2_ := Aside0.mk (ho); clear BK112; clear HB; clear HO_11; have BK112 := n0_; have HB := n1_; have HO134 := n2_; clear n0_ n1_ n2_; clear ho hb hg hat))
                go_roundg k1
                case measure => have := HK1.out; omega
                case rel => exact ⟨(y132), (wrap64 (x12_1 + 1)), (fr), H', ⟨by have := HK1.out; omega⟩, ⟨rad HO134.out⟩, ⟨ba BK112.out⟩, ⟨bl HB⟩⟩
              · rw [if_neg c27] at H
                exact absurd H (by simp)
        · rw [if_neg c8] at H
          exact absurd H (by simp)
      · rw [if_neg c7] at H
        have c7b0 : decide (x12_1 < (l1.length : Int)) = false := decide_eq_false c7
        clear c7
        obtain rfl := Option.some.inj H
        go_wp2
        go_ret
        exact ⟨_, by first | rfl | (simp [errW_none, errW_some] <;> rfl) | (simp [*, errW_none, errW_some] <;> rfl), rad HO_11.out, bl HB⟩

/-! ### stolonref08_sets: function 46 -/
def stolonref08_sets.l0 : Nat → List Int → List Int → Int → Int → Bool → Int → List (S49) → Option (List Int × List Int)
  | 0, _, _, _, _, _, _, _ => none
  | k + 1, x4, x5, x6, x136000, x136001, x136002, x136003 => if x6 < (x136003.length : Int) then (if 0 ≤ x6 then (if ((rd_T49 x136003 x6).f1) > 0 then (if x4.length < 35184372088832 then (stolonref08_sets.l0 k (x4 ++ [(rd_T49 x136003 x6).f0]) x5 (wrap64 (x6 + 1)) x136000 x136001 x136002 x136003) else (none)) else (if x5.length < 35184372088832 then (stolonref08_sets.l0 k x4 (x5 ++ [(rd_T49 x136003 x6).f0]) (wrap64 (x6 + 1)) x136000 x136001 x136002 x136003) else (none))) else (none)) else (some (x4, x5))
def stolonref08_sets.f (k : Nat) (a0_0 : Int) (a0_1 : Bool) (a0_2 : Int) (l0_3 : List (S49)) : Option (List Int × List Int) := stolonref08_sets.l0 k ([] : List Int) ([] : List Int) 0 a0_0 a0_1 a0_2 l0_3
theorem stolonref08_sets.mono_l : ∀ k, (∀ y0 y1 y2 y3 y4 y5 y6, LeO (stolonref08_sets.l0 k y0 y1 y2 y3 y4 y5 y6) (stolonref08_sets.l0 (k + 1) y0 y1 y2 y3 y4 y5 y6))
  | 0 => fun _ _ _ _ _ _ _ r h => by simp [stolonref08_sets.l0] at h
  | k + 1 => by
    have ih0 := stolonref08_sets.mono_l k
    · intro y0 y1 y2 y3 y4 y5 y6
      unfold stolonref08_sets.l0
      repeat' first
      | (with_reducible exact ih0 _ _ _ _ _ _ _)
      | (with_reducible exact LeO.refl _)
      | (with_reducible exact LeO.none _)
      | (with_reducible refine LeO.ite ?_ ?_)
      | (with_reducible refine LeO.bind ?_ (fun _ => ?_))
      | exact ih0 _ _ _ _ _ _ _
      | exact LeO.none _
      | refine LeO.ite ?_ ?_
      | refine LeO.bind ?_ (fun _ => ?_)
theorem stolonref08_sets.mono : ∀ a0 a1 a2 a3 k, LeO (stolonref08_sets.f k a0 a1 a2 a3) (stolonref08_sets.f (k + 1) a0 a1 a2 a3) := by
  intro a0 a1 a2 a3 k
  have ih0 := stolonref08_sets.mono_l k
  unfold stolonref08_sets.f
  repeat' first
      | (with_reducible exact ih0 _ _ _ _ _ _ _)
      | (with_reducible exact LeO.refl _)
      | (with_reducible exact LeO.none _)
      | (with_reducible refine LeO.ite ?_ ?_)
      | (with_reducible refine LeO.bind ?_ (fun _ => ?_))
      | exact ih0 _ _ _ _ _ _ _
      | exact LeO.none _
      | refine LeO.ite ?_ ?_
      | refine LeO.bind ?_ (fun _ => ?_)
set_option maxHeartbeats 8000000 in
set_option maxRecDepth 100000 in
theorem stolonref08_sets.calls (k : Nat) (a0_0 : Int) (a0_1 : Bool) (a0_2 : Int) (A0_3 : Option Addr) (c0_3 : Nat) (l0_3 : List (S49)) (r1 : List Int) (r2 : List Int) (w : World) (hr0_3 : Kd.C k49 w A0_3 l0_3.length l0_3) (hc0_3 : l0_3.length ≤ c0_3) (h : stolonref08_sets.f k a0_0 a0_1 a0_2 l0_3 = some (r1, r2)) :
    Calls Try.prog 46 #[.agg #[.int .u32 a0_0, .bool a0_1, .int .i64 a0_2, .slice A0_3 l0_3.length c0_3]] w fun e w' => ∃ v0_ v1_ : Value, e = .returned (.tuple #[v0_, v1_]) ∧ Kd.R (Kd.int .u32) 25 w' w.heap.size (fun k_ => some k_ ≠ (v1_ : Value).ownBlock) v0_ r1 ∧ Kd.R (Kd.int .u32) 25 w' w.heap.size (fun k_ => some k_ ≠ (v0_ : Value).ownBlock) v1_ r2 ∧ Below w.heap.size w w' := by
  have hu28 := Try.underlying28
  have HR0_3 := Aside0.mk hr0_3
  have HC0_3 := Aside0.mk hc0_3
  clear hr0_3 hc0_3
  have HB := Aside0.mk (Below.refl w.heap.size w)
  have H : (stolonref08_sets.l0 k ([] : List Int) ([] : List Int) 0 a0_0 a0_1 a0_2 l0_3) = some (r1, r2) := h
  clear h
  have H' := Aside0.mk H
  clear H
  go_enter Try.func46, Try.ntmps46
  go_wp2_with (first | ((with_reducible refine gate_dst (N := 1) rfl ?_); refine bxn (cs := #[.int .u32 a0_0, .bool a0_1, .int .i64 a0_2, .slice A0_3 l0_3.length c0_3]) (t := 28) ?_; intro gb135 hg w2 hbox hb; have BK135 := Aside0.mk (hbox); have GW135 := Aside0.mk ((by rw [hg]; exact (below_size (bl HB)) : w.heap.size ≤ gb135)); have GE135 := Aside0.mk ((by rw [hg]; exact (below_size (bl HB)) : w.heap.size ≤ gb135)); replace HB := Aside0.mk (below_step (bl HB) hb); clear hb hbox hg))
  go_loopg [4, 5, 6] k (fun kq v4 v5 v6 w' => ∃ (x4_1 : List Int) (x5_1 : List Int) (x6_1 : Int), v6 = .int .i64 x6_1 ∧ Aside0 (stolonref08_sets.l0 kq x4_1 x5_1 x6_1 a0_0 a0_1 a0_2 l0_3 = some (r1, r2)) ∧ Aside0 (kq ≤ k) ∧ Aside0 (Kd.R (Kd.int .u32) 25 w' w.heap.size (fun k_ => some k_ ≠ (v5 : Value).ownBlock) v4 x4_1) ∧ Aside0 (Kd.R (Kd.int .u32) 25 w' w.heap.size (fun k_ => some k_ ≠ (v4 : Value).ownBlock) v5 x5_1) ∧ Aside0 (w'.heap[gb135]? = some (.cells #[.int .u32 a0_0, .bool a0_1, .int .i64 a0_2, (.slice A0_3 l0_3.length c0_3)] 28 (0, 0))) ∧ Aside0 (Below w.heap.size w w'))
  case atStart => exact ⟨(([] : List Int)), (([] : List Int)), (0), (fr), H', ⟨Nat.le_refl _⟩, ⟨nl⟩, ⟨nl⟩, ⟨ba BK135.out⟩, ⟨bl HB⟩⟩
  case round =>
    clear H'
    try clear p2
    obtain ⟨x4_1, x5_1, x6_1, rfl, HA, HK1, HO_4, HO_5, BK135, HB⟩ := hrel
    cases gk with
    | zero => exact absurd HA.out (by simp [stolonref08_sets.l0])
    | succ k1 =>
      have H := HA.out
      clear HA
      simp only [stolonref08_sets.l0] at H
      by_cases c3 : x6_1 < (l0_3.length : Int)
      · rw [if_pos c3] at H
        have c3b0 : decide (x6_1 < (l0_3.length : Int)) = true := decide_eq_true c3
        clear c3
        by_cases c4 : 0 ≤ x6_1
        · rw [if_pos c4] at H
          have c4b0 : decide (0 ≤ x6_1) = true := decide_eq_true c4
          clear c4
          by_cases c5 : ((rd_T49 l0_3 x6_1).f1) > 0
          · rw [if_pos c5] at H
            have c5b0 : decide (0 < ((rd_T49 l0_3 x6_1).f1)) = true := decide_eq_true c5
            clear c5
            by_cases c6 : x4_1.length < 35184372088832
            · rw [if_pos c6] at H
              have LMc6 := Aside0.mk c6
              clear c6
              obtain ⟨y138, hy138⟩ : ∃ y_ : List Int, y_ = (x4_1 ++ [(rd_T49 l0_3 x6_1).f0]) := ⟨_, rfl⟩
              replace H : (stolonref08_sets.l0 k1 y138 x5_1 (wrap64 (x6_1 + 1)) a0_0 a0_1 a0_2 l0_3) = some (r1, r2) := by first | (rw [hy138]; with_reducible exact H) | (have H2_ := (Option.bind_some _ _).symm.trans H; rw [hy138]; with_reducible exact H2_) | (have H2_ := (Option.bind_some _ _).symm.trans H; with_reducible exact H2_) | with_reducible exact H | (rw [hy138]; exact H) | exact H
              have Ny138 := Aside0.mk hy138
              clear hy138
              have H' := Aside0.mk H
              clear H
              obtain ⟨hcz7_0, hcz7_1, hcz7_2, hcz7_3, hfz7_0, hfz7_1, hfz7_2, hfz7_3⟩ := cf4 BK135.out
              have p136 : 0 ≤ (x6_1 : Int) := od
              have q136 : x6_1 < (l0_3.length : Int) := od
              obtain ⟨ad136, e136, hx136_0, hx136_1⟩ := at_T49 HR0_3.out x6_1 p136 q136
              cases e136
              replace hx136_0 := hcz HB hx136_0
              replace hx136_1 := hcz HB hx136_1
              replace p136 := eq_true p136
              replace q136 := eq_true q136
              have p137 : 0 ≤ (x6_1 : Int) := od
              have q137 : x6_1 < (l0_3.length : Int) := od
              obtain ⟨ad137, e137, hx137_0, hx137_1⟩ := at_T49 HR0_3.out x6_1 p137 q137
              obtain rfl : ad136 = ad137 := (by injection e137)
              replace hx137_0 := hcz HB hx137_0
              replace hx137_1 := hcz HB hx137_1
              replace p137 := eq_true p137
              replace q137 := eq_true q137
              go_wp2_with (first | ((with_reducible refine gate_builtin (b := .append) (xs := #[.tmp 21, .tmp 28]) rfl ?_); at_builtin; refine Kd.R_append (Kd.int .u32) (w0 := w) w.heap.size rfl (.tmp 21) (.tmp 28) 29 25 (.int .u32 0) 4 rfl Try.underlying29 info25 rfl (by decide) (by omega) u4 x4_1 ((rd_T49 l0_3 x6_1).f0) [.int .u32 ((rd_T49 l0_3 x6_1).f0)] (fun k_ => some k_ ≠ (u5 : Value).ownBlock) (fun _ => False) rfl rfl ?aP (fun _ hk => hk.elim) ?aF ?aO ?aB ?aS ?aL ?_; (case aP => exact rfl); (case aB => exact (bl HB)); (case aF => exact (fun k_ hk => Kd.fresh' (Kd.R_lt (rad HO_5.out)) k_ hk)); (case aO => exact (rad HO_4.out)); (case aS => exact (below_size (bl HB))); (case aL => have := LMc6.out; omega); intro v139 w8 ho hb hg hat; rw [← Ny138.out] at ho; have n0_ := Aside0.mk (Kd.R_after (ok := (fun _ => True)) (by refine rad ?_; exact Kd.R_mono HO_5.out (fun _ hk => ⟨trivial, hk⟩)) hg hat); have n1_ := Aside0.mk (blk_grown (g := gb135) (o := .cells #[.int .u32 a0_0, .bool a0_1, .int .i64 a0_2, .slice (some ad136) l0_3.length c0_3] 28 (0, 0)) (ba BK135.out) hg (Kd.R_ne HO_4.out BK135.out (by decide))); have n2_ := Aside0.mk (hb); have n3_ := Aside0.mk (ho); clear HO_5; clear BK135; clear HB; clear HO_4; have HO_5 := n0_; have BK135 := n1_; have HB := n2_; have HO140 := n3_; clear n0_ n1_ n2_ n3_; clear ho hb hg hat))
              go_roundg k1
              case measure => have := HK1.out; omega
              case rel => exact ⟨(y138), (x5_1), (wrap64 (x6_1 + 1)), (fr), H', ⟨by have := HK1.out; omega⟩, ⟨rad HO140.out⟩, ⟨by refine rad ?_; exact Kd.R_mono HO_5.out (fun _ hk => hk.2)⟩, ⟨ba BK135.out⟩, ⟨bl HB⟩⟩
            · rw [if_neg c6] at H
              exact absurd H (by simp)
          · rw [if_neg c5] at H
            have c5b0 : decide (0 < ((rd_T49 l0_3 x6_1).f1)) = false := decide_eq_false c5
            clear c5
            by_cases c9 : x5_1.length < 35184372088832
            · rw [if_pos c9] at H
              have LMc9 := Aside0.mk c9
              clear c9
              obtain ⟨y142, hy142⟩ : ∃ y_ : List Int, y_ = (x5_1 ++ [(rd_T49 l0_3 x6_1).f0]) := ⟨_, rfl⟩
              replace H : (stolonref08_sets.l0 k1 x4_1 y142 (wrap64 (x6_1 + 1)) a0_0 a0_1 a0_2 l0_3) = some (r1, r2) := by first | (rw [hy142]; with_reducible exact H) | (have H2_ := (Option.bind_some _ _).symm.trans H; rw [hy142]; with_reducible exact H2_) | (have H2_ := (Option.bind_some _ _).symm.trans H; with_reducible exact H2_) | with_reducible exact H | (rw [hy142]; exact H) | exact H
              have Ny142 := Aside0.mk hy142
              clear hy142
              have H' := Aside0.mk H
              clear H
              obtain ⟨hcz10_0, hcz10_1, hcz10_2, hcz10_3, hfz10_0, hfz10_1, hfz10_2, hfz10_3⟩ := cf4 BK135.out
              have p136 : 0 ≤ (x6_1 : Int) := od
              have q136 : x6_1 < (l0_3.length : Int) := od
              obtain ⟨ad136, e136, hx136_0, hx136_1⟩ := at_T49 HR0_3.out x6_1 p136 q136
              cases e136
              replace hx136_0 := hcz HB hx136_0
              replace hx136_1 := hcz HB hx136_1
              replace p136 := eq_true p136
              replace q136 := eq_true q136
              have p141 : 0 ≤ (x6_1 : Int) := od
              have q141 : x6_1 < (l0_3.length : Int) := od
              obtain ⟨ad141, e141, hx141_0, hx141_1⟩ := at_T49 HR0_3.out x6_1 p141 q141
              obtain rfl : ad136 = ad141 := (by injection e141)
              replace hx141_0 := hcz HB hx141_0
              replace hx141_1 := hcz HB hx141_1
              replace p141 := eq_true p141
              replace q141 := eq_true q141
              go_wp2_with (first | ((with_reducible refine gate_builtin (b := .append) (xs := #[.tmp 30, .tmp 37]) rfl ?_); at_builtin; refine Kd.R_append (Kd.int .u32) (w0 := w) w.heap.size rfl (.tmp 30) (.tmp 37) 29 25 (.int .u32 0) 4 rfl Try.underlying29 info25 rfl (by decide) (by omega) u5 x5_1 ((rd_T49 l0_3 x6_1).f0) [.int .u32 ((rd_T49 l0_3 x6_1).f0)] (fun k_ => some k_ ≠ (u4 : Value).ownBlock) (fun _ => False) rfl rfl ?aP (fun _ hk => hk.elim) ?aF ?aO ?aB ?aS ?aL ?_; (case aP => exact rfl); (case aB => exact (bl HB)); (case aF => exact (fun k_ hk => Kd.fresh' (Kd.R_lt (rad HO_4.out)) k_ hk)); (case aO => exact (rad HO_5.out)); (case aS => exact (below_size (bl HB))); (case aL => have := LMc9.out; omega); intro v143 w11 ho hb hg hat; rw [← Ny142.out] at ho; have n0_ := Aside0.mk (Kd.R_after (ok := (fun _ => True)) (by refine rad ?_; exact Kd.R_mono HO_4.out (fun _ hk => ⟨trivial, hk⟩)) hg hat); have n1_ := Aside0.mk (blk_grown (g := gb135) (o := .cells #[.int .u32 a0_0, .bool a0_1, .int .i64 a0_2, .slice (some ad136) l0_3.length c0_3] 28 (0, 0)) (ba BK135.out) hg (Kd.R_ne HO_5.out BK135.out (by decide))); have n2_ := Aside0.mk (hb); have n3_ := Aside0.mk (ho); clear HO_4; clear BK135; clear HB; clear HO_5; have HO_4 := n0_; have BK135 := n1_; have HB := n2_; have HO144 := n3_; clear n0_ n1_ n2_ n3_; clear ho hb hg hat))
              go_roundg k1
              case measure => have := HK1.out; omega
              case rel => exact ⟨(x4_1), (y142), (wrap64 (x6_1 + 1)), (fr), H', ⟨by have := HK1.out; omega⟩, ⟨by refine rad ?_; exact Kd.R_mono HO_4.out (fun _ hk => hk.2)⟩, ⟨rad HO144.out⟩, ⟨ba BK135.out⟩, ⟨bl HB⟩⟩
            · rw [if_neg c9] at H
              exact absurd H (by simp)
        · rw [if_neg c4] at H
          exact absurd H (by simp)
      · rw [if_neg c3] at H
        have c3b0 : decide (x6_1 < (l0_3.length : Int)) = false := decide_eq_false c3
        clear c3
        simp only [Option.some.injEq, Prod.mk.injEq] at H
        obtain ⟨rfl, rfl⟩ := H
        obtain ⟨hcz12_0, hcz12_1, hcz12_2, hcz12_3, hfz12_0, hfz12_1, hfz12_2, hfz12_3⟩ := cf4 BK135.out
        go_wp2
        go_ret2
        exact ⟨_, _, by first | rfl | (simp [errW_none, errW_some] <;> rfl) | (simp [*, errW_none, errW_some] <;> rfl), rad HO_4.out, rad HO_5.out, bl HB⟩

end Go.Proofs.Ytbllchfgjginoaa.PMe
