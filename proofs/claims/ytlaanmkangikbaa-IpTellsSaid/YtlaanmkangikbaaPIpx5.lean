-- written by a program of this session (hprint.py), over the kit's printer
import Derived.Test.YtlaanmkangikbaaPIpx0
import Derived.Test.YtlaanmkangikbaaPIpx2
namespace Go.Proofs.Ytlaanmkangikbaa.PIp
open Go.RowKit Go.Proofs.YtlaanmkangikbaaW.PrintWords Go.Proofs.YtlaanmkangikbaaW.PrintLast Go.Proofs.YtlaanmkangikbaaW.PrintMore
attribute [local go_sem] max2_int min2_int max_two min_two max_three min_three max_four min_four   -- for this text's walks alone
set_option linter.unusedVariables false
set_option linter.unusedSimpArgs false

/-! ### ip_read: function 21 -/
def ip_read.f (k : Nat) (l0 : List Int) : Option (Int × Int × Int × Int × Int × Bool × Int) := if 9 < (l0.length : Int) then (if 8 < (l0.length : Int) then (if 4 < (l0.length : Int) then (if 5 < (l0.length : Int) then (if 0 < (l0.length : Int) then (if 12 ≤ 16 then (if 16 ≤ (l0.length : Int) then ((addr_Of.f k ((l0.take 16).drop 12)).bind fun bt165 => (if 16 ≤ 20 then (if 20 ≤ (l0.length : Int) then ((addr_Of.f k ((l0.take 20).drop 16)).bind fun bt168 => (if 2 < (l0.length : Int) then (if 3 < (l0.length : Int) then (some (bt165.1, bt168.1, rd l0 9, rd l0 8, Go.bits .or .u16 (IntKind.u16.wrap ((IntKind.u16.wrap (rd l0 4)) * 256)) (IntKind.u16.wrap (rd l0 5)), ((rd l0 0) == 70), Go.bits .or .i64 (wrap64 ((wrap64 (rd l0 2)) * 256)) (wrap64 (rd l0 3)))) else (none)) else (none))) else (none)) else (none))) else (none)) else (none)) else (none)) else (none)) else (none)) else (none)) else (none)
def ip_read.T1 : Bool × List (List Nat × List Nat) := (true, [([], []), ([0], [0]), ([1], [1]), ([], []), ([3], [3]), ([4], [4]), ([], []), ([6], [6]), ([7], [7]), ([8], [8]), ([9], [9]), ([], []), ([11], [11]), ([12], [12]), ([13], [13]), ([10, 14], [10, 14]), ([], []), ([16], [16]), ([17], [17]), ([18], [18]), ([2, 5, 15, 19], [2, 5, 15, 19]), ([], []), ([21, 20, 0, 1, 2, 3, 4, 5, 6, 7, 8, 9, 10, 11, 12, 13, 14, 15, 16, 17, 18, 19, 20, 21], [20, 21])])
def ip_read.B1 : List Nat := [0, 1, 3, 0, 8, 24, 0, 64, 192, 448, 960, 0, 2048, 6144, 14336, 32704, 0, 65536, 196608, 458752, 1048575, 0, 4194303]
theorem ip_read.tab1 : rtab .any (opsOf Try.f21 1) = ip_read.T1 := by kernel_rfl
theorem ip_read.bits1 : waitsOk ip_read.T1.2 ip_read.B1 = true := by kernel_rfl
def ip_read.T4 : Bool × List (List Nat × List Nat) := (true, [([], []), ([], []), ([1], [1]), ([2], [2]), ([3], [3]), ([4], [4]), ([], []), ([6], [6]), ([7], [7]), ([8], [8]), ([5, 9], [5, 9]), ([0, 0], [0]), ([10, 11, 0, 1, 2, 3, 4, 5, 6, 7, 8, 9, 10, 11], [10])])
def ip_read.B4 : List Nat := [0, 0, 2, 6, 14, 30, 0, 64, 192, 448, 1022, 1, 4095]
theorem ip_read.tab4 : rtab .any (opsOf Try.f21 4) = ip_read.T4 := by kernel_rfl
theorem ip_read.bits4 : waitsOk ip_read.T4.2 ip_read.B4 = true := by kernel_rfl
set_option maxHeartbeats 8000000 in
set_option maxRecDepth 100000 in
theorem ip_read.calls (k : Nat) (A0 : Option Addr) (c0 : Nat) (l0 : List Int) (r1 : Int) (r2 : Int) (r3 : Int) (r4 : Int) (r5 : Int) (r6 : Bool) (r7 : Int) (w : World) (hr0 : Kd.C (Kd.int .u8) w A0 l0.length l0) (hc0 : l0.length ≤ c0) (h : ip_read.f k l0 = some (r1, r2, r3, r4, r5, r6, r7)) :
 Calls Try.prog 21 #[.slice A0 l0.length c0] w fun e w' => e = .returned (.tuple #[.agg #[.int .u32 r1, .int .u32 r2, .int .u8 r3, .int .u8 r4, .int .u16 r5, .bool r6], .int .i64 r7]) ∧ Below w.heap.size w w' := by
 have hu26 := Try.underlying26
 have HR0 := Aside0.mk hr0
 have HC0 := Aside0.mk hc0
 clear hr0 hc0
 have HB := Aside0.mk (Below.refl w.heap.size w)
 have H : (if 9 < (l0.length : Int) then (if 8 < (l0.length : Int) then (if 4 < (l0.length : Int) then (if 5 < (l0.length : Int) then (if 0 < (l0.length : Int) then (if 12 ≤ 16 then (if 16 ≤ (l0.length : Int) then ((addr_Of.f k ((l0.take 16).drop 12)).bind fun bt165 => (if 16 ≤ 20 then (if 20 ≤ (l0.length : Int) then ((addr_Of.f k ((l0.take 20).drop 16)).bind fun bt168 => (if 2 < (l0.length : Int) then (if 3 < (l0.length : Int) then (some (bt165.1, bt168.1, rd l0 9, rd l0 8, Go.bits .or .u16 (IntKind.u16.wrap ((IntKind.u16.wrap (rd l0 4)) * 256)) (IntKind.u16.wrap (rd l0 5)), ((rd l0 0) == 70), Go.bits .or .i64 (wrap64 ((wrap64 (rd l0 2)) * 256)) (wrap64 (rd l0 3)))) else (none)) else (none))) else (none)) else (none))) else (none)) else (none)) else (none)) else (none)) else (none)) else (none)) else (none)) = some (r1, r2, r3, r4, r5, r6, r7) := h
 clear h
 by_cases c2 : 9 < (l0.length : Int)
 case neg => rw [if_neg c2] at H; exact absurd H (by simp)
 rw [if_pos c2] at H
 have c2b0 : decide (9 < (l0.length : Int)) = true := decide_eq_true c2
 have c2b1 : decide (9 < l0.length) = true := decide_eq_true (by omega)
 clear c2
 by_cases c3 : 8 < (l0.length : Int)
 case neg => rw [if_neg c3] at H; exact absurd H (by simp)
 rw [if_pos c3] at H
 have c3b0 : decide (8 < (l0.length : Int)) = true := decide_eq_true c3
 have c3b1 : decide (8 < l0.length) = true := decide_eq_true (by omega)
 clear c3
 by_cases c4 : 4 < (l0.length : Int)
 case neg => rw [if_neg c4] at H; exact absurd H (by simp)
 rw [if_pos c4] at H
 have c4b0 : decide (4 < (l0.length : Int)) = true := decide_eq_true c4
 have c4b1 : decide (4 < l0.length) = true := decide_eq_true (by omega)
 clear c4
 by_cases c5 : 5 < (l0.length : Int)
 case neg => rw [if_neg c5] at H; exact absurd H (by simp)
 rw [if_pos c5] at H
 have c5b0 : decide (5 < (l0.length : Int)) = true := decide_eq_true c5
 have c5b1 : decide (5 < l0.length) = true := decide_eq_true (by omega)
 clear c5
 by_cases c6 : 0 < (l0.length : Int)
 case neg => rw [if_neg c6] at H; exact absurd H (by simp)
 rw [if_pos c6] at H
 have c6b0 : decide (0 < (l0.length : Int)) = true := decide_eq_true c6
 have c6b1 : decide (0 < l0.length) = true := decide_eq_true (by omega)
 clear c6
 by_cases c7 : 12 ≤ 16
 case neg => rw [if_neg c7] at H; exact absurd H (by simp)
 rw [if_pos c7] at H
 have c7b0 := eq_true c7
 have c7b1 : decide (12 ≤ 16) = true := decide_eq_true c7
 clear c7
 by_cases c8 : 16 ≤ (l0.length : Int)
 case neg => rw [if_neg c8] at H; exact absurd H (by simp)
 rw [if_pos c8] at H
 have c8b0 := eq_true c8
 have c8b1 : decide (16 ≤ (l0.length : Int)) = true := decide_eq_true c8
 clear c8
 replace H := Option.bind_eq_some_iff.mp H
 obtain ⟨⟨t165, t166⟩, A90, H⟩ := H
 replace H : (if 16 ≤ 20 then (if 20 ≤ (l0.length : Int) then ((addr_Of.f k ((l0.take 20).drop 16)).bind fun bt168 => (if 2 < (l0.length : Int) then (if 3 < (l0.length : Int) then (some (t165, bt168.1, rd l0 9, rd l0 8, Go.bits .or .u16 (IntKind.u16.wrap ((IntKind.u16.wrap (rd l0 4)) * 256)) (IntKind.u16.wrap (rd l0 5)), ((rd l0 0) == 70), Go.bits .or .i64 (wrap64 ((wrap64 (rd l0 2)) * 256)) (wrap64 (rd l0 3)))) else (none)) else (none))) else (none)) else (none)) = some (r1, r2, r3, r4, r5, r6, r7) := H
 have A9 := Aside0.mk A90
 clear A90
 by_cases c10 : 16 ≤ 20
 case neg => rw [if_neg c10] at H; exact absurd H (by simp)
 rw [if_pos c10] at H
 have c10b0 := eq_true c10
 have c10b1 : decide (16 ≤ 20) = true := decide_eq_true c10
 clear c10
 by_cases c11 : 20 ≤ (l0.length : Int)
 case neg => rw [if_neg c11] at H; exact absurd H (by simp)
 rw [if_pos c11] at H
 have c11b0 := eq_true c11
 have c11b1 : decide (20 ≤ (l0.length : Int)) = true := decide_eq_true c11
 clear c11
 replace H := Option.bind_eq_some_iff.mp H
 obtain ⟨⟨t168, t169⟩, A120, H⟩ := H
 replace H : (if 2 < (l0.length : Int) then (if 3 < (l0.length : Int) then (some (t165, t168, rd l0 9, rd l0 8, Go.bits .or .u16 (IntKind.u16.wrap ((IntKind.u16.wrap (rd l0 4)) * 256)) (IntKind.u16.wrap (rd l0 5)), ((rd l0 0) == 70), Go.bits .or .i64 (wrap64 ((wrap64 (rd l0 2)) * 256)) (wrap64 (rd l0 3)))) else (none)) else (none)) = some (r1, r2, r3, r4, r5, r6, r7) := H
 have A12 := Aside0.mk A120
 clear A120
 by_cases c13 : 2 < (l0.length : Int)
 case neg => rw [if_neg c13] at H; exact absurd H (by simp)
 rw [if_pos c13] at H
 have c13b0 : decide (2 < (l0.length : Int)) = true := decide_eq_true c13
 have c13b1 : decide (2 < l0.length) = true := decide_eq_true (by omega)
 clear c13
 by_cases c14 : 3 < (l0.length : Int)
 case neg => rw [if_neg c14] at H; exact absurd H (by simp)
 rw [if_pos c14] at H
 have c14b0 : decide (3 < (l0.length : Int)) = true := decide_eq_true c14
 have c14b1 : decide (3 < l0.length) = true := decide_eq_true (by omega)
 clear c14
 simp only [Option.some.injEq, Prod.mk.injEq] at H
 obtain ⟨rfl, rfl, rfl, rfl, rfl, rfl, rfl⟩ := H
 go_enter Try.func21, Try.ntmps21
 try go_wp2_with (first | ((with_reducible refine gate_dst (N := 2) rfl ?_); refine box_event ?hg (N := 2) ?hd (cs := #[.int .u32 0, .int .u32 0, .int .u8 0, .int .u8 0, .int .u16 0, .bool false]) (t := 26) ?hr ?_; (case hd => rfl); (case hg => rfl); (case hr => first | (go_simp; done) | (go_simp; rfl)); intro gb157 hg w15 hbox hb; have n0_ := Aside0.mk (below_step (by repeat (first | (with_reducible first | exact HB.out | apply below_alloc | apply pw_below_drewN | apply below_drew1) | exact HB.out)) hb); have n1_ := Aside0.mk (hbox); have n2_ := Aside0.mk ((by rw [hg]; exact (below_size (by repeat (first | (with_reducible first | exact HB.out | apply below_alloc | apply pw_below_drewN | apply below_drew1) | exact HB.out))) : w.heap.size ≤ gb157)); have n3_ := Aside0.mk ((by rw [hg]; exact (below_size (by repeat (first | (with_reducible first | exact HB.out | apply below_alloc | apply pw_below_drewN | apply below_drew1) | exact HB.out))) : w.heap.size ≤ gb157)); clear HB; have HB := n0_; have BK157 := n1_; have GW157 := n2_; have GE157 := n3_; clear n0_ n1_ n2_ n3_; clear hb hbox hg))
 have n0_ := Aside0.mk (blk_drew BK157.out)
 have n1_ := Aside0.mk (below_drew1 HB.out)
 clear BK157
 clear HB
 have BK157 := n0_
 have HB := n1_
 clear n0_ n1_
 have p158 : 0 ≤ (9 : Int) := (by omega)
 have q158 : 9 < (l0.length : Int) := of_decide_eq_true (by first | (with_reducible assumption) | assumption)
 obtain ⟨ad158, e158, hx158_0⟩ := Kd.at_int HR0.out 9 p158 q158
 have hw158_0 := hx158_0
 (try rw [show ((9 : Int)).toNat = 9 from rfl] at hw158_0)
 (try rw [show 9 * 1 = 9 from rfl] at hw158_0)
 (try simp only [Nat.reduceMul, Nat.reduceEqDiff, Go.Addr.add, ↓reduceIte] at hw158_0)
 cases e158
 (try simp only [show (9 : Int).toNat = 9 from rfl, Nat.reduceMul, Nat.reduceEqDiff, Go.Addr.add, ↓reduceIte] at hx158_0)
 have qi158 : (9 < l0.length) = True := eq_true (by omega)
 (try rw [show ((9 : Int)).toNat = 9 from rfl] at hx158_0)
 replace hx158_0 := (HB.out.cell (World.block_lt_of_cell? w _ hx158_0)).trans hx158_0
 replace p158 := eq_true p158
 replace q158 := eq_true q158
 have p159 : 0 ≤ (8 : Int) := (by omega)
 have q159 : 8 < (l0.length : Int) := of_decide_eq_true (by first | (with_reducible assumption) | assumption)
 obtain ⟨ad159, e159, hx159_0⟩ := Kd.at_int HR0.out 8 p159 q159
 have hw159_0 := hx159_0
 (try rw [show ((8 : Int)).toNat = 8 from rfl] at hw159_0)
 (try rw [show 8 * 1 = 8 from rfl] at hw159_0)
 (try simp only [Nat.reduceMul, Nat.reduceEqDiff, Go.Addr.add, ↓reduceIte] at hw159_0)
 obtain rfl : ad158 = ad159 := (by injection e159)
 (try simp only [show (8 : Int).toNat = 8 from rfl, Nat.reduceMul, Nat.reduceEqDiff, Go.Addr.add, ↓reduceIte] at hx159_0)
 have qi159 : (8 < l0.length) = True := eq_true (by omega)
 (try rw [show ((8 : Int)).toNat = 8 from rfl] at hx159_0)
 replace hx159_0 := (HB.out.cell (World.block_lt_of_cell? w _ hx159_0)).trans hx159_0
 replace p159 := eq_true p159
 replace q159 := eq_true q159
 have p160 : 0 ≤ (4 : Int) := (by omega)
 have q160 : 4 < (l0.length : Int) := of_decide_eq_true (by first | (with_reducible assumption) | assumption)
 obtain ⟨ad160, e160, hx160_0⟩ := Kd.at_int HR0.out 4 p160 q160
 have hw160_0 := hx160_0
 (try rw [show ((4 : Int)).toNat = 4 from rfl] at hw160_0)
 (try rw [show 4 * 1 = 4 from rfl] at hw160_0)
 (try simp only [Nat.reduceMul, Nat.reduceEqDiff, Go.Addr.add, ↓reduceIte] at hw160_0)
 obtain rfl : ad158 = ad160 := (by injection e160)
 (try simp only [show (4 : Int).toNat = 4 from rfl, Nat.reduceMul, Nat.reduceEqDiff, Go.Addr.add, ↓reduceIte] at hx160_0)
 have qi160 : (4 < l0.length) = True := eq_true (by omega)
 (try rw [show ((4 : Int)).toNat = 4 from rfl] at hx160_0)
 replace hx160_0 := (HB.out.cell (World.block_lt_of_cell? w _ hx160_0)).trans hx160_0
 replace p160 := eq_true p160
 replace q160 := eq_true q160
 have p161 : 0 ≤ (5 : Int) := (by omega)
 have q161 : 5 < (l0.length : Int) := of_decide_eq_true (by first | (with_reducible assumption) | assumption)
 obtain ⟨ad161, e161, hx161_0⟩ := Kd.at_int HR0.out 5 p161 q161
 have hw161_0 := hx161_0
 (try rw [show ((5 : Int)).toNat = 5 from rfl] at hw161_0)
 (try rw [show 5 * 1 = 5 from rfl] at hw161_0)
 (try simp only [Nat.reduceMul, Nat.reduceEqDiff, Go.Addr.add, ↓reduceIte] at hw161_0)
 obtain rfl : ad158 = ad161 := (by injection e161)
 (try simp only [show (5 : Int).toNat = 5 from rfl, Nat.reduceMul, Nat.reduceEqDiff, Go.Addr.add, ↓reduceIte] at hx161_0)
 have qi161 : (5 < l0.length) = True := eq_true (by omega)
 (try rw [show ((5 : Int)).toNat = 5 from rfl] at hx161_0)
 replace hx161_0 := (HB.out.cell (World.block_lt_of_cell? w _ hx161_0)).trans hx161_0
 replace p161 := eq_true p161
 replace q161 := eq_true q161
 have p162 : 0 ≤ (0 : Int) := (by omega)
 have q162 : 0 < (l0.length : Int) := of_decide_eq_true (by first | (with_reducible assumption) | assumption)
 obtain ⟨ad162, e162, hx162_0⟩ := Kd.at_int HR0.out 0 p162 q162
 have hw162_0 := hx162_0
 (try rw [show ((0 : Int)).toNat = 0 from rfl] at hw162_0)
 (try rw [show 0 * 1 = 0 from rfl] at hw162_0)
 (try rw [Addr.add_zero'] at hw162_0)
 obtain rfl : ad158 = ad162 := (by injection e162)
 have qi162 : (0 < l0.length) = True := eq_true (by omega)
 (try rw [show ((0 : Int)).toNat = 0 from rfl] at hx162_0)
 (try rw [Addr.add_zero'] at hx162_0)
 replace hx162_0 := (HB.out.cell (World.block_lt_of_cell? w _ hx162_0)).trans hx162_0
 replace p162 := eq_true p162
 replace q162 := eq_true q162
 refine start_ (n := 23) (S := fun w' => w'.cell? ⟨ad158.block, ad158.off + 9, none⟩ = some (.int .u8 (rd l0 9)) ∧ w'.cell? ⟨ad158.block, ad158.off + 8, none⟩ = some (.int .u8 (rd l0 8)) ∧ w'.cell? ⟨ad158.block, ad158.off + 4, none⟩ = some (.int .u8 (rd l0 4)) ∧ w'.cell? ⟨ad158.block, ad158.off + 5, none⟩ = some (.int .u8 (rd l0 5)) ∧ w'.cell? ad158 = some (.int .u8 (rd l0 0))) (ds := []) #[false, false, false, false, false, false, false, false, false, false, false, false, false, false, false, false, false, false, false, false, false, false, false] (by kernel_rfl) rfl rfl ⟨((HB.out.cell (World.block_lt_of_cell? w _ hw158_0)).trans hw158_0), ((HB.out.cell (World.block_lt_of_cell? w _ hw159_0)).trans hw159_0), ((HB.out.cell (World.block_lt_of_cell? w _ hw160_0)).trans hw160_0), ((HB.out.cell (World.block_lt_of_cell? w _ hw161_0)).trans hw161_0), ((HB.out.cell (World.block_lt_of_cell? w _ hw162_0)).trans hw162_0)⟩ (fun hHeld => ?_); refine with_tabW ip_read.tab1 ip_read.bits1 (fun HT_ HW_ => ?_)
 generalize w15.drew = w16 at BK157 HB hx158_0 hx159_0 hx160_0 hx161_0 hx162_0 hHeld ⊢
 refine pu 0 5 (bb 23 1) rfl rfl (any_of HT_.out (by kernel_rfl)) (fun _ _ _ h => h) (by rfl) (fun w' => by go_simp; with_reducible rfl) (by simp only [Act.put, sA, sB, sC, i64_w, i32_w]; rfl) ?_
 refine pu 1 6 (bb 23 3) rfl rfl (any_of HT_.out (by kernel_rfl)) (fun _ _ _ h => h) (by rfl) (fun w' => by go_simp; with_reducible rfl) (by simp only [Act.put, sA, sB, sC, i64_w, i32_w]; rfl) ?_
 refine pu 3 8 (bb 23 11) rfl rfl (any_of HT_.out (by kernel_rfl)) (fun _ _ _ h => h) (by rfl) (fun w' => by go_simp; with_reducible rfl) (by simp only [Act.put, sA, sB, sC, i64_w, i32_w]; rfl) ?_
 refine pu 4 9 (bb 23 27) rfl rfl (any_of HT_.out (by kernel_rfl)) (fun _ _ _ h => h) (by rfl) (fun w' => by go_simp; with_reducible rfl) (by simp only [Act.put, sA, sB, sC, i64_w, i32_w]; rfl) ?_
 refine pu 6 11 (bb 23 91) rfl rfl (any_of HT_.out (by kernel_rfl)) (fun _ _ _ h => h) (by rfl) (fun w' => by go_simp; with_reducible rfl) (by simp only [Act.put, sA, sB, sC, i64_w, i32_w]; rfl) ?_
 refine pu 7 12 (bb 23 219) rfl rfl (any_of HT_.out (by kernel_rfl)) (fun _ _ _ h => h) (by rfl) (fun w' => by go_simp; with_reducible rfl) (by simp only [Act.put, sA, sB, sC, i64_w, i32_w]; rfl) ?_
 refine pu 11 16 (bb 23 2267) rfl rfl (any_of HT_.out (by kernel_rfl)) (fun _ _ _ h => h) (by rfl) (fun w' => by go_simp; with_reducible rfl) (by simp only [Act.put, sA, sB, sC, i64_w, i32_w]; rfl) ?_
 refine pu 12 17 (bb 23 6363) rfl rfl (any_of HT_.out (by kernel_rfl)) (fun _ _ _ h => h) (by rfl) (fun w' => by go_simp; with_reducible rfl) (by simp only [Act.put, sA, sB, sC, i64_w, i32_w]; rfl) ?_
 refine pu 16 21 (bb 23 71899) rfl rfl (any_of HT_.out (by kernel_rfl)) (fun _ _ _ h => h) (by rfl) (fun w' => by go_simp; with_reducible rfl) (by simp only [Act.put, sA, sB, sC, i64_w, i32_w]; rfl) ?_
 refine pu 17 22 (bb 23 202971) rfl rfl (any_of HT_.out (by kernel_rfl)) (fun _ _ _ h => h) (by rfl) (fun w' => by go_simp; with_reducible rfl) (by simp only [Act.put, sA, sB, sC, i64_w, i32_w]; rfl) ?_
 refine take_ (i := 2) (N := some 7) (v := ?_) (a' := ?_) (bb 23 202975) rfl rfl (take_ofW HT_.out HW_.out (by kernel_rfl)) (fun _ _ _ h => h) (Or.inl ⟨by rfl, ?_⟩) hHeld ?_ ?_
 rotate_left
 · rintro w' ⟨s0, s1, s2, s3, s4⟩
   go_simp
   with_reducible rfl
 rotate_left
 · simp only [Act.put, sA, sB, sC, i64_w, i32_w]
   rfl
 refine take_ (i := 5) (N := some 10) (v := ?_) (a' := ?_) (bb 23 203007) rfl rfl (take_ofW HT_.out HW_.out (by kernel_rfl)) (fun _ _ _ h => h) (Or.inl ⟨by rfl, ?_⟩) hHeld ?_ ?_
 rotate_left
 · rintro w' ⟨s0, s1, s2, s3, s4⟩
   go_simp
   with_reducible rfl
 rotate_left
 · simp only [Act.put, sA, sB, sC, i64_w, i32_w]
   rfl
 refine take_ (i := 8) (N := some 13) (v := ?_) (a' := ?_) (bb 23 203263) rfl rfl (take_ofW HT_.out HW_.out (by kernel_rfl)) (fun _ _ _ h => h) (Or.inl ⟨by rfl, ?_⟩) hHeld ?_ ?_
 rotate_left
 · rintro w' ⟨s0, s1, s2, s3, s4⟩
   go_simp
   with_reducible rfl
 rotate_left
 · simp only [Act.put, sA, sB, sC, i64_w, i32_w]
   rfl
 refine pu 9 14 (bb 23 203775) rfl rfl (any_of HT_.out (by kernel_rfl)) (fun _ _ _ h => h) (by rfl) (fun w' => by go_simp; with_reducible rfl) (by simp only [Act.put, sA, sB, sC, i64_w, i32_w]; rfl) ?_
 refine pu 10 15 (bb 23 204799) rfl rfl (any_of HT_.out (by kernel_rfl)) (fun _ _ _ h => h) (by rfl) (fun w' => by go_simp; with_reducible rfl) (by simp only [Act.put, sA, sB, sC, i64_w, i32_w]; rfl) ?_
 refine take_ (i := 13) (N := some 18) (v := ?_) (a' := ?_) (bb 23 212991) rfl rfl (take_ofW HT_.out HW_.out (by kernel_rfl)) (fun _ _ _ h => h) (Or.inl ⟨by rfl, ?_⟩) hHeld ?_ ?_
 rotate_left
 · rintro w' ⟨s0, s1, s2, s3, s4⟩
   go_simp
   with_reducible rfl
 rotate_left
 · simp only [Act.put, sA, sB, sC, i64_w, i32_w]
   rfl
 refine pu 14 19 (bb 23 229375) rfl rfl (any_of HT_.out (by kernel_rfl)) (fun _ _ _ h => h) (by rfl) (fun w' => by go_simp; with_reducible rfl) (by simp only [Act.put, sA, sB, sC, i64_w, i32_w]; rfl) ?_
 refine pu 15 20 (bb 23 262143) rfl rfl (any_of HT_.out (by kernel_rfl)) (fun _ _ _ h => h) (by rfl) (fun w' => by go_simp; with_reducible rfl) (by simp only [Act.put, sA, sB, sC, i64_w, i32_w]; rfl) ?_
 refine take_ (i := 18) (N := some 23) (v := ?_) (a' := ?_) (bb 23 524287) rfl rfl (take_ofW HT_.out HW_.out (by kernel_rfl)) (fun _ _ _ h => h) (Or.inl ⟨by rfl, ?_⟩) hHeld ?_ ?_
 rotate_left
 · rintro w' ⟨s0, s1, s2, s3, s4⟩
   go_simp
   with_reducible rfl
 rotate_left
 · simp only [Act.put, sA, sB, sC, i64_w, i32_w]
   rfl
 refine pu 19 24 (bb 23 1048575) rfl rfl (any_of HT_.out (by kernel_rfl)) (fun _ _ _ h => h) (by rfl) (fun w' => by go_simp; with_reducible rfl) (by simp only [Act.put, sA, sB, sC, i64_w, i32_w]; rfl) ?_
 refine pu 20 25 (bb 23 2097151) rfl rfl (any_of HT_.out (by kernel_rfl)) (fun _ _ _ h => h) (by rfl) (fun w' => by go_simp; with_reducible rfl) (by simp only [Act.put, sA, sB, sC, i64_w, i32_w]; rfl) ?_
 refine one_ (i := 21) (N := some 4) (bb 23 4194303) rfl rfl (one_of HT_.out (by kernel_rfl)) (by decide) (fun K hK => ?_)
 refine box_step ?hg (N := 4) ?hd (cs := #[.int .u32 0, .int .u32 0, .int .u8 0, .int .u8 0, .int .u16 0, .bool false]) (t := 26) ?hr ?_; (case hd => rfl); (case hg => rfl); (case hr => first | (go_simp; done) | (go_simp; rfl))
 intro gb163 hg w17 hbox hb
 have n0_ := Aside0.mk (blk_below (g := gb157) (o := .cells #[.int .u32 0, .int .u32 0, .int .u8 0, .int .u8 0, .int .u16 0, .bool false] 26 (0, 0)) (by (with_reducible repeat (first | refine blk_drewN ?_ _ | refine blk_drew ?_ | refine blk_alloc ?_ _)); exact BK157.out) hb)
 have n1_ := Aside0.mk (below_step (by repeat (first | (with_reducible first | exact HB.out | apply below_alloc | apply pw_below_drewN | apply below_drew1 | refine below_set ?_ GE157.out) | exact HB.out)) hb)
 have n2_ := Aside0.mk (hbox)
 have n3_ := Aside0.mk ((by rw [hg]; exact (below_size (by repeat (first | (with_reducible first | exact HB.out | apply below_alloc | apply pw_below_drewN | apply below_drew1 | refine below_set ?_ GE157.out) | exact HB.out))) : w.heap.size ≤ gb163))
 have n4_ := Aside0.mk ((by rw [hg]; exact (below_size (by repeat (first | (with_reducible first | exact HB.out | apply below_alloc | apply pw_below_drewN | apply below_drew1 | refine below_set ?_ GE157.out) | exact HB.out))) : w.heap.size ≤ gb163))
 have n5_ := Aside0.mk ((by rw [hg]; exact Nat.ne_of_lt (blk_lt (g := gb157) (o := .cells #[.int .u32 0, .int .u32 0, .int .u8 0, .int .u8 0, .int .u16 0, .bool false] 26 (0, 0)) (by (with_reducible repeat (first | refine blk_drewN ?_ _ | refine blk_drew ?_ | refine blk_alloc ?_ _)); exact BK157.out)) : gb157 ≠ gb163))
 have n6_ := Aside0.mk ((by rw [hg]; exact Nat.ne_of_gt (blk_lt (g := gb157) (o := .cells #[.int .u32 0, .int .u32 0, .int .u8 0, .int .u8 0, .int .u16 0, .bool false] 26 (0, 0)) (by (with_reducible repeat (first | refine blk_drewN ?_ _ | refine blk_drew ?_ | refine blk_alloc ?_ _)); exact BK157.out)) : gb163 ≠ gb157))
 clear BK157
 clear HB
 have BK157 := n0_
 have HB := n1_
 have BK163 := n2_
 have GW163 := n3_
 have GE163 := n4_
 have NB157_163 := n5_
 have NB163_157 := n6_
 clear n0_ n1_ n2_ n3_ n4_ n5_ n6_
 clear hb hbox hg
 refine hK.out _ _ ⟨((HB.out.cell (World.block_lt_of_cell? w _ hw158_0)).trans hw158_0), ((HB.out.cell (World.block_lt_of_cell? w _ hw159_0)).trans hw159_0), ((HB.out.cell (World.block_lt_of_cell? w _ hw160_0)).trans hw160_0), ((HB.out.cell (World.block_lt_of_cell? w _ hw161_0)).trans hw161_0), ((HB.out.cell (World.block_lt_of_cell? w _ hw162_0)).trans hw162_0)⟩ (fun hHeld => ?_)
 clear hK K
 refine norm_ (a' := ?_) ?_ ?_
 rotate_left
 · show Act.put _ (some 4) _ = _
   simp only [Act.put, sA, sB, sC, i64_w, i32_w]
   rfl
 refine one_ (i := 22) (N := none) (bb 23 8388607) rfl rfl (one_of HT_.out (by kernel_rfl)) (by decide) (fun K hK => ?_)
 have hs18 : w17.cell? ⟨gb163, 0, none⟩ = some (.int .u32 0) := (blk_cell BK163.out 0).trans rfl
 have hfs18 := blk_frozen BK163.out 0
 have hns18_0 := NB157_163.out
 have hms18_0 := NB163_157.out
 have hs19 : w17.cell? ⟨gb163, 1, none⟩ = some (.int .u32 0) := (blk_cell BK163.out 1).trans rfl
 have hfs19 := blk_frozen BK163.out 1
 have hns19_0 := NB157_163.out
 have hms19_0 := NB163_157.out
 have hs20 : w17.cell? ⟨gb163, 2, none⟩ = some (.int .u8 0) := (blk_cell BK163.out 2).trans rfl
 have hfs20 := blk_frozen BK163.out 2
 have hns20_0 := NB157_163.out
 have hms20_0 := NB163_157.out
 have hs21 : w17.cell? ⟨gb163, 3, none⟩ = some (.int .u8 0) := (blk_cell BK163.out 3).trans rfl
 have hfs21 := blk_frozen BK163.out 3
 have hns21_0 := NB157_163.out
 have hms21_0 := NB163_157.out
 have hs22 : w17.cell? ⟨gb163, 4, none⟩ = some (.int .u16 0) := (blk_cell BK163.out 4).trans rfl
 have hfs22 := blk_frozen BK163.out 4
 have hns22_0 := NB157_163.out
 have hms22_0 := NB163_157.out
 have hs23 : w17.cell? ⟨gb163, 5, none⟩ = some (.bool false) := (blk_cell BK163.out 5).trans rfl
 have hfs23 := blk_frozen BK163.out 5
 have hns23_0 := NB157_163.out
 have hms23_0 := NB163_157.out
 refine skip_ (w1 := ?_) (by rfl) rfl ?_ ?_
 rotate_left
 · go_simp
   rfl
 refine hK.out _ _ ⟨((cf6 (by first | exact Nat.ne_of_lt (Nat.lt_of_lt_of_le (by have := World.block_lt_of_cell? _ _ hw158_0; first | rwa [add_block] at this | exact this) GW163.out) | (rw [add_block]; exact Nat.ne_of_lt (Nat.lt_of_lt_of_le (by have := World.block_lt_of_cell? _ _ hw158_0; first | rwa [add_block] at this | exact this) GW163.out)) | (show (Addr.add _ _).block ≠ _; rw [add_block]; exact Nat.ne_of_lt (Nat.lt_of_lt_of_le (by have := World.block_lt_of_cell? _ _ hw158_0; first | rwa [add_block] at this | exact this) GW163.out)) | (dsimp only; exact Nat.ne_of_lt (Nat.lt_of_lt_of_le (by have := World.block_lt_of_cell? _ _ hw158_0; first | rwa [add_block] at this | exact this) GW163.out))) _ _ _ _ _ _).trans (hHeld.1)), ((cf6 (by first | exact Nat.ne_of_lt (Nat.lt_of_lt_of_le (by have := World.block_lt_of_cell? _ _ hw159_0; first | rwa [add_block] at this | exact this) GW163.out) | (rw [add_block]; exact Nat.ne_of_lt (Nat.lt_of_lt_of_le (by have := World.block_lt_of_cell? _ _ hw159_0; first | rwa [add_block] at this | exact this) GW163.out)) | (show (Addr.add _ _).block ≠ _; rw [add_block]; exact Nat.ne_of_lt (Nat.lt_of_lt_of_le (by have := World.block_lt_of_cell? _ _ hw159_0; first | rwa [add_block] at this | exact this) GW163.out)) | (dsimp only; exact Nat.ne_of_lt (Nat.lt_of_lt_of_le (by have := World.block_lt_of_cell? _ _ hw159_0; first | rwa [add_block] at this | exact this) GW163.out))) _ _ _ _ _ _).trans (hHeld.2.1)), ((cf6 (by first | exact Nat.ne_of_lt (Nat.lt_of_lt_of_le (by have := World.block_lt_of_cell? _ _ hw160_0; first | rwa [add_block] at this | exact this) GW163.out) | (rw [add_block]; exact Nat.ne_of_lt (Nat.lt_of_lt_of_le (by have := World.block_lt_of_cell? _ _ hw160_0; first | rwa [add_block] at this | exact this) GW163.out)) | (show (Addr.add _ _).block ≠ _; rw [add_block]; exact Nat.ne_of_lt (Nat.lt_of_lt_of_le (by have := World.block_lt_of_cell? _ _ hw160_0; first | rwa [add_block] at this | exact this) GW163.out)) | (dsimp only; exact Nat.ne_of_lt (Nat.lt_of_lt_of_le (by have := World.block_lt_of_cell? _ _ hw160_0; first | rwa [add_block] at this | exact this) GW163.out))) _ _ _ _ _ _).trans (hHeld.2.2.1)), ((cf6 (by first | exact Nat.ne_of_lt (Nat.lt_of_lt_of_le (by have := World.block_lt_of_cell? _ _ hw161_0; first | rwa [add_block] at this | exact this) GW163.out) | (rw [add_block]; exact Nat.ne_of_lt (Nat.lt_of_lt_of_le (by have := World.block_lt_of_cell? _ _ hw161_0; first | rwa [add_block] at this | exact this) GW163.out)) | (show (Addr.add _ _).block ≠ _; rw [add_block]; exact Nat.ne_of_lt (Nat.lt_of_lt_of_le (by have := World.block_lt_of_cell? _ _ hw161_0; first | rwa [add_block] at this | exact this) GW163.out)) | (dsimp only; exact Nat.ne_of_lt (Nat.lt_of_lt_of_le (by have := World.block_lt_of_cell? _ _ hw161_0; first | rwa [add_block] at this | exact this) GW163.out))) _ _ _ _ _ _).trans (hHeld.2.2.2.1)), ((cf6 (by first | exact Nat.ne_of_lt (Nat.lt_of_lt_of_le (by have := World.block_lt_of_cell? _ _ hw162_0; first | rwa [add_block] at this | exact this) GW163.out) | (rw [add_block]; exact Nat.ne_of_lt (Nat.lt_of_lt_of_le (by have := World.block_lt_of_cell? _ _ hw162_0; first | rwa [add_block] at this | exact this) GW163.out)) | (show (Addr.add _ _).block ≠ _; rw [add_block]; exact Nat.ne_of_lt (Nat.lt_of_lt_of_le (by have := World.block_lt_of_cell? _ _ hw162_0; first | rwa [add_block] at this | exact this) GW163.out)) | (dsimp only; exact Nat.ne_of_lt (Nat.lt_of_lt_of_le (by have := World.block_lt_of_cell? _ _ hw162_0; first | rwa [add_block] at this | exact this) GW163.out))) _ _ _ _ _ _).trans (hHeld.2.2.2.2))⟩ (fun hHeld => ?_)
 clear hK K
 refine done_ (done_of HT_.out (by kernel_rfl)) ?_
 obtain ⟨i024, hi024, _, hsz24, _⟩ := info_parts info5
 obtain ⟨A24, hcut24, hA24, hC24⟩ := print_mid_of (P := Try.prog) (Value.int .u8) 0 27 5 .i64 .i64 Try.underlying27 hi024 hsz24 (some ad158) c0 l0 12 16 (by omega) (by first | omega | exact of_decide_eq_true (by first | (with_reducible assumption) | assumption)) (of_decide_eq_true (by first | (with_reducible assumption) | assumption)) HC0.out
 have HR164 := Aside0.mk (Kd.C_of_reads (h1 := fun _ => rfl) (hA24 _ (Kd.reads_of_C HR0.out)))
 have HC164 := Aside0.mk hC24
 clear hA24 hC24 hi024 hsz24
 try go_wp2_with (first | ((with_reducible refine gate_callee (f := 34) rfl ?_); refine goesL_ (some 29) rfl rfl Try.func34 (by kernel_rfl) rfl #[.slice A24 ((l0.take 16).drop 12).length (c0 - 12)] rfl (by (try simp only [List.map_toArray, List.map_cons, List.map_nil]); first | done | (rw [show ((l0.take 16).drop 12).length = (16 - 12) from (by rw [List.length_drop, List.length_take]; have h_ : (16 : Int) ≤ (l0.length : Int) := of_decide_eq_true (by first | (with_reducible assumption) | assumption); omega)] <;> rfl) | rfl | (simp only [List.length_drop, List.length_take]; rfl)) ?_; (with_reducible refine (addr_Of.calls k _ _ ((l0.take 16).drop 12) t165 t166 _ ?side1 ?side2 A9.out).mono ?_); (case side1 => exact Kd.C_below HR164.out (by repeat (first | (with_reducible first | exact HB.out | apply below_alloc | apply pw_below_drewN | apply below_drew1 | refine below_set ?_ GE157.out | refine below_set ?_ GE163.out) | exact HB.out))); (case side2 => exact HC164.out); rintro e w' ⟨rfl, ⟨nd1, rfl⟩⟩; refine ⟨_, rfl, ?_⟩; have hnb25 := NB163_157.out; have hnc25 := NB157_163.out; have hcz26_0 : w17.cell? ⟨gb163, 0, none⟩ = some (.int .u32 0) := (blk_cell BK163.out 0).trans rfl; have hcz26_1 : w17.cell? ⟨gb163, 1, none⟩ = some (.int .u32 0) := (blk_cell BK163.out 1).trans rfl; have hcz26_2 : w17.cell? ⟨gb163, 2, none⟩ = some (.int .u8 0) := (blk_cell BK163.out 2).trans rfl; have hcz26_3 : w17.cell? ⟨gb163, 3, none⟩ = some (.int .u8 0) := (blk_cell BK163.out 3).trans rfl; have hcz26_4 : w17.cell? ⟨gb163, 4, none⟩ = some (.int .u16 0) := (blk_cell BK163.out 4).trans rfl; have hcz26_5 : w17.cell? ⟨gb163, 5, none⟩ = some (.bool false) := (blk_cell BK163.out 5).trans rfl; have hfz26_0 := blk_frozen BK163.out 0; have hfz26_1 := blk_frozen BK163.out 1; have hfz26_2 := blk_frozen BK163.out 2; have hfz26_3 := blk_frozen BK163.out 3; have hfz26_4 := blk_frozen BK163.out 4; have hfz26_5 := blk_frozen BK163.out 5; obtain ⟨i027, hi027, _, hsz27, _⟩ := info_parts info5; obtain ⟨A27, hcut27, hA27, hC27⟩ := print_mid_of (P := Try.prog) (Value.int .u8) 0 27 5 .i64 .i64 Try.underlying27 hi027 hsz27 (some ad158) c0 l0 16 20 (by omega) (by first | omega | exact of_decide_eq_true (by first | (with_reducible assumption) | assumption)) (of_decide_eq_true (by first | (with_reducible assumption) | assumption)) HC0.out; have HR167 := Aside0.mk (Kd.C_of_reads (h1 := fun _ => rfl) (hA27 _ (Kd.reads_of_C HR0.out))); have HC167 := Aside0.mk hC27; clear hA27 hC27 hi027 hsz27) | ((with_reducible refine gate_callee (f := 34) rfl ?_); refine goesL_ (some 36) rfl rfl Try.func34 (by kernel_rfl) rfl #[.slice A27 ((l0.take 20).drop 16).length (c0 - 16)] rfl (by (try simp only [List.map_toArray, List.map_cons, List.map_nil]); first | done | (rw [show ((l0.take 20).drop 16).length = (20 - 16) from (by rw [List.length_drop, List.length_take]; have h_ : (20 : Int) ≤ (l0.length : Int) := of_decide_eq_true (by first | (with_reducible assumption) | assumption); omega)] <;> rfl) | rfl | (simp only [List.length_drop, List.length_take]; rfl)) ?_; (with_reducible refine (addr_Of.calls k _ _ ((l0.take 20).drop 16) t168 t169 _ ?side1 ?side2 A12.out).mono ?_); (case side1 => exact Kd.C_below HR167.out (by repeat (first | (with_reducible first | exact HB.out | apply below_alloc | apply pw_below_drewN | apply below_drew1 | refine below_set ?_ GE157.out | refine below_set ?_ GE163.out) | exact HB.out))); (case side2 => exact HC167.out); rintro e w' ⟨rfl, ⟨nd2, rfl⟩⟩; refine ⟨_, rfl, ?_⟩))
 have n0_ : Aside0 (((((((((((w17.setCell ⟨gb163, 0, none⟩ (.int .u32 0)).setCell ⟨gb163, 1, none⟩ (.int .u32 0)).setCell ⟨gb163, 2, none⟩ (.int .u8 (rd l0 9))).setCell ⟨gb163, 3, none⟩ (.int .u8 (rd l0 8))).setCell ⟨gb163, 4, none⟩ (.int .u16 (Go.bits .or .u16 (IntKind.u16.wrap ((IntKind.u16.wrap (rd l0 4)) * 256)) (IntKind.u16.wrap (rd l0 5))))).setCell ⟨gb163, 5, none⟩ (.bool ((rd l0 0) == 70))).drewN nd1).setCell ⟨gb163, 0, none⟩ (.int .u32 t165)).drewN nd2).setCell ⟨gb163, 1, none⟩ (.int .u32 t168)).heap[gb157]? = some (.cells #[.int .u32 0, .int .u32 0, .int .u8 0, .int .u8 0, .int .u16 0, .bool false] 26 (0, 0))) := ⟨by (with_reducible repeat (first | refine blk_drewN ?_ _ | refine blk_drew ?_ | refine blk_alloc ?_ _)); refine blk_far ?_ NB157_163.out _; (with_reducible repeat (first | refine blk_drewN ?_ _ | refine blk_drew ?_ | refine blk_alloc ?_ _)); refine blk_far ?_ NB157_163.out _; (with_reducible repeat (first | refine blk_drewN ?_ _ | refine blk_drew ?_ | refine blk_alloc ?_ _)); refine blk_far ?_ NB157_163.out _; (with_reducible repeat (first | refine blk_drewN ?_ _ | refine blk_drew ?_ | refine blk_alloc ?_ _)); refine blk_far ?_ NB157_163.out _; (with_reducible repeat (first | refine blk_drewN ?_ _ | refine blk_drew ?_ | refine blk_alloc ?_ _)); refine blk_far ?_ NB157_163.out _; (with_reducible repeat (first | refine blk_drewN ?_ _ | refine blk_drew ?_ | refine blk_alloc ?_ _)); refine blk_far ?_ NB157_163.out _; (with_reducible repeat (first | refine blk_drewN ?_ _ | refine blk_drew ?_ | refine blk_alloc ?_ _)); refine blk_far ?_ NB157_163.out _; (with_reducible repeat (first | refine blk_drewN ?_ _ | refine blk_drew ?_ | refine blk_alloc ?_ _)); refine blk_far ?_ NB157_163.out _; (with_reducible repeat (first | refine blk_drewN ?_ _ | refine blk_drew ?_ | refine blk_alloc ?_ _)); exact BK157.out⟩
 have n1_ : Aside0 (((((((((((w17.setCell ⟨gb163, 0, none⟩ (.int .u32 0)).setCell ⟨gb163, 1, none⟩ (.int .u32 0)).setCell ⟨gb163, 2, none⟩ (.int .u8 (rd l0 9))).setCell ⟨gb163, 3, none⟩ (.int .u8 (rd l0 8))).setCell ⟨gb163, 4, none⟩ (.int .u16 (Go.bits .or .u16 (IntKind.u16.wrap ((IntKind.u16.wrap (rd l0 4)) * 256)) (IntKind.u16.wrap (rd l0 5))))).setCell ⟨gb163, 5, none⟩ (.bool ((rd l0 0) == 70))).drewN nd1).setCell ⟨gb163, 0, none⟩ (.int .u32 t165)).drewN nd2).setCell ⟨gb163, 1, none⟩ (.int .u32 t168)).heap[gb163]? = some (.cells #[.int .u32 t165, .int .u32 t168, .int .u8 (rd l0 9), .int .u8 (rd l0 8), .int .u16 (Go.bits .or .u16 (IntKind.u16.wrap ((IntKind.u16.wrap (rd l0 4)) * 256)) (IntKind.u16.wrap (rd l0 5))), .bool ((rd l0 0) == 70)] 26 (0, 0))) := ⟨by (with_reducible repeat (first | refine blk_drewN ?_ _ | refine blk_drew ?_ | refine blk_alloc ?_ _)); refine blk_put (cs := #[.int .u32 t165, .int .u32 0, .int .u8 (rd l0 9), .int .u8 (rd l0 8), .int .u16 (Go.bits .or .u16 (IntKind.u16.wrap ((IntKind.u16.wrap (rd l0 4)) * 256)) (IntKind.u16.wrap (rd l0 5))), .bool ((rd l0 0) == 70)]) ?_ 1 _ rfl; (with_reducible repeat (first | refine blk_drewN ?_ _ | refine blk_drew ?_ | refine blk_alloc ?_ _)); refine blk_put (cs := #[.int .u32 0, .int .u32 0, .int .u8 (rd l0 9), .int .u8 (rd l0 8), .int .u16 (Go.bits .or .u16 (IntKind.u16.wrap ((IntKind.u16.wrap (rd l0 4)) * 256)) (IntKind.u16.wrap (rd l0 5))), .bool ((rd l0 0) == 70)]) ?_ 0 _ rfl; (with_reducible repeat (first | refine blk_drewN ?_ _ | refine blk_drew ?_ | refine blk_alloc ?_ _)); refine blk_put (cs := #[.int .u32 0, .int .u32 0, .int .u8 (rd l0 9), .int .u8 (rd l0 8), .int .u16 (Go.bits .or .u16 (IntKind.u16.wrap ((IntKind.u16.wrap (rd l0 4)) * 256)) (IntKind.u16.wrap (rd l0 5))), .bool false]) ?_ 5 _ rfl; (with_reducible repeat (first | refine blk_drewN ?_ _ | refine blk_drew ?_ | refine blk_alloc ?_ _)); refine blk_put (cs := #[.int .u32 0, .int .u32 0, .int .u8 (rd l0 9), .int .u8 (rd l0 8), .int .u16 0, .bool false]) ?_ 4 _ rfl; (with_reducible repeat (first | refine blk_drewN ?_ _ | refine blk_drew ?_ | refine blk_alloc ?_ _)); refine blk_put (cs := #[.int .u32 0, .int .u32 0, .int .u8 (rd l0 9), .int .u8 0, .int .u16 0, .bool false]) ?_ 3 _ rfl; (with_reducible repeat (first | refine blk_drewN ?_ _ | refine blk_drew ?_ | refine blk_alloc ?_ _)); refine blk_put (cs := #[.int .u32 0, .int .u32 0, .int .u8 0, .int .u8 0, .int .u16 0, .bool false]) ?_ 2 _ rfl; (with_reducible repeat (first | refine blk_drewN ?_ _ | refine blk_drew ?_ | refine blk_alloc ?_ _)); refine blk_put (cs := #[.int .u32 0, .int .u32 0, .int .u8 0, .int .u8 0, .int .u16 0, .bool false]) ?_ 1 _ rfl; (with_reducible repeat (first | refine blk_drewN ?_ _ | refine blk_drew ?_ | refine blk_alloc ?_ _)); refine blk_put (cs := #[.int .u32 0, .int .u32 0, .int .u8 0, .int .u8 0, .int .u16 0, .bool false]) ?_ 0 _ rfl; (with_reducible repeat (first | refine blk_drewN ?_ _ | refine blk_drew ?_ | refine blk_alloc ?_ _)); exact BK163.out⟩
 have n2_ : Aside0 (Below w.heap.size w ((((((((((w17.setCell ⟨gb163, 0, none⟩ (.int .u32 0)).setCell ⟨gb163, 1, none⟩ (.int .u32 0)).setCell ⟨gb163, 2, none⟩ (.int .u8 (rd l0 9))).setCell ⟨gb163, 3, none⟩ (.int .u8 (rd l0 8))).setCell ⟨gb163, 4, none⟩ (.int .u16 (Go.bits .or .u16 (IntKind.u16.wrap ((IntKind.u16.wrap (rd l0 4)) * 256)) (IntKind.u16.wrap (rd l0 5))))).setCell ⟨gb163, 5, none⟩ (.bool ((rd l0 0) == 70))).drewN nd1).setCell ⟨gb163, 0, none⟩ (.int .u32 t165)).drewN nd2).setCell ⟨gb163, 1, none⟩ (.int .u32 t168))) := ⟨by repeat (first | (with_reducible first | exact HB.out | apply below_alloc | apply pw_below_drewN | apply below_drew1 | refine below_set ?_ GE157.out | refine below_set ?_ GE163.out) | exact HB.out)⟩
 (try clear BK157)
 (try clear BK163)
 (try clear HB)
 generalize ((((((((((w17.setCell ⟨gb163, 0, none⟩ (.int .u32 0)).setCell ⟨gb163, 1, none⟩ (.int .u32 0)).setCell ⟨gb163, 2, none⟩ (.int .u8 (rd l0 9))).setCell ⟨gb163, 3, none⟩ (.int .u8 (rd l0 8))).setCell ⟨gb163, 4, none⟩ (.int .u16 (Go.bits .or .u16 (IntKind.u16.wrap ((IntKind.u16.wrap (rd l0 4)) * 256)) (IntKind.u16.wrap (rd l0 5))))).setCell ⟨gb163, 5, none⟩ (.bool ((rd l0 0) == 70))).drewN nd1).setCell ⟨gb163, 0, none⟩ (.int .u32 t165)).drewN nd2).setCell ⟨gb163, 1, none⟩ (.int .u32 t168)) = w28 at n0_ n1_ n2_ ⊢
 have BK157 := n0_
 have BK163 := n1_
 have HB := n2_
 clear n0_ n1_ n2_
 (try (rw [drewN_self w28]; generalize hq_ : World.drewN w28 _ = w28; have n0_ : Aside0 (w28.heap[gb157]? = some (.cells #[.int .u32 0, .int .u32 0, .int .u8 0, .int .u8 0, .int .u16 0, .bool false] 26 (0, 0))) := ⟨by rw [← hq_]; exact (by (with_reducible repeat (first | refine blk_drewN ?_ _ | refine blk_drew ?_ | refine blk_alloc ?_ _)); exact BK157.out)⟩; have n1_ : Aside0 (w28.heap[gb163]? = some (.cells #[.int .u32 t165, .int .u32 t168, .int .u8 (rd l0 9), .int .u8 (rd l0 8), .int .u16 (Go.bits .or .u16 (IntKind.u16.wrap ((IntKind.u16.wrap (rd l0 4)) * 256)) (IntKind.u16.wrap (rd l0 5))), .bool ((rd l0 0) == 70)] 26 (0, 0))) := ⟨by rw [← hq_]; exact (by (with_reducible repeat (first | refine blk_drewN ?_ _ | refine blk_drew ?_ | refine blk_alloc ?_ _)); exact BK163.out)⟩; have n2_ : Aside0 (Below w.heap.size w w28) := ⟨by rw [← hq_]; exact (by repeat (first | (with_reducible first | exact HB.out | apply below_alloc | apply pw_below_drewN | apply below_drew1 | refine below_set ?_ GE157.out | refine below_set ?_ GE163.out) | exact HB.out))⟩; clear BK157 BK163 HB hq_; have BK157 := n0_; have BK163 := n1_; have HB := n2_; clear n0_ n1_ n2_))
 have n0_ := Aside0.mk (blk_drew BK157.out)
 have n1_ := Aside0.mk (blk_drew BK163.out)
 have n2_ := Aside0.mk (below_drew1 HB.out)
 clear BK157
 clear BK163
 clear HB
 have BK157 := n0_
 have BK163 := n1_
 have HB := n2_
 clear n0_ n1_ n2_
 have p170 : 0 ≤ (2 : Int) := (by omega)
 have q170 : 2 < (l0.length : Int) := of_decide_eq_true (by first | (with_reducible assumption) | assumption)
 obtain ⟨ad170, e170, hx170_0⟩ := Kd.at_int HR0.out 2 p170 q170
 have hw170_0 := hx170_0
 (try rw [show ((2 : Int)).toNat = 2 from rfl] at hw170_0)
 (try rw [show 2 * 1 = 2 from rfl] at hw170_0)
 (try simp only [Nat.reduceMul, Nat.reduceEqDiff, Go.Addr.add, ↓reduceIte] at hw170_0)
 obtain rfl : ad158 = ad170 := (by injection e170)
 (try simp only [show (2 : Int).toNat = 2 from rfl, Nat.reduceMul, Nat.reduceEqDiff, Go.Addr.add, ↓reduceIte] at hx170_0)
 have qi170 : (2 < l0.length) = True := eq_true (by omega)
 (try rw [show ((2 : Int)).toNat = 2 from rfl] at hx170_0)
 replace hx170_0 := (HB.out.cell (World.block_lt_of_cell? w _ hx170_0)).trans hx170_0
 replace p170 := eq_true p170
 replace q170 := eq_true q170
 have p171 : 0 ≤ (3 : Int) := (by omega)
 have q171 : 3 < (l0.length : Int) := of_decide_eq_true (by first | (with_reducible assumption) | assumption)
 obtain ⟨ad171, e171, hx171_0⟩ := Kd.at_int HR0.out 3 p171 q171
 have hw171_0 := hx171_0
 (try rw [show ((3 : Int)).toNat = 3 from rfl] at hw171_0)
 (try rw [show 3 * 1 = 3 from rfl] at hw171_0)
 (try simp only [Nat.reduceMul, Nat.reduceEqDiff, Go.Addr.add, ↓reduceIte] at hw171_0)
 obtain rfl : ad158 = ad171 := (by injection e171)
 (try simp only [show (3 : Int).toNat = 3 from rfl, Nat.reduceMul, Nat.reduceEqDiff, Go.Addr.add, ↓reduceIte] at hx171_0)
 have qi171 : (3 < l0.length) = True := eq_true (by omega)
 (try rw [show ((3 : Int)).toNat = 3 from rfl] at hx171_0)
 replace hx171_0 := (HB.out.cell (World.block_lt_of_cell? w _ hx171_0)).trans hx171_0
 replace p171 := eq_true p171
 replace q171 := eq_true q171
 have ys0 : (w28.drew).cell? ⟨gb163, 0, none⟩ = some (.int .u32 t165) := (blk_cell BK163.out 0).trans rfl
 have ys1 : (w28.drew).cell? ⟨gb163, 1, none⟩ = some (.int .u32 t168) := (blk_cell BK163.out 1).trans rfl
 have ys2 : (w28.drew).cell? ⟨gb163, 2, none⟩ = some (.int .u8 (rd l0 9)) := (blk_cell BK163.out 2).trans rfl
 have ys3 : (w28.drew).cell? ⟨gb163, 3, none⟩ = some (.int .u8 (rd l0 8)) := (blk_cell BK163.out 3).trans rfl
 have ys4 : (w28.drew).cell? ⟨gb163, 4, none⟩ = some (.int .u16 (Go.bits .or .u16 (IntKind.u16.wrap ((IntKind.u16.wrap (rd l0 4)) * 256)) (IntKind.u16.wrap (rd l0 5)))) := (blk_cell BK163.out 4).trans rfl
 have ys5 : (w28.drew).cell? ⟨gb163, 5, none⟩ = some (.bool ((rd l0 0) == 70)) := (blk_cell BK163.out 5).trans rfl
 have ys6 : (w28.drew).cell? ⟨ad158.block, ad158.off + 2, none⟩ = some (.int .u8 (rd l0 2)) := ((HB.out.cell (World.block_lt_of_cell? w _ hw170_0)).trans hw170_0)
 have ys7 : (w28.drew).cell? ⟨ad158.block, ad158.off + 3, none⟩ = some (.int .u8 (rd l0 3)) := ((HB.out.cell (World.block_lt_of_cell? w _ hw171_0)).trans hw171_0)
 refine start_ (n := 13) (S := fun w' => w'.cell? ⟨gb163, 0, none⟩ = some (.int .u32 t165) ∧ w'.cell? ⟨gb163, 1, none⟩ = some (.int .u32 t168) ∧ w'.cell? ⟨gb163, 2, none⟩ = some (.int .u8 (rd l0 9)) ∧ w'.cell? ⟨gb163, 3, none⟩ = some (.int .u8 (rd l0 8)) ∧ w'.cell? ⟨gb163, 4, none⟩ = some (.int .u16 (Go.bits .or .u16 (IntKind.u16.wrap ((IntKind.u16.wrap (rd l0 4)) * 256)) (IntKind.u16.wrap (rd l0 5)))) ∧ w'.cell? ⟨gb163, 5, none⟩ = some (.bool ((rd l0 0) == 70)) ∧ w'.cell? ⟨ad158.block, ad158.off + 2, none⟩ = some (.int .u8 (rd l0 2)) ∧ w'.cell? ⟨ad158.block, ad158.off + 3, none⟩ = some (.int .u8 (rd l0 3))) (ds := []) #[false, false, false, false, false, false, false, false, false, false, false, false, false] (by kernel_rfl) rfl rfl ⟨ys0, ys1, ys2, ys3, ys4, ys5, ys6, ys7⟩ (fun hHeld => ?_)
 refine with_tabW ip_read.tab4 ip_read.bits4 (fun HT_ HW_ => ?_)
 generalize w28.drew = w29 at BK157 BK163 HB hx170_0 hx171_0 hHeld ⊢
 refine pu 1 41 (bb 13 2) rfl rfl (any_of HT_.out (by kernel_rfl)) (fun _ _ _ h => h) (by rfl) (fun w' => by go_simp; with_reducible rfl) (by simp only [Act.put, sA, sB, sC, i64_w, i32_w]; rfl) ?_
 refine pu 2 42 (bb 13 6) rfl rfl (any_of HT_.out (by kernel_rfl)) (fun _ _ _ h => h) (by rfl) (fun w' => by go_simp; with_reducible rfl) (by simp only [Act.put, sA, sB, sC, i64_w, i32_w]; rfl) ?_
 refine pu 6 46 (bb 13 70) rfl rfl (any_of HT_.out (by kernel_rfl)) (fun _ _ _ h => h) (by rfl) (fun w' => by go_simp; with_reducible rfl) (by simp only [Act.put, sA, sB, sC, i64_w, i32_w]; rfl) ?_
 refine pu 7 47 (bb 13 198) rfl rfl (any_of HT_.out (by kernel_rfl)) (fun _ _ _ h => h) (by rfl) (fun w' => by go_simp; with_reducible rfl) (by simp only [Act.put, sA, sB, sC, i64_w, i32_w]; rfl) ?_
 refine take_ (i := 0) (N := some 40) (v := ?_) (a' := ?_) (bb 13 199) rfl rfl (take_ofW HT_.out HW_.out (by kernel_rfl)) (fun _ _ _ h => h) (Or.inl ⟨by rfl, ?_⟩) hHeld ?_ ?_
 rotate_left
 · rintro w' ⟨s0, s1, s2, s3, s4, s5, s6, s7⟩
   go_simp
   with_reducible rfl
 rotate_left
 · simp only [Act.put, sA, sB, sC, i64_w, i32_w]
   rfl
 refine take_ (i := 3) (N := some 43) (v := ?_) (a' := ?_) (bb 13 207) rfl rfl (take_ofW HT_.out HW_.out (by kernel_rfl)) (fun _ _ _ h => h) (Or.inl ⟨by rfl, ?_⟩) hHeld ?_ ?_
 rotate_left
 · rintro w' ⟨s0, s1, s2, s3, s4, s5, s6, s7⟩
   go_simp
   with_reducible rfl
 rotate_left
 · simp only [Act.put, sA, sB, sC, i64_w, i32_w]
   rfl
 refine pu 4 44 (bb 13 223) rfl rfl (any_of HT_.out (by kernel_rfl)) (fun _ _ _ h => h) (by rfl) (fun w' => by go_simp; with_reducible rfl) (by simp only [Act.put, sA, sB, sC, i64_w, i32_w]; rfl) ?_
 refine pu 5 45 (bb 13 255) rfl rfl (any_of HT_.out (by kernel_rfl)) (fun _ _ _ h => h) (by rfl) (fun w' => by go_simp; with_reducible rfl) (by simp only [Act.put, sA, sB, sC, i64_w, i32_w]; rfl) ?_
 refine take_ (i := 8) (N := some 48) (v := ?_) (a' := ?_) (bb 13 511) rfl rfl (take_ofW HT_.out HW_.out (by kernel_rfl)) (fun _ _ _ h => h) (Or.inl ⟨by rfl, ?_⟩) hHeld ?_ ?_
 rotate_left
 · rintro w' ⟨s0, s1, s2, s3, s4, s5, s6, s7⟩
   go_simp
   with_reducible rfl
 rotate_left
 · simp only [Act.put, sA, sB, sC, i64_w, i32_w]
   rfl
 refine pu 9 49 (bb 13 1023) rfl rfl (any_of HT_.out (by kernel_rfl)) (fun _ _ _ h => h) (by rfl) (fun w' => by go_simp; with_reducible rfl) (by simp only [Act.put, sA, sB, sC, i64_w, i32_w]; rfl) ?_
 refine pu 10 50 (bb 13 2047) rfl rfl (any_of HT_.out (by kernel_rfl)) (fun _ _ _ h => h) (by rfl) (fun w' => by go_simp; with_reducible rfl) (by simp only [Act.put, sA, sB, sC, i64_w, i32_w]; rfl) ?_
 refine one_ (i := 11) (N := none) (bb 13 4095) rfl rfl (one_of HT_.out (by kernel_rfl)) (by decide) (fun K hK => ?_)
 have hs30 : w29.cell? ⟨gb157, 0, none⟩ = some (.int .u32 0) := (blk_cell BK157.out 0).trans rfl
 have hfs30 := blk_frozen BK157.out 0
 have hns30_1 := NB163_157.out
 have hms30_1 := NB157_163.out
 have hs31 : w29.cell? ⟨gb157, 1, none⟩ = some (.int .u32 0) := (blk_cell BK157.out 1).trans rfl
 have hfs31 := blk_frozen BK157.out 1
 have hns31_1 := NB163_157.out
 have hms31_1 := NB157_163.out
 have hs32 : w29.cell? ⟨gb157, 2, none⟩ = some (.int .u8 0) := (blk_cell BK157.out 2).trans rfl
 have hfs32 := blk_frozen BK157.out 2
 have hns32_1 := NB163_157.out
 have hms32_1 := NB157_163.out
 have hs33 : w29.cell? ⟨gb157, 3, none⟩ = some (.int .u8 0) := (blk_cell BK157.out 3).trans rfl
 have hfs33 := blk_frozen BK157.out 3
 have hns33_1 := NB163_157.out
 have hms33_1 := NB157_163.out
 have hs34 : w29.cell? ⟨gb157, 4, none⟩ = some (.int .u16 0) := (blk_cell BK157.out 4).trans rfl
 have hfs34 := blk_frozen BK157.out 4
 have hns34_1 := NB163_157.out
 have hms34_1 := NB157_163.out
 have hs35 : w29.cell? ⟨gb157, 5, none⟩ = some (.bool false) := (blk_cell BK157.out 5).trans rfl
 have hfs35 := blk_frozen BK157.out 5
 have hns35_1 := NB163_157.out
 have hms35_1 := NB157_163.out
 refine skip_ (w1 := ?_) (by rfl) rfl ?_ ?_
 rotate_left
 · go_simp
   rfl
 refine hK.out _ _ ⟨((cf6 NB163_157.out _ _ _ _ _ _).trans (hHeld.1)), ((cf6 NB163_157.out _ _ _ _ _ _).trans (hHeld.2.1)), ((cf6 NB163_157.out _ _ _ _ _ _).trans (hHeld.2.2.1)), ((cf6 NB163_157.out _ _ _ _ _ _).trans (hHeld.2.2.2.1)), ((cf6 NB163_157.out _ _ _ _ _ _).trans (hHeld.2.2.2.2.1)), ((cf6 NB163_157.out _ _ _ _ _ _).trans (hHeld.2.2.2.2.2.1)), ((cf6 (by first | exact Nat.ne_of_lt (Nat.lt_of_lt_of_le (by have := World.block_lt_of_cell? _ _ hw170_0; first | rwa [add_block] at this | exact this) GW157.out) | (rw [add_block]; exact Nat.ne_of_lt (Nat.lt_of_lt_of_le (by have := World.block_lt_of_cell? _ _ hw170_0; first | rwa [add_block] at this | exact this) GW157.out)) | (show (Addr.add _ _).block ≠ _; rw [add_block]; exact Nat.ne_of_lt (Nat.lt_of_lt_of_le (by have := World.block_lt_of_cell? _ _ hw170_0; first | rwa [add_block] at this | exact this) GW157.out)) | (dsimp only; exact Nat.ne_of_lt (Nat.lt_of_lt_of_le (by have := World.block_lt_of_cell? _ _ hw170_0; first | rwa [add_block] at this | exact this) GW157.out))) _ _ _ _ _ _).trans (hHeld.2.2.2.2.2.2.1)), ((cf6 (by first | exact Nat.ne_of_lt (Nat.lt_of_lt_of_le (by have := World.block_lt_of_cell? _ _ hw171_0; first | rwa [add_block] at this | exact this) GW157.out) | (rw [add_block]; exact Nat.ne_of_lt (Nat.lt_of_lt_of_le (by have := World.block_lt_of_cell? _ _ hw171_0; first | rwa [add_block] at this | exact this) GW157.out)) | (show (Addr.add _ _).block ≠ _; rw [add_block]; exact Nat.ne_of_lt (Nat.lt_of_lt_of_le (by have := World.block_lt_of_cell? _ _ hw171_0; first | rwa [add_block] at this | exact this) GW157.out)) | (dsimp only; exact Nat.ne_of_lt (Nat.lt_of_lt_of_le (by have := World.block_lt_of_cell? _ _ hw171_0; first | rwa [add_block] at this | exact this) GW157.out))) _ _ _ _ _ _).trans (hHeld.2.2.2.2.2.2.2))⟩ (fun hHeld => ?_)
 clear hK K
 refine pu 12 3 (bb 13 8191) rfl rfl (any_of HT_.out (by kernel_rfl)) (fun _ _ _ h => h) (by rfl) (fun w' => by go_simp; with_reducible rfl) (by simp only [Act.put, sA, sB, sC, i64_w, i32_w]; rfl) ?_
 refine done_ (done_of HT_.out (by kernel_rfl)) ?_
 try go_wp2
 refine bodyPost_ret (results_ct rfl _ _ gb157 26 #[.int .u32 t165, .int .u32 t168, .int .u8 (rd l0 9), .int .u8 (rd l0 8), .int .u16 (Go.bits .or .u16 (IntKind.u16.wrap ((IntKind.u16.wrap (rd l0 4)) * 256)) (IntKind.u16.wrap (rd l0 5))), .bool ((rd l0 0) == 70)] (0, 0) _ rfl (by (with_reducible repeat (first | refine blk_drewN ?_ _ | refine blk_drew ?_ | refine blk_alloc ?_ _)); refine blk_put (cs := #[.int .u32 t165, .int .u32 t168, .int .u8 (rd l0 9), .int .u8 (rd l0 8), .int .u16 (Go.bits .or .u16 (IntKind.u16.wrap ((IntKind.u16.wrap (rd l0 4)) * 256)) (IntKind.u16.wrap (rd l0 5))), .bool false]) ?_ 5 _ rfl; (with_reducible repeat (first | refine blk_drewN ?_ _ | refine blk_drew ?_ | refine blk_alloc ?_ _)); refine blk_put (cs := #[.int .u32 t165, .int .u32 t168, .int .u8 (rd l0 9), .int .u8 (rd l0 8), .int .u16 0, .bool false]) ?_ 4 _ rfl; (with_reducible repeat (first | refine blk_drewN ?_ _ | refine blk_drew ?_ | refine blk_alloc ?_ _)); refine blk_put (cs := #[.int .u32 t165, .int .u32 t168, .int .u8 (rd l0 9), .int .u8 0, .int .u16 0, .bool false]) ?_ 3 _ rfl; (with_reducible repeat (first | refine blk_drewN ?_ _ | refine blk_drew ?_ | refine blk_alloc ?_ _)); refine blk_put (cs := #[.int .u32 t165, .int .u32 t168, .int .u8 0, .int .u8 0, .int .u16 0, .bool false]) ?_ 2 _ rfl; (with_reducible repeat (first | refine blk_drewN ?_ _ | refine blk_drew ?_ | refine blk_alloc ?_ _)); refine blk_put (cs := #[.int .u32 t165, .int .u32 0, .int .u8 0, .int .u8 0, .int .u16 0, .bool false]) ?_ 1 _ rfl; (with_reducible repeat (first | refine blk_drewN ?_ _ | refine blk_drew ?_ | refine blk_alloc ?_ _)); refine blk_put (cs := #[.int .u32 0, .int .u32 0, .int .u8 0, .int .u8 0, .int .u16 0, .bool false]) ?_ 0 _ rfl; (with_reducible repeat (first | refine blk_drewN ?_ _ | refine blk_drew ?_ | refine blk_alloc ?_ _)); exact BK157.out) Try.underlying26 rfl (by kernel_rfl)) rfl ?_
 exact ⟨by first | rfl | (simp [errW_none, errW_some] <;> rfl) | (simp [*, errW_none, errW_some] <;> rfl), by repeat (first | (with_reducible first | exact HB.out | apply below_alloc | apply pw_below_drewN | apply below_drew1 | refine below_set ?_ GE157.out | refine below_set ?_ GE163.out) | exact HB.out)⟩

end Go.Proofs.Ytlaanmkangikbaa.PIp
