-- written by a program of this session (hprint.py), over the kit's printer, then made shorter (squeeze.py)
import Derived.Test.YtlaanmkangikbaaIpE
namespace Go.Proofs.Ytlaanmkangikbaa.PIp
open Go.RowKit Go.Proofs.YtlaanmkangikbaaW.PrintWords Go.Proofs.YtlaanmkangikbaaW.PrintLast Go.Proofs.YtlaanmkangikbaaW.PrintMore
attribute [local go_sem] max2_int min2_int max_two min_two max_three min_three max_four min_four   -- for this text's walks alone
set_option linter.unusedVariables false
set_option linter.unusedSimpArgs false

/-! ### ip_Decode: function 11 -/
mutual
def ip_Decode.j0 : Nat → List Int → Bool → Option (Int × Int × Int × Int × Int × Bool × List Int × Int)
 | 0, _, _ => none
 | k + 1, x0, x20 => if x20 = true then ((ip_Decode_1.f 2).bind fun bt187 => (some (bt187.1, bt187.2.1, bt187.2.2.1, bt187.2.2.2.1, bt187.2.2.2.2.1, bt187.2.2.2.2.2.1, bt187.2.2.2.2.2.2.1, bt187.2.2.2.2.2.2.2))) else (if 0 < (x0.length : Int) then ((ip_size.f ((rd x0 0) == 70)).bind fun t198 => (if (x0.length : Int) < t198 then ((ip_Decode_1.f 3).bind fun bt199 => (some (bt199.1, bt199.2.1, bt199.2.2.1, bt199.2.2.2.1, bt199.2.2.2.2.1, bt199.2.2.2.2.2.1, bt199.2.2.2.2.2.2.1, bt199.2.2.2.2.2.2.2))) else ((ip_read.f k x0).bind fun bt210 => (if 0 ≤ t198 then (if t198 ≤ (x0.length : Int) then ((sum_Whole.f (x0.take (t198 : Int).toNat)).bind fun t219 => (if t219 = true then (if 1 < (x0.length : Int) then (if (rd x0 1) = 0 then (if 6 < (x0.length : Int) then (if (rd x0 6) = 0 then (if 7 < (x0.length : Int) then (if (rd x0 7) = 0 then (if bt210.2.2.2.2.2.1 = true then (if 20 ≤ 24 then (if 24 ≤ (x0.length : Int) then ((ip_option.f).bind fun t224 => ((bytes_Equal.f ((x0.take 24).drop 20) t224).bind fun t227 => (if t227 = true then (if bt210.2.2.2.2.2.2 < t198 then (ip_Decode.j1 k x0 t198 bt210.2.2.2.2.2.2 true bt210.1 bt210.2.1 bt210.2.2.1 bt210.2.2.2.1 bt210.2.2.2.2.1 bt210.2.2.2.2.2.1) else (ip_Decode.j1 k x0 t198 bt210.2.2.2.2.2.2 (decide (bt210.2.2.2.2.2.2 > 1500)) bt210.1 bt210.2.1 bt210.2.2.1 bt210.2.2.2.1 bt210.2.2.2.2.1 bt210.2.2.2.2.2.1)) else (ip_Decode.j1 k x0 t198 bt210.2.2.2.2.2.2 true bt210.1 bt210.2.1 bt210.2.2.1 bt210.2.2.2.1 bt210.2.2.2.2.1 bt210.2.2.2.2.2.1)))) else (none)) else (none)) else (if bt210.2.2.2.2.2.2 < t198 then (ip_Decode.j1 k x0 t198 bt210.2.2.2.2.2.2 true bt210.1 bt210.2.1 bt210.2.2.1 bt210.2.2.2.1 bt210.2.2.2.2.1 bt210.2.2.2.2.2.1) else (ip_Decode.j1 k x0 t198 bt210.2.2.2.2.2.2 (decide (bt210.2.2.2.2.2.2 > 1500)) bt210.1 bt210.2.1 bt210.2.2.1 bt210.2.2.2.1 bt210.2.2.2.2.1 bt210.2.2.2.2.2.1))) else (ip_Decode.j1 k x0 t198 bt210.2.2.2.2.2.2 true bt210.1 bt210.2.1 bt210.2.2.1 bt210.2.2.2.1 bt210.2.2.2.2.1 bt210.2.2.2.2.2.1)) else (none)) else (ip_Decode.j1 k x0 t198 bt210.2.2.2.2.2.2 true bt210.1 bt210.2.1 bt210.2.2.1 bt210.2.2.2.1 bt210.2.2.2.2.1 bt210.2.2.2.2.2.1)) else (none)) else (ip_Decode.j1 k x0 t198 bt210.2.2.2.2.2.2 true bt210.1 bt210.2.1 bt210.2.2.1 bt210.2.2.2.1 bt210.2.2.2.2.1 bt210.2.2.2.2.2.1)) else (none)) else ((ip_Decode_1.f 4).bind fun bt248 => (some (bt248.1, bt248.2.1, bt248.2.2.1, bt248.2.2.2.1, bt248.2.2.2.2.1, bt248.2.2.2.2.2.1, bt248.2.2.2.2.2.2.1, bt248.2.2.2.2.2.2.2))))) else (none)) else (none))))) else (none))
def ip_Decode.j1 : Nat → List Int → Int → Int → Bool → Int → Int → Int → Int → Int → Bool → Option (Int × Int × Int × Int × Int × Bool × List Int × Int)
 | 0, _, _, _, _, _, _, _, _, _, _ => none
 | k + 1, x0, x6, x8, x71, x218000, x218001, x218002, x218003, x218004, x218005 => if x71 = true then ((ip_Decode_1.f 2).bind fun bt228 => (some (bt228.1, bt228.2.1, bt228.2.2.1, bt228.2.2.2.1, bt228.2.2.2.2.1, bt228.2.2.2.2.2.1, bt228.2.2.2.2.2.2.1, bt228.2.2.2.2.2.2.2))) else (if (x0.length : Int) < x8 then ((ip_Decode_1.f 3).bind fun bt238 => (some (bt238.1, bt238.2.1, bt238.2.2.1, bt238.2.2.2.1, bt238.2.2.2.2.1, bt238.2.2.2.2.2.1, bt238.2.2.2.2.2.2.1, bt238.2.2.2.2.2.2.2))) else (if 0 ≤ x6 then (if x6 ≤ x8 then (if x8 ≤ (x0.length : Int) then ((ip_Encode.f k x218000 x218001 x218002 x218003 x218004 x218005 ((x0.take (x8 : Int).toNat).drop (x6 : Int).toNat)).bind fun bt259 => (if 10 < (bt259.1.length : Int) then (if 10 < (x0.length : Int) then (if (rd bt259.1 10) = (rd x0 10) then (if 11 < (bt259.1.length : Int) then (if 11 < (x0.length : Int) then (ip_Decode.j2 k x0 x6 x8 ((rd bt259.1 11) != (rd x0 11)) x218000 x218001 x218002 x218003 x218004 x218005) else (none)) else (none)) else (ip_Decode.j2 k x0 x6 x8 true x218000 x218001 x218002 x218003 x218004 x218005)) else (none)) else (none))) else (none)) else (none)) else (none)))
def ip_Decode.j2 : Nat → List Int → Int → Int → Bool → Int → Int → Int → Int → Int → Bool → Option (Int × Int × Int × Int × Int × Bool × List Int × Int)
 | 0, _, _, _, _, _, _, _, _, _, _ => none
 | k + 1, x0, x6, x8, x147, x218000, x218001, x218002, x218003, x218004, x218005 => if x147 = true then ((ip_Decode_1.f 4).bind fun bt267 => (some (bt267.1, bt267.2.1, bt267.2.2.1, bt267.2.2.2.1, bt267.2.2.2.2.1, bt267.2.2.2.2.2.1, bt267.2.2.2.2.2.2.1, bt267.2.2.2.2.2.2.2))) else (if 0 ≤ x6 then (if x6 ≤ x8 then (if x8 ≤ (x0.length : Int) then ((slices_Clone.f ((x0.take (x8 : Int).toNat).drop (x6 : Int).toNat)).bind fun t278 => (some (x218000, x218001, x218002, x218003, x218004, x218005, t278, 0))) else (none)) else (none)) else (none))
end
def ip_Decode.f (k : Nat) (l0 : List Int) : Option (Int × Int × Int × Int × Int × Bool × List Int × Int) := if (l0.length : Int) < 20 then ((ip_Decode_1.f 3).bind fun bt175 => (some (bt175.1, bt175.2.1, bt175.2.2.1, bt175.2.2.2.1, bt175.2.2.2.2.1, bt175.2.2.2.2.2.1, bt175.2.2.2.2.2.2.1, bt175.2.2.2.2.2.2.2))) else (if 0 < (l0.length : Int) then (if (rd l0 0) = 69 then (ip_Decode.j0 k l0 false) else (ip_Decode.j0 k l0 ((rd l0 0) != 70))) else (none))
theorem ip_Decode.mono_l : ∀ k, (∀ y0 y1, LeO (ip_Decode.j0 k y0 y1) (ip_Decode.j0 (k + 1) y0 y1)) ∧ (∀ y0 y1 y2 y3 y4 y5 y6 y7 y8 y9, LeO (ip_Decode.j1 k y0 y1 y2 y3 y4 y5 y6 y7 y8 y9) (ip_Decode.j1 (k + 1) y0 y1 y2 y3 y4 y5 y6 y7 y8 y9)) ∧ (∀ y0 y1 y2 y3 y4 y5 y6 y7 y8 y9, LeO (ip_Decode.j2 k y0 y1 y2 y3 y4 y5 y6 y7 y8 y9) (ip_Decode.j2 (k + 1) y0 y1 y2 y3 y4 y5 y6 y7 y8 y9))
 | 0 => ⟨fun _ _ r h => by simp [ip_Decode.j0] at h, fun _ _ _ _ _ _ _ _ _ _ r h => by simp [ip_Decode.j1] at h, fun _ _ _ _ _ _ _ _ _ _ r h => by simp [ip_Decode.j2] at h⟩
 | k + 1 => by
  obtain ⟨ih0, ih1, ih2⟩ := ip_Decode.mono_l k
  refine ⟨?_, ?_, ?_⟩
  · intro y0 y1
    unfold ip_Decode.j0
    repeat' first
    | (with_reducible exact ih0 _ _)
    | (with_reducible exact ih1 _ _ _ _ _ _ _ _ _ _)
    | (with_reducible exact ih2 _ _ _ _ _ _ _ _ _ _)
    | (with_reducible exact ip_Encode.mono _ _ _ _ _ _ _ _)
    | (with_reducible exact ip_read.mono _ _)
    | (with_reducible exact LeO.refl _)
    | (with_reducible exact LeO.none _)
    | (with_reducible refine LeO.ite ?_ ?_)
    | (with_reducible refine LeO.bind ?_ (fun _ => ?_))
    | exact ih0 _ _
    | exact ih1 _ _ _ _ _ _ _ _ _ _
    | exact ih2 _ _ _ _ _ _ _ _ _ _
    | exact ip_Encode.mono _ _ _ _ _ _ _ _
    | exact ip_read.mono _ _
    | exact LeO.none _
    | refine LeO.ite ?_ ?_
    | refine LeO.bind ?_ (fun _ => ?_)
  · intro y0 y1 y2 y3 y4 y5 y6 y7 y8 y9
    unfold ip_Decode.j1
    repeat' first
    | (with_reducible exact ih0 _ _)
    | (with_reducible exact ih1 _ _ _ _ _ _ _ _ _ _)
    | (with_reducible exact ih2 _ _ _ _ _ _ _ _ _ _)
    | (with_reducible exact ip_Encode.mono _ _ _ _ _ _ _ _)
    | (with_reducible exact ip_read.mono _ _)
    | (with_reducible exact LeO.refl _)
    | (with_reducible exact LeO.none _)
    | (with_reducible refine LeO.ite ?_ ?_)
    | (with_reducible refine LeO.bind ?_ (fun _ => ?_))
    | exact ih0 _ _
    | exact ih1 _ _ _ _ _ _ _ _ _ _
    | exact ih2 _ _ _ _ _ _ _ _ _ _
    | exact ip_Encode.mono _ _ _ _ _ _ _ _
    | exact ip_read.mono _ _
    | exact LeO.none _
    | refine LeO.ite ?_ ?_
    | refine LeO.bind ?_ (fun _ => ?_)
  · intro y0 y1 y2 y3 y4 y5 y6 y7 y8 y9
    unfold ip_Decode.j2
    repeat' first
    | (with_reducible exact ih0 _ _)
    | (with_reducible exact ih1 _ _ _ _ _ _ _ _ _ _)
    | (with_reducible exact ih2 _ _ _ _ _ _ _ _ _ _)
    | (with_reducible exact ip_Encode.mono _ _ _ _ _ _ _ _)
    | (with_reducible exact ip_read.mono _ _)
    | (with_reducible exact LeO.refl _)
    | (with_reducible exact LeO.none _)
    | (with_reducible refine LeO.ite ?_ ?_)
    | (with_reducible refine LeO.bind ?_ (fun _ => ?_))
    | exact ih0 _ _
    | exact ih1 _ _ _ _ _ _ _ _ _ _
    | exact ih2 _ _ _ _ _ _ _ _ _ _
    | exact ip_Encode.mono _ _ _ _ _ _ _ _
    | exact ip_read.mono _ _
    | exact LeO.none _
    | refine LeO.ite ?_ ?_
    | refine LeO.bind ?_ (fun _ => ?_)
theorem ip_Decode.mono : ∀ a0 k, LeO (ip_Decode.f k a0) (ip_Decode.f (k + 1) a0) := by
 intro a0 k
 obtain ⟨ih0, ih1, ih2⟩ := ip_Decode.mono_l k
 unfold ip_Decode.f
 repeat' first
  | (with_reducible exact ih0 _ _)
  | (with_reducible exact ih1 _ _ _ _ _ _ _ _ _ _)
  | (with_reducible exact ih2 _ _ _ _ _ _ _ _ _ _)
  | (with_reducible exact ip_Encode.mono _ _ _ _ _ _ _ _)
  | (with_reducible exact ip_read.mono _ _)
  | (with_reducible exact LeO.refl _)
  | (with_reducible exact LeO.none _)
  | (with_reducible refine LeO.ite ?_ ?_)
  | (with_reducible refine LeO.bind ?_ (fun _ => ?_))
  | exact ih0 _ _
  | exact ih1 _ _ _ _ _ _ _ _ _ _
  | exact ih2 _ _ _ _ _ _ _ _ _ _
  | exact ip_Encode.mono _ _ _ _ _ _ _ _
  | exact ip_read.mono _ _
  | exact LeO.none _
  | refine LeO.ite ?_ ?_
  | refine LeO.bind ?_ (fun _ => ?_)
def ip_Decode.T12 : Bool × List (List Nat × List Nat) := (true, [([], []), ([0], [0]), ([1], [1]), ([2], [2]), ([3], [3]), ([4], [4]), ([5, 4], [4, 5]), ([6, 4], [4, 6]), ([7, 4], [4, 7]), ([4, 8], [4, 8]), ([9, 4], [9]), ([10], [10]), ([11, 10], [10, 11]), ([12, 10], [10, 12]), ([13, 10], [10, 13]), ([10, 14], [10, 14]), ([15, 10], [15]), ([16], [16]), ([17, 16], [16, 17]), ([18, 16, 16], [16, 18]), ([19], [19]), ([20, 19], [19, 20]), ([19, 19], [19]), ([21, 22, 22, 19], [19, 21, 22]), ([23, 19], [19, 23]), ([19, 24, 16], [16, 19, 24]), ([16, 25], [16, 25]), ([26, 23], [26]), ([27], [27]), ([27], [27]), ([28, 29, 27], [27, 28, 29]), ([27, 30], [27, 30]), ([31, 27], [31]), ([32], [32]), ([33, 32], [32, 33]), ([32, 34], [32, 34]), ([35, 32], [35])])
def ip_Decode.B12 : List Nat := [0, 1, 3, 7, 15, 31, 63, 127, 255, 511, 1023, 2047, 4095, 8191, 16383, 32767, 65535, 131071, 262143, 524287, 1048575, 2097151, 1048575, 8388607, 16777215, 33554431, 67108863, 134217727, 268435455, 268435455, 1073741823, 2147483647, 4294967295, 8589934591, 17179869183, 34359738367, 68719476735]
theorem ip_Decode.tab12 : rtab .any (opsOf Try.f11 12) = ip_Decode.T12 := by kernel_rfl
theorem ip_Decode.bits12 : waitsOk ip_Decode.T12.2 ip_Decode.B12 = true := by kernel_rfl
def ip_Decode.T16 : Bool × List (List Nat × List Nat) := (true, [([], []), ([], []), ([], []), ([], []), ([1, 2, 3], [1, 2, 3]), ([0, 4], [0, 4]), ([5], [5]), ([6], [6]), ([6], [6]), ([7, 5, 0, 1, 2, 3, 4, 5, 6, 7], [7]), ([8, 9, 0, 1, 2, 3, 4, 5, 6, 7, 8, 9], [8])])
def ip_Decode.B16 : List Nat := [0, 0, 0, 0, 14, 31, 63, 127, 127, 255, 1023]
theorem ip_Decode.tab16 : rtab .any (opsOf Try.f11 16) = ip_Decode.T16 := by kernel_rfl
theorem ip_Decode.bits16 : waitsOk ip_Decode.T16.2 ip_Decode.B16 = true := by kernel_rfl
def ip_Decode.T17 : Bool × List (List Nat × List Nat) := (true, [([], []), ([0], [0]), ([1], [1]), ([], []), ([3], [3]), ([4], [4]), ([2, 5], [2, 5]), ([6], [6]), ([7], [7]), ([8, 7], [7, 8]), ([9, 7], [7, 9]), ([7], [7]), ([11, 7], [7, 11]), ([12, 7], [7, 12]), ([10, 13, 7], [7, 10, 13]), ([7, 14], [7, 14])])
def ip_Decode.B17 : List Nat := [0, 1, 3, 0, 8, 24, 63, 127, 255, 511, 1023, 255, 2303, 6399, 16383, 32767]
theorem ip_Decode.tab17 : rtab .any (opsOf Try.f11 17) = ip_Decode.T17 := by kernel_rfl
theorem ip_Decode.bits17 : waitsOk ip_Decode.T17.2 ip_Decode.B17 = true := by kernel_rfl
def ip_Decode.T19 : Bool × List (List Nat × List Nat) := (true, [([], []), ([], []), ([], []), ([], []), ([1, 2, 3], [1, 2, 3]), ([4], [4]), ([0, 5, 0], [0]), ([5, 6, 0, 1, 2, 3, 4, 5, 6], [5]), ([7, 0, 1, 2, 3, 4, 5, 6, 7], [])])
def ip_Decode.B19 : List Nat := [0, 0, 0, 0, 14, 30, 63, 127, 255]
theorem ip_Decode.tab19 : rtab .any (opsOf Try.f11 19) = ip_Decode.T19 := by kernel_rfl
theorem ip_Decode.bits19 : waitsOk ip_Decode.T19.2 ip_Decode.B19 = true := by kernel_rfl
end Go.Proofs.Ytlaanmkangikbaa.PIp
