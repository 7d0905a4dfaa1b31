/-
  Package set: those of two sets that stay: Union, Inter, Minus.
-/
import Derived.Test.YtkhljamellgcfaaSetA
import Derived.RangeFuncBox
import Derived.Maps.AppendAt
namespace Go.Proofs.Ytkhljamellgcfaa
open Go.RowKit Go.Shelf Go.Proofs.YtkhljamellgcfaaW.PrintWords
attribute [local go_sem] Oper.semAt_some

theorem both_calls (A B : Option Addr) (m n c d : Nat) (w : World) :
    Calls Try.prog 41 #[.slice A m c, .slice B n d] w fun e w' => e = .returned (.func (.func 47) #[] #[.pointer (some ⟨w.heap.size, 0, none⟩), .pointer (some ⟨w.heap.size + 1, 0, none⟩)]) ∧
      w' = (w.alloc (.cells #[.slice A m c] 27)).alloc (.cells #[.slice B n d] 27) := by
  go_enter Try.func41, Try.ntmps41
  go_wp2
  go_ret
  exact ⟨rfl, rfl⟩

theorem stays33 (x y : Bool) (w : World) : Calls Try.prog 33 #[.agg #[.bool x, .bool y]] w fun e w' => e = .returned (.bool (x || y)) ∧ Below w.heap.size w w' := by
  go_enter Try.func33, Try.ntmps33
  cases x <;> cases y <;> go_wp2 <;> (try go_region) <;> (try go_wp2) <;> go_ret <;> exact ⟨rfl, by repeat (first | exact Below.refl _ _ | exact ((Below.refl _ _).alloc (Nat.le_refl _) _) | apply Below.drew)⟩
theorem stays34 (x y : Bool) (w : World) : Calls Try.prog 34 #[.agg #[.bool x, .bool y]] w fun e w' => e = .returned (.bool (x && y)) ∧ Below w.heap.size w w' := by
  go_enter Try.func34, Try.ntmps34
  cases x <;> cases y <;> go_wp2 <;> (try go_region) <;> (try go_wp2) <;> go_ret <;> exact ⟨rfl, by repeat (first | exact Below.refl _ _ | exact ((Below.refl _ _).alloc (Nat.le_refl _) _) | apply Below.drew)⟩
theorem stays35 (x y : Bool) (w : World) : Calls Try.prog 35 #[.agg #[.bool x, .bool y]] w fun e w' => e = .returned (.bool (x && !y)) ∧ Below w.heap.size w w' := by
  go_enter Try.func35, Try.ntmps35
  cases x <;> cases y <;> go_wp2 <;> (try go_region) <;> (try go_wp2) <;> go_ret <;> exact ⟨rfl, by repeat (first | exact Below.refl _ _ | exact ((Below.refl _ _).alloc (Nat.le_refl _) _) | apply Below.drew)⟩

/-- Those that stay. -/
def selOf (p : Bool → Bool → Bool) (l : List (Int × Bool × Bool)) : List Int := (l.filter fun x => p x.2.1 x.2.2).map (·.1)
theorem selOf_hit {p : Bool → Bool → Bool} (pre : List (Int × Bool × Bool)) {x : Int × Bool × Bool} (h : p x.2.1 x.2.2 = true) : selOf p (pre ++ [x]) = selOf p pre ++ [x.1] := by simp [selOf, h]
theorem selOf_miss {p : Bool → Bool → Bool} (pre : List (Int × Bool × Bool)) {x : Int × Bool × Bool} (h : p x.2.1 x.2.2 = false) : selOf p (pre ++ [x]) = selOf p pre := by simp [selOf, h]
theorem selOf_len (p : Bool → Bool → Bool) (l : List (Int × Bool × Bool)) : (selOf p l).length ≤ l.length := by
  unfold selOf; rw [List.length_map]; exact List.length_filter_le _ _
theorem bothOf_len (a b : List Int) : (bothOf a b).length ≤ a.length + b.length := by
  induction a, b using bothOf.induct with
  | case1 => simp [bothOf]
  | case2 x a ih => rw [bothOf]; simp only [List.length_cons, List.length_nil] at *; omega
  | case3 y b ih => rw [bothOf]; simp only [List.length_cons, List.length_nil] at *; omega
  | case4 x a y b h ih => rw [bothOf, if_pos h]; simp only [List.length_cons] at *; omega
  | case5 x a y b h h' ih => rw [bothOf, if_neg h, if_pos h']; simp only [List.length_cons] at *; omega
  | case6 x a y b h h' ih => rw [bothOf, if_neg h, if_neg h']; simp only [List.length_cons] at *; omega

theorem info24 : (Try.prog.info? 24).map (fun i => (i.zero, i.size, i.bytes)) = some (some (.int .u32 0), 1, 4) := by kernel_rfl

end Go.Proofs.Ytkhljamellgcfaa
