/-
  A call of a function value that catches nothing, as an arm of a walk; a row of truths told by a number.
-/
import Derived.Test.YtbllchfgjginoaaVMore
import Derived.Test.YtbllchfgjginoaaVGuard
import Derived.Test.YtbllchfgjginoaaVLast
import Derived.Test.YtbllchfgjginoaaVTab
import Derived.Test.YtbllchfgjginoaaVN
import Derived.RangeFuncNested
import Derived.Shelf.Abstract
import Derived.RangeFuncBound
import Derived.RangeFuncCalls
import Derived.RangeFuncLeaves
import Derived.WalkKit
import Derived.OwnWalkIn
import Derived.TacticsInMore
import Derived.LoopNIn
import Derived.LoopIn
import Derived.Sort.AssemblyPlain
import Derived.Lib.Walk
import Derived.IntWalk
import Derived.Sort.Row
import Derived.Lib.Hide
import Derived.RegionTactic
import Derived.ChangeAlike
import Derived.Deep.Draws
import Derived.Deep.QuietTactic
import Derived.BigCall
import Derived.BigGuard
import Derived.CellFam
import Derived.BigQuiet
import Derived.Test.YtbllchfgjginoaaProg
import Derived.Deep.DeepCutAuto
import Derived.Deep.CutBlock
import Derived.Laws.BitsLemmas
namespace Go.Proofs.Ytbllchfgjginoaa
open Go.RowKit Go.Proofs.YtbllchfgjginoaaW.PrintWords Go.Proofs.YtbllchfgjginoaaW.PrintLast Go.Proofs.YtbllchfgjginoaaW.PrintMore

/-- n truths: the bits of m. -/
def bb (n m : Nat) : Array Bool := ((List.range n).map fun i => m.testBit i).toArray

/-! what is known of a block's cells -/
theorem cf2 {w : World} {g t : Nat} {a0 a1 : Value} (h : w.heap[g]? = some (.cells #[a0, a1] t (0, 0))) : w.cell? ⟨g, 0, none⟩ = some a0 ∧ w.cell? ⟨g, 1, none⟩ = some a1 ∧ w.frozen? ⟨g, 0, none⟩ = false ∧ w.frozen? ⟨g, 1, none⟩ = false :=
  ⟨(blk_cell h 0).trans rfl, (blk_cell h 1).trans rfl, blk_frozen h 0, blk_frozen h 1⟩
theorem cf4 {w : World} {g t : Nat} {a0 a1 a2 a3 : Value} (h : w.heap[g]? = some (.cells #[a0, a1, a2, a3] t (0, 0))) : w.cell? ⟨g, 0, none⟩ = some a0 ∧ w.cell? ⟨g, 1, none⟩ = some a1 ∧ w.cell? ⟨g, 2, none⟩ = some a2 ∧ w.cell? ⟨g, 3, none⟩ = some a3 ∧ w.frozen? ⟨g, 0, none⟩ = false ∧ w.frozen? ⟨g, 1, none⟩ = false ∧ w.frozen? ⟨g, 2, none⟩ = false ∧ w.frozen? ⟨g, 3, none⟩ = false :=
  ⟨(blk_cell h 0).trans rfl, (blk_cell h 1).trans rfl, (blk_cell h 2).trans rfl, (blk_cell h 3).trans rfl, blk_frozen h 0, blk_frozen h 1, blk_frozen h 2, blk_frozen h 3⟩
theorem cf8 {w : World} {g t : Nat} {a0 a1 a2 a3 a4 a5 a6 a7 : Value} (h : w.heap[g]? = some (.cells #[a0, a1, a2, a3, a4, a5, a6, a7] t (0, 0))) : w.cell? ⟨g, 0, none⟩ = some a0 ∧ w.cell? ⟨g, 1, none⟩ = some a1 ∧ w.cell? ⟨g, 2, none⟩ = some a2 ∧ w.cell? ⟨g, 3, none⟩ = some a3 ∧ w.cell? ⟨g, 4, none⟩ = some a4 ∧ w.cell? ⟨g, 5, none⟩ = some a5 ∧ w.cell? ⟨g, 6, none⟩ = some a6 ∧ w.cell? ⟨g, 7, none⟩ = some a7 ∧ w.frozen? ⟨g, 0, none⟩ = false ∧ w.frozen? ⟨g, 1, none⟩ = false ∧ w.frozen? ⟨g, 2, none⟩ = false ∧ w.frozen? ⟨g, 3, none⟩ = false ∧ w.frozen? ⟨g, 4, none⟩ = false ∧ w.frozen? ⟨g, 5, none⟩ = false ∧ w.frozen? ⟨g, 6, none⟩ = false ∧ w.frozen? ⟨g, 7, none⟩ = false :=
  ⟨(blk_cell h 0).trans rfl, (blk_cell h 1).trans rfl, (blk_cell h 2).trans rfl, (blk_cell h 3).trans rfl, (blk_cell h 4).trans rfl, (blk_cell h 5).trans rfl, (blk_cell h 6).trans rfl, (blk_cell h 7).trans rfl, blk_frozen h 0, blk_frozen h 1, blk_frozen h 2, blk_frozen h 3, blk_frozen h 4, blk_frozen h 5, blk_frozen h 6, blk_frozen h 7⟩
section
variable {P : Program} {ops : Array Oper} {Q : Exit → Act → World → Prop}
end
section
variable {P : Program} {ops : Array Oper} {Q : Exit → Act → World → Prop} {md : Region.Mode} {S : World → Prop} {ds : List Nat}
end
end Go.Proofs.Ytbllchfgjginoaa
/-
  What is known, brought from world to world.
-/
namespace Go.Proofs.Ytbllchfgjginoaa
open Go.RowKit Go.Proofs.YtbllchfgjginoaaW.PrintWords
theorem mvB {w w1 : World} {g : Nat} {o : Obj} (h : Aside0 (w.heap[g]? = some o)) (hB : Below w.heap.size w w1) : Aside0 (w1.heap[g]? = some o) := ⟨blk_below h.out hB⟩
theorem mvH {w0 w w1 : World} (h : Aside0 (Below w0.heap.size w0 w)) (hB : Below w.heap.size w w1) : Aside0 (Below w0.heap.size w0 w1) := ⟨h.out.trans (hB.mono h.out.size)⟩
theorem mvR {α : Type} {d : Kd α} {e base : Nat} {ok : Nat → Prop} {v : Value} {xs : List α} {w w1 : World} (h : Aside0 (Kd.R d e w base ok v xs)) (hB : Below w.heap.size w w1) : Aside0 (Kd.R d e w1 base ok v xs) := ⟨Kd.R_below h.out hB⟩
theorem mvC {α : Type} {d : Kd α} {A : Option Addr} {n : Nat} {xs : List α} {w w1 : World} (h : Aside0 (Kd.C d w A n xs)) (hB : Below w.heap.size w w1) : Aside0 (Kd.C d w1 A n xs) := ⟨Kd.C_below h.out hB⟩
end Go.Proofs.Ytbllchfgjginoaa
/-
  Steps of a walk in short words: what each asks is proved where it stands.
-/
namespace Go.Proofs.Ytbllchfgjginoaa
open Go.RowKit Go.Proofs.YtbllchfgjginoaaW.PrintWords Go.Proofs.YtbllchfgjginoaaW.PrintLast Go.Proofs.YtbllchfgjginoaaW.PrintMore
section
variable {P : Program} {ops : Array Oper} {Q : Exit → Act → World → Prop} {md : Region.Mode} {S : World → Prop} {ds : List Nat} {T : Bool × List (List Nat × List Nat)} {B : List Nat} {fuel : Nat} {oi : Oper} {v : Value} {l : Array Bool} {a a' : Act} {w : World}
theorem pw (i : Nat) (N : Tmp) (l' : Array Bool) (hi : ops[i]? = some oi) (hN : oi.dst = some N) (HT : Aside0 (rtab md ops = T)) (h : wpAnyLast P md ops Q S ds fuel l' a' w)
    (hw : Region.wanted oi (yielded ops a.tmps) = true := by rfl)
    (hy : ∀ w, (execOp a.eval oi).run P w = .ok (.value v) w := by (intro w'; go_simp; with_reducible rfl)) (ha : a.put (some N) v = a' := by (simp only [Act.put, List.setIfInBounds_toArray, List.set_cons_zero, List.set_cons_succ, i64_w, i32_w]; rfl)) (hk : anyT T l.toList l'.toList i = true := by kernel_rfl) (hQ : ∀ c a w, Q (.panic c) (a.put oi.dst v) w → Q (.panic c) a w := by exact fun _ _ _ h => h) : wpAnyLast P md ops Q S ds (fuel + 1) l a w :=
  pure_ l' hi hN (any_of HT.out hk) hQ (Or.inl ⟨hw, hy⟩) ha h
theorem tk (i : Nat) (N : Tmp) (l' : Array Bool) (hi : ops[i]? = some oi) (hN : oi.dst = some N) (HT : Aside0 (rtab md ops = T)) (HW : Aside0 (waitsOk T.2 B = true)) (hS : S w) (h : wpAnyLast P md ops Q S ds fuel l' a' w)
    (hw : Region.wanted oi (yielded ops a.tmps) = true := by rfl)
    (hy : ∀ w, S w → (execOp a.eval oi).run P w = .ok (.value v) w := by (intro w' s_; go_simp; with_reducible rfl)) (ha : a.put (some N) v = a' := by (simp only [Act.put, List.setIfInBounds_toArray, List.set_cons_zero, List.set_cons_succ, i64_w, i32_w]; rfl)) (hk : takeW T B ds l.toList l'.toList i = true := by kernel_rfl) (hQ : ∀ c a w, Q (.panic c) (a.put oi.dst v) w → Q (.panic c) a w := by exact fun _ _ _ h => h) : wpAnyLast P md ops Q S ds (fuel + 1) l a w :=
  take_ l' hi hN (take_ofW HT.out HW.out hk) hQ (Or.inl ⟨hw, hy⟩) hS ha h
theorem nm (h : wpAnyLast P md ops Q S ds fuel l a' w) (ha : a = a' := by (show Act.put _ _ _ = _; simp only [Act.put, List.setIfInBounds_toArray, List.set_cons_zero, List.set_cons_succ, i64_w, i32_w]; rfl)) : wpAnyLast P md ops Q S ds fuel l a w := norm_ ha h
theorem on1 (i : Nat) (N : Option Tmp) (l' : Array Bool) (hi : ops[i]? = some oi) (hN : oi.dst = N) (HT : Aside0 (rtab md ops = T))
    (h : ∀ K : Act → World → Prop, Shut (∀ a' w', S w' → (S w' → wpAnyLast P md ops Q S ds fuel l' a' w') → K a' w') → if Region.wanted oi (yielded ops a.tmps) = true then Oper.wp P oi a w K Q else K (a.put N undef) w)
    (hk : (readyT T.2 l.toList == [i] && l.toList.set i true == l'.toList) = true := by kernel_rfl) (hd : i ∉ ds := by decide) : wpAnyLast P md ops Q S ds (fuel + 1) l a w :=
  one_ l' hi hN (one_of HT.out hk) hd h
theorem gfn {N : Option Tmp} {K : Act → World → Prop} {f : FuncId} {fn : Func} {aa : Array Operand} {ts : Array TypeId} (hf : P.funcs[f]? = some fn) (args : Array Value) (h : Calls P f args w fun e w' => ∃ v, e = .returned v ∧ K (a.put N v) w')
    (hname : (fn.name == "runtime.NumGoroutine") = false := by kernel_rfl) (hb : fn.body.isSome = true := by rfl) (hw : Region.wanted oi (yielded ops a.tmps) = true := by rfl) (hN : oi.dst = N := by rfl)
    (hop : oi.op = .call { callee := .value (.func f), args := aa, argTypes := ts } := by rfl) (hargs : aa.map a.eval = args := by ((try simp only [List.map_toArray, List.map_cons, List.map_nil]); first | done | rfl | (simp only [List.length_drop, List.length_take]; rfl))) :
    if Region.wanted oi (yielded ops a.tmps) = true then Oper.wp P oi a w K Q else K (a.put N undef) w := goes_ hf hname hb args hw hN hop hargs h
end
section
variable {P : Program} {ops : Array Oper} {Q : Exit → Act → World → Prop} {rest : List Oper} {o : Oper} {a : Act} {W : World}
theorem bxn {N : Tmp} {cs : Array Value} {t : TypeId} (h : ∀ g, g = W.heap.size → ∀ w1, w1.heap[g]? = some (.cells cs t (0, 0)) → Below W.heap.size W w1 → wpList P ops Q rest (a.put o.dst (.pointer (some ⟨g, 0, none⟩))) w1)
    (hgd : o.guard = none := by rfl) (hd : o.dst = some N := by rfl) (hrun : (execOp a.eval o).run P W = .ok (.value (.pointer (some ⟨W.heap.size, 0, none⟩))) (W.alloc (.cells cs t (0, 0))) := by first | (go_simp; done) | (go_simp; rfl)) : wpList P ops Q (o :: rest) a W :=
  box_event hgd hd hrun h
end
theorem od {p : Prop} [Decidable p] (h : decide p = true := by first | (with_reducible assumption) | assumption) : p := of_decide_eq_true h
theorem hcz {w w' : World} {p : Addr} {v : Value} (H : Aside0 (Below w.heap.size w w')) (h : w.cell? p = some v) : w'.cell? p = some v := (H.out.cell (World.block_lt_of_cell? w p h)).trans h
end Go.Proofs.Ytbllchfgjginoaa
/-
  Facts brought through allocations and draws, in short words.
-/
namespace Go.Proofs.Ytbllchfgjginoaa
open Go.RowKit Go.Proofs.YtbllchfgjginoaaW.PrintWords Go.Proofs.YtbllchfgjginoaaW.PrintLast Go.Proofs.YtbllchfgjginoaaW.PrintMore
theorem ba {p q : Prop} (h : p) (t : p → q := by (intro h_; (with_reducible repeat (first | refine blk_alloc ?_ _ | refine blk_drewN ?_ _ | refine blk_drew ?_)); exact h_)) : q := t h
theorem rad {p q : Prop} (h : p) (t : p → q := by (intro h_; (with_reducible repeat (first | apply Kd.R_alloc | apply Kd.R_drewN | apply Kd.R_drew | apply Kd.V_alloc | apply Kd.V_drewN | apply Kd.V_drew | apply Kd.N_alloc | apply Kd.N_drewN | apply Kd.N_drew)); exact h_)) : q := t h
theorem bl {p q : Prop} (h : Aside0 p) (t : p → q := by (intro h_; repeat (first | (with_reducible first | exact h_ | apply below_alloc | apply pw_below_drewN | apply below_drew1 | refine below_set ?_ (Aside0.out (by assumption))) | exact h_))) : q := t h.out
theorem ca {p q : Prop} (h : p) (t : p → q := by (intro h_; repeat (first | exact h_ | (with_reducible refine Kd.C_alloc ?_ _) | (with_reducible refine Kd.C_drewN ?_ _) | (with_reducible refine Kd.C_drew ?_)))) : q := t h
theorem fr {p : Prop} (h : p := by first | rfl | (simp; done) | (simp [*]; done)) : p := h
theorem nl {p : Prop} (h : p := by first | exact Kd.R_nil _ _ _ _ _ | exact Kd.N_nil _ _ _ _ _ | exact Kd.V_nil _ _ _ _ _ | exact Kd.Q_nil _ _ _ _ _ | exact Kd.S_nil _ _ _ _ _) : p := h
theorem cf1 {w : World} {g t : Nat} {a0 : Value} (h : w.heap[g]? = some (.cells #[a0] t (0, 0))) : w.cell? ⟨g, 0, none⟩ = some a0 ∧ w.frozen? ⟨g, 0, none⟩ = false := ⟨(blk_cell h 0).trans rfl, blk_frozen h 0⟩
end Go.Proofs.Ytbllchfgjginoaa
/-
  Laws for a range over a function whose body may write memory: a footprint is carried along. By a session.
-/
namespace Go.Proofs.Ytbllchfgjginoaa
open Go.RowKit

/-- Off φ: the blocks of φ may have turned, and new ones may be there; all else is as it was. -/
structure Off (φ : Nat → Prop) (w w' : World) : Prop where
  os : w'.os = w.os
  tape : w'.tape = w.tape
  output : w'.output = w.output
  size : w.heap.size ≤ w'.heap.size
  block : ∀ k, k < w.heap.size → ¬ φ k → w'.heap[k]? = w.heap[k]?

namespace Off
variable {φ ψ : Nat → Prop} {a b c w w' : World}
theorem refl (φ : Nat → Prop) (w : World) : Off φ w w := ⟨rfl, rfl, rfl, Nat.le_refl _, fun _ _ _ => rfl⟩
theorem trans (h : Off φ a b) (k : Off φ b c) : Off φ a c :=
  ⟨k.os.trans h.os, k.tape.trans h.tape, k.output.trans h.output, Nat.le_trans h.size k.size,
    fun i hi hn => (k.block i (Nat.lt_of_lt_of_le hi h.size) hn).trans (h.block i hi hn)⟩
theorem mono (h : Off φ a b) (hk : ∀ k, k < a.heap.size → φ k → ψ k) : Off ψ a b :=
  ⟨h.os, h.tape, h.output, h.size, fun i hi hn => h.block i hi (fun hp => hn (hk i hi hp))⟩
theorem then_ (h : Off φ a b) (k : Off ψ b c) (hk : ∀ i, i < a.heap.size → ψ i → φ i) : Off φ a c :=
  ⟨k.os.trans h.os, k.tape.trans h.tape, k.output.trans h.output, Nat.le_trans h.size k.size,
    fun i hi hn => (k.block i (Nat.lt_of_lt_of_le hi h.size) (fun hp => hn (hk i hi hp))).trans (h.block i hi hn)⟩
theorem drew (h : Off φ a w) : Off φ a w.drew := ⟨h.os, h.tape, h.output, h.size, h.block⟩
theorem alloc (h : Off φ a w) (o : Obj) : Off φ a (w.alloc o) :=
  h.trans ⟨rfl, rfl, rfl, by simp, fun k hk _ => Below.heap_alloc _ _ _ hk⟩
theorem setCell (h : Off φ a w) {p : Addr} (hp : p.block < a.heap.size → φ p.block) (u : Value) : Off φ a (w.setCell p u) :=
  h.then_ (ψ := fun k => k = p.block) ⟨rfl, rfl, rfl, by simp [World.setCell], fun k _ hn => Below.heap_setCell _ _ _ _ hn⟩ (fun i hi e => by subst e; exact hp hi)
theorem putObj (h : Off φ a w) {r : Nat} (hp : r < a.heap.size → φ r) (o : Obj) : Off φ a (w.putObj r o) :=
  h.then_ (ψ := fun k => k = r) ⟨rfl, rfl, rfl, by simp, fun k _ hn => World.putObj_heap_other hn⟩ (fun i hi e => by subst e; exact hp hi)
theorem of_below {n : Nat} (h : Below n a b) : Off (fun k => n ≤ k) a b :=
  ⟨h.os, h.tape, h.output, h.size, fun k _ hn => h.block k (by omega)⟩
theorem below {n : Nat} (h : Off (fun k => n ≤ k) a b) (hn : n ≤ a.heap.size) : Below n a b :=
  ⟨h.os, h.tape, h.output, h.size, fun k hk => h.block k (by omega) (by omega)⟩
theorem below' {n : Nat} (h : Off φ a b) (hn : n ≤ a.heap.size) (hp : ∀ k, φ k → n ≤ k) : Below n a b := (h.mono (ψ := fun k => n ≤ k) (fun k _ => hp k)).below hn
theorem grown {row : Option Nat} (h : Off φ a w) (hg : w.grownBy w' row) (hr : ∀ k, row = some k → k < a.heap.size → φ k) : Off φ a w' :=
  ⟨hg.os.trans h.os, hg.tape.trans h.tape, hg.output.trans h.output, Nat.le_trans h.size hg.size,
    fun k hk hn => (hg.block k (Nat.lt_of_lt_of_le hk h.size) (fun e => hn (hr k e.symm hk))).trans (h.block k hk hn)⟩
theorem cell (h : Off φ w w') {p : Addr} (hp : p.block < w.heap.size) (hn : ¬ φ p.block) : w'.cell? p = w.cell? p := World.cell?_of_block (w := w) (h.block p.block hp hn)
theorem frozen (h : Off φ w w') {p : Addr} (hp : p.block < w.heap.size) (hn : ¬ φ p.block) : w'.frozen? p = w.frozen? p := World.frozen?_of_block (w := w) (h.block p.block hp hn)
end Off

/-- What an iterator does, over whatever a loop's rounds do in their footprint: all of xs come, in order. D: the blocks that it reads, or writes, that lay there ahead; E: those that it writes. -/
def Iter {α : Type} (P : Program) (gf : Nat) (lb : Array Value) (encs : α → Array Value) (xs : List α) (D E : Nat → Prop) (w : World) : Prop :=
  (∀ k, D k → k < w.heap.size) ∧
  ∀ (l : Nat) (J : List α → (Nat → Prop) → World → Prop) (φ : Nat → Prop) (W : World),
    Off (fun k => ¬ D k) w W →
    (∀ pre φ A, J pre φ A → ∀ k, φ k → k < A.heap.size) →
    (∀ pre φ A B, J pre φ A → Off (fun k => ¬ φ k) A B → J pre φ B) →
    (∀ k, φ k → ¬ D k) →
    (∀ pre x φ A, J pre φ A → pre ++ [x] <+: xs → YieldAt Fence.wide 0 P l (encs x) A fun e B =>
      e = .returned (.bool true) ∧ ∃ φ', (∀ k, φ' k → φ k ∨ A.heap.size ≤ k) ∧ J (pre ++ [x]) φ' B ∧ Off φ A B) →
    J [] φ W →
    CallsIn Fence.wide 0 P gf (#[.func (.yield l) #[] #[]] ++ lb) W fun e W' =>
      (∃ v, e = .returned v) ∧ ∃ φ', (∀ k, φ' k → φ k ∨ W.heap.size ≤ k) ∧ J xs φ' W' ∧ Off (fun k => φ k ∨ E k) W W'

/-- How a round's body is left: off its end; the footprint grows by new blocks alone. -/
def RoundEnd {α : Type} (I : List α → (Nat → Prop) → World → Prop) (pre : List α) (φ : Nat → Prop) (n : Nat) (W2 : World) (e : Exit) (_ : Act) (W' : World) : Prop :=
  e = .normal ∧ ∃ φ', (∀ k, φ' k → φ k ∨ n ≤ k) ∧ I pre φ' W' ∧ Off (fun k => φ k ∨ n ≤ k) W2 W'

/-- A range over a function, at an outermost loop whose body is never left early and whose variables are assigned in their slots. -/
theorem wpIn_range {P : Program} {α : Type} {g : Operand} {ps : Array Tmp} {assign body : Code} {Q : Exit → Act → World → Prop} {a : Act} {w : World}
    {gf : Nat} {lb : Array Value} (hg : a.eval g = .func (.func gf) #[] lb) (eg : ∀ args w, (callFunc gf args).run P w = .ok (.enter gf args) w)
    {encs : α → Array Value} {xs : List α} {D E : Nat → Prop} (hit : Iter P gf lb encs xs D E w) (hps : ∀ x, (encs x).size = ps.size)
    (I : List α → (Nat → Prop) → World → Prop) (φ0 : Nat → Prop)
    (hex : ∀ pre φ A, I pre φ A → ∀ k, φ k → k < A.heap.size)
    (hst : ∀ pre φ A B, I pre φ A → Off (fun k => ¬ φ k) A B → I pre φ B)
    (hdis : ∀ k, φ0 k → ¬ D k) (h0 : I [] φ0 w)
    (hbody : ∀ (l : Nat) (pre : List α) (x : α) (φ : Nat → Prop) (W : World) (K : Act → World → Prop), I pre φ W → pre ++ [x] <+: xs → w.heap.size < l → ¬ φ l → l < W.heap.size →
      (∀ (a₁ : Act) (W1 : World), Off (fun _ => False) W W1 →
        (∀ W2, Off (fun k => k = l) W1 W2 → W2.heap.size = W1.heap.size → I pre φ W2 →
          body.wpIn (Fence.wide.inRound l) 0 P (RoundEnd I (pre ++ [x]) φ W.heap.size W2) a₁ W2) → K a₁ W1) →
      assign.wpIn (Fence.wide.inRound l) 0 P (Exit.then K (fun _ _ _ => False)) { tmps := (ps.zip (encs x)).foldl (fun t (p, v) => t.setIfInBounds p v) a.tmps, defers := [] } W)
    (hdone : ∀ (Dd : Nat) (φ' : Nat → Prop) (W : World), I xs φ' W → Off (fun k => φ0 k ∨ E k) w W → w.heap.size ≤ Dd → ¬ φ' Dd → (∀ k, φ' k → φ0 k ∨ w.heap.size ≤ k) →
      W.heap[Dd]? = some (.deferred (some [])) → Q .normal { a with defers := { target := .collected Dd, args := #[] } :: a.defers } W) :
    (Code.rangeFunc g ps assign body).wpIn Fence.wide 0 P Q a w := by
  refine wpIn_rangeFunc ?_
  intro fn hfn
  rw [show Fence.wide.round = none from rfl]
  obtain ⟨rec, hrec⟩ : ∃ rec : LoopState → Option Code → Loop, rec = fun st pe => { state := st, pending := pe, fn, tmps := a.tmps, params := ps, assign, body, defers := w.heap.size } := ⟨_, rfl⟩
  obtain ⟨W1, hW1⟩ : ∃ W1, (w.alloc (.deferred (some []))).alloc (.loop (rec .ready none)) = W1 := ⟨_, rfl⟩
  have hL1 : W1.heap[w.heap.size + 1]? = some (.loop (rec .ready none)) := by
    rw [← hW1]; have := World.alloc_heap_new (w.alloc (.deferred (some []))) (.loop (rec .ready none)); rwa [World.size_alloc] at this
  have hK1 : W1.heap[w.heap.size]? = some (.deferred (some [])) := by
    rw [← hW1]; exact (Below.heap_alloc _ _ _ (by simp)).trans (World.alloc_heap_new w _)
  have hs1 : W1.heap.size = w.heap.size + 2 := by rw [← hW1]; simp
  have hO1 : ∀ φ, Off φ w W1 := fun φ => by rw [← hW1]; exact ((Off.refl φ w).alloc _).alloc _
  have hI1 : I [] φ0 W1 := hst _ _ _ _ h0 (hO1 _)
  have hφw : ∀ k, φ0 k → k < w.heap.size := hex _ _ _ h0
  have hnl : ¬ φ0 (w.heap.size + 1) := fun h => by have := hφw _ h; omega
  have hnk : ¬ φ0 w.heap.size := fun h => by have := hφw _ h; omega
  refine ⟨w.heap.size + 1, [{ target := .collected w.heap.size, args := #[] }], W1, { target := .fn (.func gf) lb, args := #[.func (.yield (w.heap.size + 1)) #[] #[]] }, W1, gf,
    #[.func (.yield (w.heap.size + 1)) #[] #[]] ++ lb, W1, ?_, ?_, fun _ _ => trivial, ?_, fun h => (by simp [Fence.wide] at h), ?_⟩
  · rw [← hW1, hrec]; exact run_enterLoop_outer _ _ _ _ _
  · simp only [resolve, hg]
    simp [go_sem]
  · simp [invoke, go_sem, eg]
  · refine (hit.2 (w.heap.size + 1)
      (fun pre ψ W => ∃ φ, ψ = (fun k => φ k ∨ k = w.heap.size + 1 ∨ k = w.heap.size) ∧ I pre φ W ∧ ¬ φ (w.heap.size + 1) ∧ ¬ φ w.heap.size ∧
        W.heap[w.heap.size + 1]? = some (.loop (rec .ready none)) ∧ W.heap[w.heap.size]? = some (.deferred (some [])))
      (fun k => φ0 k ∨ k = w.heap.size + 1 ∨ k = w.heap.size) W1 (hO1 _) ?_ ?_ ?_ ?_ ⟨φ0, rfl, hI1, hnl, hnk, hL1, hK1⟩).mono ?_
    · rintro pre ψ A ⟨φ, rfl, hi, -, -, hl, hk⟩ k (h | rfl | rfl)
      · exact hex _ _ _ hi k h
      · exact (Array.getElem?_eq_some_iff.1 hl).1
      · exact (Array.getElem?_eq_some_iff.1 hk).1
    · rintro pre ψ A B ⟨φ, rfl, hi, h1, h2, hl, hk⟩ ho
      have s1 := (Array.getElem?_eq_some_iff.1 hl).1
      have s2 := (Array.getElem?_eq_some_iff.1 hk).1
      exact ⟨φ, rfl, hst _ _ _ _ hi (ho.mono (fun k _ h => fun hp => h (.inl hp))), h1, h2,
        (ho.block _ s1 (fun h => h (.inr (.inl rfl)))).trans hl, (ho.block _ s2 (fun h => h (.inr (.inr rfl)))).trans hk⟩
    · rintro k (h | rfl | rfl)
      · exact hdis k h
      · intro h; have := hit.1 _ h; omega
      · intro h; have := hit.1 _ h; omega
    · -- ONE ROUND
      rintro pre x ψ W ⟨φ, rfl, hi, h1, h2, hl, hk⟩ hpre
      have hlt : w.heap.size + 1 < W.heap.size := (Array.getElem?_eq_some_iff.1 hl).1
      have hy := run_yield (P := P) (args := encs x) hl (by rw [hrec]; exact hps x)
      rw [hrec] at hy
      refine ⟨fn, _, assign, body, hy, roundIn_of_wpIn hfn (hbody (w.heap.size + 1) pre x φ W _ hi hpre (by omega) h1 hlt ?_)⟩
      intro a₁ W1' hO1' hb
      have hl1 : W1'.heap[w.heap.size + 1]? = some (.loop (rec .ready none)) := (hO1'.block _ hlt id).trans hl
      have hz1 := hO1'.size
      have hk1 : W1'.heap[w.heap.size]? = some (.deferred (some [])) := (hO1'.block _ (by omega) id).trans hk
      refine ⟨_, run_beginRound hl1 (by rw [hrec]), ?_⟩
      obtain ⟨W2, hW2⟩ : ∃ W2, W1'.putObj (w.heap.size + 1) (.loop { rec .ready none with state := .busy }) = W2 := ⟨_, rfl⟩
      rw [hW2]
      have hl2 : W2.heap[w.heap.size + 1]? = some (.loop { rec .ready none with state := .busy }) := by rw [← hW2]; exact World.putObj_heap_same (by omega)
      have hk2 : W2.heap[w.heap.size]? = some (.deferred (some [])) := by rw [← hW2]; exact (World.putObj_heap_other (by omega)).trans hk1
      have hz2 : W2.heap.size = W1'.heap.size := by rw [← hW2]; simp
      have hO2 : Off (fun k => k = w.heap.size + 1) W1' W2 := by rw [← hW2]; exact (Off.refl (fun k => k = w.heap.size + 1) W1').putObj (fun _ => rfl) _
      have hO2' : Off (fun k => k = w.heap.size + 1) W W2 := (hO1'.mono (fun _ _ h => h.elim)).trans hO2
      have hi2 : I pre φ W2 := hst _ _ _ _ hi (hO2'.mono (fun k _ e hp => h1 (e ▸ hp)))
      refine wpIn_mono (hb W2 hO2 hz2 hi2) ?_
      rintro e a3 W3 ⟨rfl, φ', hφ', hi3, hO3⟩
      have hl3 : W3.heap[w.heap.size + 1]? = some (.loop { rec .ready none with state := .busy }) := (hO3.block _ (by omega) (fun h => by rcases h with h | h; exact h1 h; omega)).trans hl2
      have hk3 : W3.heap[w.heap.size]? = some (.deferred (some [])) := (hO3.block _ (by omega) (fun h => by rcases h with h | h; exact h2 h; omega)).trans hk2
      have hr := run_endRound (P := P) none hl3
      rw [hrec] at hr hl3
      refine ⟨_, _, hr, rfl, (fun k => φ' k ∨ k = w.heap.size + 1 ∨ k = w.heap.size), ?_, ?_, ?_⟩
      · rintro k (h | h | h)
        · rcases hφ' k h with h | h
          · exact .inl (.inl h)
          · exact .inr (by omega)
        · exact .inl (.inr (.inl h))
        · exact .inl (.inr (.inr h))
      · have n1 : ¬ φ' (w.heap.size + 1) := fun h => by rcases hφ' _ h with h | h; exact h1 h; omega
        have n2 : ¬ φ' w.heap.size := fun h => by rcases hφ' _ h with h | h; exact h2 h; omega
        refine ⟨φ', rfl, hst _ _ _ _ hi3 ((Off.refl _ W3).putObj (fun _ => n1) _), n1, n2, ?_, (World.putObj_heap_other (by omega)).trans hk3⟩
        rw [hrec]
        exact World.putObj_heap_same (Array.getElem?_eq_some_iff.1 hl3).1
      · exact ((hO2'.mono (fun k _ e => .inr (.inl e))).then_ hO3 (fun i hi h => by rcases h with h | h; exact .inl h; omega)).putObj (fun _ => .inr (.inl rfl)) _
    · -- BEHIND THE ITERATOR
      rintro e W2 ⟨⟨v, rfl⟩, ψ, hψ, ⟨φ, rfl, hi, h1, h2, hl, hk⟩, hO⟩
      have hend := run_endLoop (P := P) hl (by rw [hrec]; simp)
      rw [hrec] at hend
      refine ⟨none, _, hend, ?_⟩
      refine hdone w.heap.size φ _ (hst _ _ _ _ hi ((Off.refl _ W2).putObj (fun _ => h1) _)) ?_ (Nat.le_refl _) h2 ?_ ((World.putObj_heap_other (by omega)).trans hk)
      · refine ((hO1 _).then_ hO ?_).putObj (fun h => by omega) _
        rintro i hi' ((h | h | h) | h)
        · exact .inl h
        · omega
        · omega
        · exact .inr h
      · intro k h
        rcases hψ k (.inl h) with (h' | h' | h') | h'
        · exact .inl h'
        · exact .inr (by omega)
        · exact .inr (by omega)
        · exact .inr (by omega)

end Go.Proofs.Ytbllchfgjginoaa
/-
  A row of addresses that is sorted where it lies: the words of the walks.
-/
namespace Go.Proofs.Ytbllchfgjginoaa
open Go.RowKit Go.Sort
set_option linter.unusedVariables false
set_option linter.unusedSimpArgs false
/-- The block g, of m cells, begins with d; all else is as at w0. -/
structure Lies (w0 w : World) (g m : Nat) (d : Array Int) : Prop where
  off : Off (fun k => k = g) w0 w
  fits : d.size ≤ m
  row : ∃ c, w.heap[g]? = some (.cells c 25 (0, 0)) ∧ c.size = m ∧ ∀ i, i < d.size → c[i]? = some (.int .u32 d[i]!)
variable {w0 w w1 : World} {g m : Nat} {d d' : Array Int}
theorem Lies.size (h : Lies w0 w g m d) : w0.heap.size ≤ w.heap.size := h.off.size
theorem Lies.cell (h : Lies w0 w g m d) {i : Nat} (hi : i < d.size) : w.cell? ⟨g, i, none⟩ = some (.int .u32 d[i]!) := by
  obtain ⟨c, hb, _, hc⟩ := h.row
  simp only [World.cell?, hb]
  simpa using hc i hi
theorem Lies.frozen (h : Lies w0 w g m d) (i : Nat) : w.frozen? ⟨g, i, none⟩ = false := by
  obtain ⟨c, hb, _, hc⟩ := h.row
  simp [World.frozen?, hb]
theorem Lies.drewN (h : Lies w0 w g m d) (n : Nat) : Lies w0 (w.drewN n) g m d := ⟨⟨h.off.os, h.off.tape, h.off.output, h.off.size, h.off.block⟩, h.fits, h.row⟩
theorem Lies.drew (h : Lies w0 w g m d) : Lies w0 w.drew g m d := ⟨h.off.drew, h.fits, h.row⟩
theorem Lies.lt (h : Lies w0 w g m d) : g < w.heap.size := by
  obtain ⟨c, hb, _⟩ := h.row
  exact (Array.getElem?_eq_some_iff.1 hb).1
/-- What leaves the row alone. -/
theorem Lies.keep (h : Lies w0 w g m d) (k : Off (fun _ => False) w w1) : Lies w0 w1 g m d :=
  ⟨h.off.trans (k.mono fun _ _ hf => hf.elim), h.fits, by
    obtain ⟨c, hb, hc⟩ := h.row
    exact ⟨c, (k.block g h.lt id).trans hb, hc⟩⟩
theorem Lies.trans (h : Lies w0 w g m d) (k : Lies w w1 g m d') : Lies w0 w1 g m d' := ⟨h.off.trans k.off, k.fits, k.row⟩
theorem Lies.here (h : Lies w0 w g m d) : Lies w w g m d := ⟨Off.refl _ _, h.fits, h.row⟩
theorem Lies.set (h : Lies w0 w g m d) {i : Nat} (hi : i < d.size) (x : Int) : Lies w0 (w.setCell ⟨g, i, none⟩ (.int .u32 x)) g m (d.setIfInBounds i x) := by
  refine ⟨h.off.setCell (fun _ => rfl) _, by rw [Array.size_setIfInBounds]; exact h.fits, ?_⟩
  obtain ⟨c, hb, hs, hc⟩ := h.row
  refine ⟨c.setIfInBounds i (.int .u32 x), ?_, by rw [Array.size_setIfInBounds]; exact hs, fun k hk => ?_⟩
  · show (w.heap.modify g _)[g]? = _
    rw [Array.getElem?_modify, if_pos rfl, hb]
    rfl
  · rw [Array.size_setIfInBounds] at hk
    have hf := h.fits
    by_cases e : k = i
    · subst e
      rw [getElem!_set_same d k x hk]
      rw [Array.getElem?_setIfInBounds, if_pos rfl, if_pos (by omega)]
    · rw [getElem!_set_other d i k x e, ← hc k hk]
      rw [Array.getElem?_setIfInBounds, if_neg (Ne.symm e)]
theorem Lies.swp (h : Lies w0 w g m d) {i j : Nat} (hi : i < d.size) (hj : j < d.size) : Lies w0 ((w.setCell ⟨g, i, none⟩ (.int .u32 d[j]!)).setCell ⟨g, j, none⟩ (.int .u32 d[i]!)) g m (swp d i j) :=
  (h.set hi _).set (by rw [Array.size_setIfInBounds]; exact hj) _
/-- A swap, as a region leaves it. -/
theorem Lies.swpG (h : Lies w0 w g m d) {G : Nat → Int} (hG : ∀ t, G t = d[t]!) {i j : Nat} (hi : i < d.size) (hj : j < d.size) : Lies w0 ((w.setCell ⟨g, i, none⟩ (.int .u32 (G j))).setCell ⟨g, j, none⟩ (.int .u32 (G i))).drew g m (Go.Sort.swp d i j) := by
  rw [hG, hG]; exact (h.swp hi hj).drew
theorem Lies.cells (h : Lies w0 w g m d) {G : Nat → Int} (hG : ∀ t, G t = d[t]!) : ∀ t, t < d.size → w.cell? ⟨g, t, none⟩ = some (.int .u32 (G t)) := fun t ht => by rw [hG]; exact h.cell ht
theorem Lies.free (h : Lies w0 w g m d) : ∀ t, t < d.size → w.frozen? ⟨g, t, none⟩ = false := fun t _ => h.frozen t
abbrev ltA : Int → Int → Bool := ltInt
theorem isNaN_w (x : Int) (w : World) : Calls Try.prog 69 #[.int .u32 x] w fun e w' => e = .returned (.bool false) ∧ w = w' := by
  go_enter Try.func69, Try.ntmps69
  go_wp2
  go_ret
  exact ⟨rfl, rfl⟩
theorem less_w (x y : Int) (w : World) : Calls Try.prog 81 #[.int .u32 x, .int .u32 y] w fun e w' => e = .returned (.bool (ltA x y)) ∧ w' = w := by
  go_enter Try.func81, Try.ntmps81
  go_wp2_with (go_at_call 69; refine (isNaN_w _ _).mono ?_; rintro e w' ⟨rfl, rfl⟩)
  go_ret
  exact ⟨rfl, rfl⟩
end Go.Proofs.Ytbllchfgjginoaa
/-
  A pivot is chosen: which one matters not.
-/
namespace Go.Proofs.Ytbllchfgjginoaa
open Go.RowKit Go.Sort
set_option linter.unusedVariables false
set_option linter.unusedSimpArgs false
/-- A whole number in a block of its own. -/
def Cnt (w : World) (s : Nat) : Prop := ∃ v : Int, w.heap[s]? = some (.cells #[.int .i64 v] 3 (0, 0))
/-- What turns a younger block leaves the row alone. -/
theorem Lies.young {w0 w w1 : World} {g m s : Nat} {d : Array Int} (h : Lies w0 w g m d) (k : Off (fun k => k = s) w w1) (hs : w0.heap.size ≤ s) (hg : s ≠ g) : Lies w0 w1 g m d :=
  ⟨h.off.then_ k (fun i hi e => by omega), h.fits, by
    obtain ⟨c, hb, hc⟩ := h.row
    exact ⟨c, (k.block g h.lt (fun e => hg e.symm)).trans hb, hc⟩⟩
theorem Cnt.cell {w : World} {s : Nat} (h : Cnt w s) : ∃ v : Int, w.cell? ⟨s, 0, none⟩ = some (.int .i64 v) ∧ w.frozen? ⟨s, 0, none⟩ = false := by
  obtain ⟨v, hv⟩ := h
  exact ⟨v, by simp [World.cell?, hv], by simp [World.frozen?, hv]⟩
theorem Cnt.set {w : World} {s : Nat} (h : Cnt w s) (v : Int) : Cnt (w.setCell ⟨s, 0, none⟩ (.int .i64 v)) s := by
  obtain ⟨u, hu⟩ := h
  refine ⟨v, ?_⟩
  show (w.heap.modify s _)[s]? = _
  rw [Array.getElem?_modify, if_pos rfl, hu]
  rfl
theorem Cnt.keep {w w1 : World} {s : Nat} (h : Cnt w s) (k : Off (fun _ => False) w w1) : Cnt w1 s := by
  obtain ⟨v, hv⟩ := h
  exact ⟨v, (k.block s (Array.getElem?_eq_some_iff.1 hv).1 id).trans hv⟩
def Ord2 (a b s : Nat) (w : World) (e : Ending) (w' : World) : Prop :=
  ∃ x y : Nat, (x = a ∧ y = b ∨ x = b ∧ y = a) ∧ e = .returned (.tuple #[.int .i64 x, .int .i64 y]) ∧ Off (fun k => k = s) w w' ∧ Cnt w' s
set_option maxHeartbeats 8000000 in
theorem order2_w {g m n cap a b s : Nat} {d : Array Int} {w0 w : World} (h : Lies w0 w g m d) (hn : d.size = n) (ha : a < n) (hb : b < n) (hsz : n < 1000000000000) (hs : Cnt w s) :
    Calls Try.prog 100 #[.slice (some ⟨g, 0, none⟩) n cap, .int .i64 a, .int .i64 b, .pointer (some ⟨s, 0, none⟩)] w (Ord2 a b s w) := by
  subst hn
  obtain ⟨G, hG⟩ : ∃ G : Nat → Int, ∀ t, G t = d[t]! := ⟨fun t => d[t]!, fun _ => rfl⟩
  have hcw := h.cells hG
  have HL := Lib.hid h
  have HC := Lib.hid hs
  obtain ⟨v, hv, hf⟩ := hs.cell
  clear h hG hs
  go_enter Try.func100, Try.ntmps100
  go_wp2
  go_quiet ((go_at_call 81; exact Calls.quiet_of_same (less_w _ _ _)))
  go_wp2
  · go_ret2
    exact ⟨b, a, .inr ⟨rfl, rfl⟩, rfl, ((Off.refl _ w).mono (fun _ _ h => h) |>.drew |> fun h => (⟨h.os, h.tape, h.output, h.size, h.block⟩ : Off (fun k => k = s) w (w.drewN nq))).setCell (fun _ => rfl) _, (HC.out.keep ⟨rfl, rfl, rfl, Nat.le_refl _, fun _ _ _ => rfl⟩).set _⟩
  · go_ret2
    exact ⟨a, b, .inl ⟨rfl, rfl⟩, rfl, ⟨rfl, rfl, rfl, Nat.le_refl _, fun _ _ _ => rfl⟩, HC.out.keep ⟨rfl, rfl, rfl, Nat.le_refl _, fun _ _ _ => rfl⟩⟩
def Med (a b c s : Nat) (w : World) (e : Ending) (w' : World) : Prop :=
  ∃ x : Nat, (x = a ∨ x = b ∨ x = c) ∧ e = .returned (.int .i64 x) ∧ Off (fun k => k = s) w w' ∧ Cnt w' s
theorem Lies.other {w0 w w1 : World} {g m s : Nat} {d : Array Int} (h : Lies w0 w g m d) (k : Off (fun k => k = s) w w1) (hg : s ≠ g) : Lies w1 w1 g m d :=
  ⟨Off.refl _ _, h.fits, by
    obtain ⟨c, hb, hc⟩ := h.row
    exact ⟨c, (k.block g h.lt (fun e => hg e.symm)).trans hb, hc⟩⟩
set_option maxHeartbeats 8000000 in
theorem median_w {g m n cap a b c s : Nat} {d : Array Int} {w0 w : World} (h : Lies w0 w g m d) (hn : d.size = n) (ha : a < n) (hb : b < n) (hc : c < n) (hsz : n < 1000000000000) (hs : Cnt w s) (hg : s ≠ g) :
    Calls Try.prog 99 #[.slice (some ⟨g, 0, none⟩) n cap, .int .i64 a, .int .i64 b, .int .i64 c, .pointer (some ⟨s, 0, none⟩)] w (Med a b c s w) := by
  have HL := Lib.hid h
  have HN := Lib.hid hn
  have HC := Lib.hid hs
  have HG := Lib.hid hg
  clear h hs hn hg
  go_enter Try.func99, Try.ntmps99
  go_upto_region 2 with (go_at_call 100; refine (order2_w HL.out HN.out ha hb hsz HC.out).mono ?_; rintro e w1 ⟨x1, y1, h1, rfl, hO1, hC1⟩; have H1 := Lib.hid h1; have HO1 := Lib.hid hO1; have HC1 := Lib.hid hC1; clear h1 hO1 hC1)
  have hx1 : x1 < n := by rcases H1.out with ⟨rfl, rfl⟩ | ⟨rfl, rfl⟩ <;> assumption
  have hy1 : y1 < n := by rcases H1.out with ⟨rfl, rfl⟩ | ⟨rfl, rfl⟩ <;> assumption
  have HL1 := Lib.hid (HL.out.other HO1.out HG.out)
  go_upto_region 3 with (go_at_call 100; refine (order2_w HL1.out HN.out hy1 hc hsz HC1.out).mono ?_; rintro e w2 ⟨x2, y2, h2, rfl, hO2, hC2⟩; have H2 := Lib.hid h2; have HO2 := Lib.hid hO2; have HC2 := Lib.hid hC2; clear h2 hO2 hC2)
  have hx2 : x2 < n := by rcases H2.out with ⟨rfl, rfl⟩ | ⟨rfl, rfl⟩ <;> assumption
  have HL2 := Lib.hid (HL1.out.other HO2.out HG.out)
  go_wp2_with (go_at_call 100; refine (order2_w HL2.out HN.out hx1 hx2 hsz HC2.out).mono ?_; rintro e w3 ⟨x3, y3, h3, rfl, hO3, hC3⟩; have H3 := Lib.hid h3; have HO3 := Lib.hid hO3; have HC3 := Lib.hid hC3; clear h3 hO3 hC3)
  go_ret
  refine ⟨y3, ?_, rfl, (HO1.out.trans HO2.out).trans HO3.out, HC3.out⟩
  rcases H1.out with ⟨rfl, rfl⟩ | ⟨rfl, rfl⟩ <;> rcases H2.out with ⟨rfl, rfl⟩ | ⟨rfl, rfl⟩ <;> rcases H3.out with ⟨rfl, rfl⟩ | ⟨rfl, rfl⟩ <;> simp
theorem adjacent_w {g m n cap a s : Nat} {d : Array Int} {w0 w : World} (h : Lies w0 w g m d) (hn : d.size = n) (h1 : 1 ≤ a) (ha : a + 1 < n) (hsz : n < 1000000000000) (hs : Cnt w s) (hg : s ≠ g) :
    Calls Try.prog 98 #[.slice (some ⟨g, 0, none⟩) n cap, .int .i64 a, .pointer (some ⟨s, 0, none⟩)] w (Med (a - 1) a (a + 1) s w) := by
  have HL := Lib.hid h
  have HN := Lib.hid hn
  have HC := Lib.hid hs
  have HG := Lib.hid hg
  clear h hs hn hg
  have e1 : ((a : Int) - 1) = ((a - 1 : Nat) : Int) := by omega
  have E1 := Lib.hid e1
  clear e1
  go_enter Try.func98, Try.ntmps98
  go_wp2_with (go_at_call 99; rw [E1.out, show ((a : Int) + 1) = ((a + 1 : Nat) : Int) from rfl]; refine (median_w (b := a) HL.out HN.out (by omega) (by omega) (by omega) hsz HC.out HG.out).mono ?_; rintro e w1 ⟨x1, h1, rfl, hO1, hC1⟩; have H1 := Lib.hid h1; have HO1 := Lib.hid hO1; have HC1 := Lib.hid hC1; clear h1 hO1 hC1)
  go_ret
  exact ⟨x1, H1.out, rfl, HO1.out, HC1.out⟩
end Go.Proofs.Ytbllchfgjginoaa
/-
  A pivot of a row.
-/
namespace Go.Proofs.Ytbllchfgjginoaa
open Go.RowKit Go.Sort
set_option linter.unusedVariables false
set_option linter.unusedSimpArgs false
theorem Off.young {w w1 w2 : World} {s : Nat} (h : Off (fun _ => False) w w1) (k : Off (fun k => k = s) w1 w2) (hs : w.heap.size ≤ s) : Off (fun _ => False) w w2 := h.then_ k (fun i hi e => by omega)
theorem off_alloc (w : World) (o : Obj) : Off (fun _ => False) w (w.alloc o) := (Off.refl _ w).alloc o
def Piv (a b : Nat) (w : World) (e : Ending) (w' : World) : Prop :=
  ∃ (p : Nat) (h : Int), a ≤ p ∧ p < b ∧ e = .returned (.tuple #[.int .i64 p, .int .i64 h]) ∧ Off (fun _ => False) w w'
theorem piv_of {a b p : Nat} {h : Int} {w w' : World} (h1 : a ≤ p) (h2 : p < b) (h3 : Off (fun _ => False) w w') : Piv a b w (.returned (.tuple #[.int .i64 p, .int .i64 h])) w' := ⟨p, h, h1, h2, rfl, h3⟩
set_option maxHeartbeats 8000000 in
theorem choose_w {g m n cap a b : Nat} {d : Array Int} {w0 w : World} (h : Lies w0 w g m d) (hn : d.size = n) (hab : a < b) (hb : b ≤ n) (hsz : n < 1000000000000) :
    Calls Try.prog 87 #[.slice (some ⟨g, 0, none⟩) n cap, .int .i64 a, .int .i64 b] w (Piv a b w) := by
  have HL := Lib.hid h
  have HN := Lib.hid hn
  have HG := Lib.hid (show w.heap.size ≠ g from Nat.ne_of_gt h.lt)
  clear h hn
  obtain ⟨z, hz⟩ : ∃ z : Nat, z = b - a := ⟨_, rfl⟩
  have hz1 : 1 ≤ z := by omega
  have hz2 : a + z = b := by omega
  clear hz
  go_enter Try.func87, Try.ntmps87
  go_upto_region 3 with fail
  rw [show ((b : Int) - (a : Int)) = (z : Int) from by omega]
  obtain ⟨s, hs⟩ : ∃ s, s = w.heap.size := ⟨_, rfl⟩
  rw [← hs]
  generalize hW_ : w.alloc (.cells #[.int .i64 0] 3 (0, 0)) = W1
  have HO := Lib.hid (show Off (fun _ => False) w W1 by rw [← hW_]; exact off_alloc _ _)
  have hb1 : W1.heap[s]? = some (.cells #[.int .i64 0] 3 (0, 0)) := by rw [← hW_, hs]; exact World.alloc_heap_new _ _
  have HS := Lib.hid hs
  clear hW_ hs
  have HC := Lib.hid (show Cnt W1 s from ⟨0, hb1⟩)
  have hc0 : W1.cell? ⟨s, 0, none⟩ = some (.int .i64 0) := by simp [World.cell?, hb1]
  clear hb1
  have HL1 := Lib.hid (show Lies w0 W1 g m d from HL.out.keep HO.out)
  have HG1 := Lib.hid (show s ≠ g by rw [HS.out]; exact HG.out)
  obtain ⟨q, hq⟩ : ∃ q : Nat, q = z / 4 := ⟨_, rfl⟩
  have hq4 : q * 4 ≤ z := by omega
  obtain ⟨i, hi⟩ : ∃ i : Nat, i = a + q := ⟨_, rfl⟩
  obtain ⟨j, hj⟩ : ∃ j : Nat, j = a + q * 2 := ⟨_, rfl⟩
  obtain ⟨k, hk⟩ : ∃ k : Nat, k = a + q * 3 := ⟨_, rfl⟩
  have HI := Lib.hid hi
  have HJ := Lib.hid hj
  have HK := Lib.hid hk
  have HQ := Lib.hid hq
  have HZ2 := Lib.hid hz2
  by_cases h8 : 8 ≤ z
  · have hq2 : 2 ≤ q := by omega
    have hd8 : decide ((8 : Int) ≤ (z : Int)) = true := decide_eq_true (by omega)
    by_cases h50 : 50 ≤ z
    · have hd50 : decide ((50 : Int) ≤ (z : Int)) = true := decide_eq_true (by omega)
      go_upto_region 8 with fail
      rw [show ((z : Int) / 4) = (q : Int) from by omega, show ((a : Int) + (q : Int)) = (i : Int) from by omega, show ((a : Int) + (q : Int) * 2) = (j : Int) from by omega, show ((a : Int) + (q : Int) * 3) = (k : Int) from by omega]
      have i1 : 1 ≤ i := by omega
      have i2 : i + 1 < n := by omega
      have i3 : a ≤ i - 1 := by omega
      have i4 : i + 1 < b := by omega
      have j1 : 1 ≤ j := by omega
      have j2 : j + 1 < n := by omega
      have j3 : a ≤ j - 1 := by omega
      have j4 : j + 1 < b := by omega
      have k1 : 1 ≤ k := by omega
      have k2 : k + 1 < n := by omega
      have k3 : a ≤ k - 1 := by omega
      have k4 : k + 1 < b := by omega
      clear hc0 hi hj hk hq hz2
      go_upto_region 9 with (go_at_call 98; refine (adjacent_w HL1.out HN.out (by omega) (by omega) hsz HC.out HG1.out).mono ?_; rintro e w1 ⟨x1, h1, rfl, hO1, hC1⟩; have H1 := Lib.hid h1; have HO1 := Lib.hid hO1; have HC1 := Lib.hid hC1; clear h1 hO1 hC1)
      have HL2 := Lib.hid (HL1.out.other HO1.out HG1.out)
      go_upto_region 10 with (go_at_call 98; refine (adjacent_w HL2.out HN.out (by omega) (by omega) hsz HC1.out HG1.out).mono ?_; rintro e w2 ⟨x2, h2, rfl, hO2, hC2⟩; have H2 := Lib.hid h2; have HO2 := Lib.hid hO2; have HC2 := Lib.hid hC2; clear h2 hO2 hC2)
      have HL3 := Lib.hid (HL2.out.other HO2.out HG1.out)
      go_upto_region 11 with (go_at_call 98; refine (adjacent_w HL3.out HN.out (by omega) (by omega) hsz HC2.out HG1.out).mono ?_; rintro e w3 ⟨x3, h3, rfl, hO3, hC3⟩; have H3 := Lib.hid h3; have HO3 := Lib.hid hO3; have HC3 := Lib.hid hC3; clear h3 hO3 hC3)
      have HL4 := Lib.hid (HL3.out.other HO3.out HG1.out)
      have b1 : a ≤ x1 ∧ x1 < b := by have := H1.out; omega
      have b2 : a ≤ x2 ∧ x2 < b := by have := H2.out; omega
      have b3 : a ≤ x3 ∧ x3 < b := by have := H3.out; omega
      go_upto_region 12 with (go_at_call 99; refine (median_w HL4.out HN.out (by omega) (by omega) (by omega) hsz HC3.out HG1.out).mono ?_; rintro e w4 ⟨x4, h4, rfl, hO4, hC4⟩; have H4 := Lib.hid h4; have HO4 := Lib.hid hO4; have HC4 := Lib.hid hC4; clear h4 hO4 hC4)
      have b4 : a ≤ x4 ∧ x4 < b := by have := H4.out; omega
      have HF := Lib.hid (HO.out.young (((HO1.out.trans HO2.out).trans HO3.out).trans HO4.out) (Nat.le_of_eq HS.out.symm))
      obtain ⟨v, hv, hf⟩ := HC4.out.cell
      go_wp2
      all_goals go_ret2
      all_goals exact piv_of b4.1 b4.2 HF.out
    · have hd50 : decide ((50 : Int) ≤ (z : Int)) = false := decide_eq_false (by omega)
      go_upto_region 11 with fail
      rw [show ((z : Int) / 4) = (q : Int) from by omega, show ((a : Int) + (q : Int)) = (i : Int) from by omega, show ((a : Int) + (q : Int) * 2) = (j : Int) from by omega, show ((a : Int) + (q : Int) * 3) = (k : Int) from by omega]
      have i1 : 1 ≤ i := by omega
      have i2 : i + 1 < n := by omega
      have i3 : a ≤ i - 1 := by omega
      have i4 : i + 1 < b := by omega
      have j1 : 1 ≤ j := by omega
      have j2 : j + 1 < n := by omega
      have j3 : a ≤ j - 1 := by omega
      have j4 : j + 1 < b := by omega
      have k1 : 1 ≤ k := by omega
      have k2 : k + 1 < n := by omega
      have k3 : a ≤ k - 1 := by omega
      have k4 : k + 1 < b := by omega
      clear hc0 hi hj hk hq hz2
      go_upto_region 12 with (go_at_call 99; refine (median_w HL1.out HN.out (by omega) (by omega) (by omega) hsz HC.out HG1.out).mono ?_; rintro e w4 ⟨x4, h4, rfl, hO4, hC4⟩; have H4 := Lib.hid h4; have HO4 := Lib.hid hO4; have HC4 := Lib.hid hC4; clear h4 hO4 hC4)
      have b4 : a ≤ x4 ∧ x4 < b := by have := H4.out; omega
      have HF := Lib.hid (HO.out.young HO4.out (Nat.le_of_eq HS.out.symm))
      obtain ⟨v, hv, hf⟩ := HC4.out.cell
      go_wp2
      all_goals go_ret2
      all_goals exact piv_of b4.1 b4.2 HF.out
  · have hd8 : decide ((8 : Int) ≤ (z : Int)) = false := decide_eq_false (by omega)
    go_upto_region 12 with fail
    rw [show ((z : Int) / 4) = (q : Int) from by omega, show ((a : Int) + (q : Int) * 2) = (j : Int) from by omega]
    have j3 : a ≤ j := by omega
    have j4 : j < b := by omega
    clear hi hj hk hq hz2
    go_wp2
    go_ret2
    exact piv_of j3 j4 HO.out
end Go.Proofs.Ytbllchfgjginoaa
/-
  Insertion sort, and a row turned round, where they lie.
-/
namespace Go.Proofs.Ytbllchfgjginoaa
open Go.RowKit Go.Sort
set_option linter.unusedVariables false
set_option linter.unusedSimpArgs false
theorem inner_go (a j : Nat) (d : Array Int) (hj : a < j) (hl : ltA d[j]! d[j - 1]! = true) : insInner ltA a j d = insInner ltA a (j - 1) (swp d j (j - 1)) := by
  obtain ⟨k, rfl⟩ : ∃ k, j = k + 1 := ⟨j - 1, by omega⟩
  rw [insInner, Nat.add_sub_cancel] at *
  simp [hj, hl]
theorem inner_end (a j : Nat) (d : Array Int) (h : j ≤ a ∨ ltA d[j]! d[j - 1]! = false) : insInner ltA a j d = d := by
  cases j with
  | zero => rfl
  | succ k =>
    rw [insInner]
    rw [Nat.add_sub_cancel] at h
    rcases h with h | h
    · simp [show ¬ k + 1 > a by omega]
    · simp [h]
theorem outer_go (a b i : Nat) (d : Array Int) (h : i < b) : insOuter ltA a b i d = insOuter ltA a b (i + 1) (insInner ltA a i d) := by rw [insOuter, if_pos h]
theorem outer_end (a b i : Nat) (d : Array Int) (h : ¬ i < b) : insOuter ltA a b i d = d := by rw [insOuter, if_neg h]
set_option maxHeartbeats 8000000 in
theorem insertion_w {g m cap a b : Nat} {d : Array Int} {w : World} (h : Lies w w g m d) (hab : a ≤ b) (hb : b ≤ d.size) (hsz : d.size < 1000000000000) :
    Calls Try.prog 84 #[.slice (some ⟨g, 0, none⟩) d.size cap, .int .i64 a, .int .i64 b] w fun e w' => e = .returned (.tuple #[]) ∧ Lies w w' g m (insertionSort ltA d a b) := by
  have HL := Lib.hid h
  clear h
  go_enter Try.func84, Try.ntmps84
  go_wp2
  go_loopw [6] (fun vi wr => ∃ (i : Nat) (dk : Array Int), vi = .int .i64 i ∧ a < i ∧ i ≤ b + 1 ∧ dk.size = d.size ∧ Hid (Lies w wr g m dk) ∧ Hid (insOuter ltA a b i dk = insOuter ltA a b (a + 1) d)) (fun vi _ => b + 1 - (intOf vi).toNat)
  case atStart => exact ⟨a + 1, d, by go_num, by omega, by omega, rfl, HL, rfl⟩
  case round =>
    obtain ⟨i, dk, rfl, hai, hib, hsk, HK, HO⟩ := hrel
    clear HL
    go_wp2
    · have hlt : i < b := by assumption
      go_loopw [7] (fun vj wr2 => ∃ (j : Nat) (dj : Array Int), vj = .int .i64 j ∧ a ≤ j ∧ j ≤ i ∧ dj.size = d.size ∧ Hid (Lies w wr2 g m dj) ∧ Hid (insInner ltA a j dj = insInner ltA a i dk)) (fun vj _ => (intOf vj).toNat)
      case atStart => exact ⟨i, dk, rfl, by omega, Nat.le_refl _, hsk, HK, rfl⟩
      case round =>
        obtain ⟨j, dj, rfl, haj, hji, hsj, HJ, HI⟩ := hrel
        obtain ⟨G, hG⟩ : ∃ G : Nat → Int, ∀ t, G t = dj[t]! := ⟨fun t => dj[t]!, fun _ => rfl⟩
        have hcw := HJ.out.cells hG
        have hfw := HJ.out.free
        rw [hsj] at hcw hfw
        have HG := Lib.hid hG
        have HS := Lib.hid hsj
        clear hG hsj
        have OUT : Hid ((j ≤ a ∨ ltA dj[j]! dj[j - 1]! = false) → insOuter ltA a b (i + 1) dj = insOuter ltA a b (a + 1) d) := fun hs => by
          rw [← HO.out, outer_go _ _ _ _ hlt, ← HI.out, inner_end _ _ _ hs]
        go_wp2
        by_cases hja : a < j
        · have q1 : j < d.size := by omega
          have q2 : (j : Int) < (d.size : Int) := by omega
          have q3 : (0 : Int) ≤ (j : Int) - 1 := by omega
          have q4 : (j : Int) - 1 < (d.size : Int) := by omega
          have q5 : ((j : Int) - 1).toNat = j - 1 := by omega
          have q6 : IntKind.i64.wrap ((j : Int) - 1) = (j : Int) - 1 := IntWalk.i64_in _ (by omega)
          have q7 : j - 1 < d.size := by omega
          go_quiet ((go_at_call 81; exact Calls.quiet_of_same (less_w _ _ _)))
          go_wp2
          · have hl : ltA (G j) (G (j - 1)) = true := by assumption
            go_region
            all_goals go_wp2
            go_roundw
            case rel => exact ⟨j - 1, swp dj j (j - 1), by congr 1; omega, by omega, by omega, by rw [size_swp]; exact HS.out, (HJ.out.drewN nq).swpG HG.out (by have := HS.out; omega) (by have := HS.out; omega), by rw [← HI.out, inner_go a j dj hja (by rw [← HG.out, ← HG.out]; exact hl)]; rfl⟩
            case measure => simp [intOf]; omega
          · have hl : ltA (G j) (G (j - 1)) = false := by assumption
            go_roundw
            case rel => exact ⟨i + 1, dj, by go_num, by omega, by omega, HS.out, HJ.out.drewN nq, OUT.out (.inr (by rw [← HG.out, ← HG.out]; exact hl))⟩
            case measure => simp [intOf]; omega
        · have hd : decide (a < j) = false := decide_eq_false hja
          go_quiet ((go_at_call 81; exact Calls.quiet_of_same (less_w _ _ _)))
          go_wp2
          go_roundw
          case rel => exact ⟨i + 1, dj, by go_num, by omega, by omega, HS.out, HJ.out.drewN nq, OUT.out (.inl (by omega))⟩
          case measure => simp [intOf]; omega
    · have hge : ¬ i < b := by assumption
      go_end0
      exact ⟨rfl, by unfold insertionSort; rw [← HO.out, outer_end _ _ _ _ hge]; exact HK.out⟩
set_option maxHeartbeats 8000000 in
theorem reverse_w {g m cap a b : Nat} {d : Array Int} {w : World} (h : Lies w w g m d) (hab : a < b) (hb : b ≤ d.size) (hsz : d.size < 1000000000000) :
    Calls Try.prog 88 #[.slice (some ⟨g, 0, none⟩) d.size cap, .int .i64 a, .int .i64 b] w fun e w' => e = .returned (.tuple #[]) ∧ Lies w w' g m (reverseRange d a b) := by
  have HL := Lib.hid h
  clear h
  go_enter Try.func88, Try.ntmps88
  go_wp2
  go_loopw [6, 7] (fun vi vj wr => ∃ (i j : Nat) (dk : Array Int), vi = .int .i64 i ∧ vj = .int .i64 j ∧ a ≤ i ∧ j < b ∧ i ≤ j + 1 ∧ dk.size = d.size ∧ Hid (Lies w wr g m dk) ∧ Hid (reverseLoop i j dk = reverseLoop a (b - 1) d)) (fun vi vj _ => (intOf vj).toNat + 1 - (intOf vi).toNat)
  case atStart => exact ⟨a, b - 1, d, rfl, by congr 1; omega, by omega, by omega, by omega, rfl, HL, rfl⟩
  case round =>
    obtain ⟨i, j, dk, rfl, rfl, hai, hjb, hij, hsk, HK, HO⟩ := hrel
    clear HL
    obtain ⟨G, hG⟩ : ∃ G : Nat → Int, ∀ t, G t = dk[t]! := ⟨fun t => dk[t]!, fun _ => rfl⟩
    have hcw := HK.out.cells hG
    have hfw := HK.out.free
    rw [hsk] at hcw hfw
    have HG := Lib.hid hG
    have HS := Lib.hid hsk
    clear hG hsk
    by_cases hlt : i < j
    · have q1 : i < d.size := by omega
      have q2 : j < d.size := by omega
      go_wp2
      go_region
      all_goals go_wp2
      go_roundw
      case rel => exact ⟨i + 1, j - 1, swp dk i j, by go_num, by congr 1; omega, by omega, by omega, by omega, by rw [size_swp]; exact HS.out, HK.out.swpG HG.out (by have := HS.out; omega) (by have := HS.out; omega), by rw [← HO.out, reverseLoop.eq_1 i j dk, if_pos hlt]; rfl⟩
      case measure => simp [intOf]; omega
    · go_wp2
      go_end0
      exact ⟨rfl, by unfold reverseRange; rw [← HO.out, reverseLoop, if_neg hlt]; exact HK.out⟩
end Go.Proofs.Ytbllchfgjginoaa
/-
  How many bits a number has; what comes by chance.
-/
namespace Go.Proofs.Ytbllchfgjginoaa
open Go.RowKit Go.Sort
set_option linter.unusedVariables false
set_option linter.unusedSimpArgs false
theorem ww8 (u : UInt8) : wrap64 (wrap64 (u.toNat : Int)) = (u.toNat : Int) := by
  have := u.toNat_lt
  unfold wrap64; omega
theorem ww8' (u : UInt8) : wrap64 (8 + wrap64 (u.toNat : Int)) = ((u.toNat + 8 : Nat) : Int) := by
  have := u.toNat_lt
  unfold wrap64; omega
def LenOk (x : Nat) (w : World) (e : Ending) (w' : World) : Prop := ∃ L : Nat, e = .returned (.int .i64 L) ∧ (L ≤ 16 ∧ x < 2 ^ L ∧ (0 < x → 2 ^ L ≤ 2 * x)) ∧ w = w'
theorem ret_int' {k : IntKind} {a b : Int} (h : a = b) : Ending.returned (.int k a) = .returned (.int k b) := by rw [h]
set_option maxRecDepth 100000 in
theorem len64_lo (y : Fin 256) (x : Nat) (hx : x = y.val) (w : World) : Calls Try.prog 93 #[.int .u64 x] w (LenOk x w) := by
  have h0 : (0 : Int) ≤ (x : Int) := by omega
  have h1 : (x : Int) < 256 := by omega
  have d1 : decide ((4294967296 : Int) ≤ (x : Int)) = false := decide_eq_false (by omega)
  have d2 : decide ((65536 : Int) ≤ (x : Int)) = false := decide_eq_false (by omega)
  have d3 : decide ((256 : Int) ≤ (x : Int)) = false := decide_eq_false (by omega)
  have HX := Lib.hid hx
  clear hx
  go_enter Try.func93, Try.ntmps93
  go_wp2
  go_ret
  refine ⟨_, ret_int' (ww8 _), ?_, rfl⟩
  obtain rfl := HX.out
  clear HX d1 d2 d3
  revert y
  decide +kernel
set_option maxRecDepth 100000 in
theorem len64_hi (y : Fin 256) (x : Nat) (hx : y.val = x / 256) (h256 : 256 ≤ x) (h : x < 65536) (w : World) : Calls Try.prog 93 #[.int .u64 x] w (LenOk x w) := by
  have h0 : (0 : Int) ≤ (x : Int) := by omega
  have h1 : (x : Int) < 65536 := by omega
  have d1 : decide ((4294967296 : Int) ≤ (x : Int)) = false := decide_eq_false (by omega)
  have d2 : decide ((65536 : Int) ≤ (x : Int)) = false := decide_eq_false (by omega)
  have d3 : decide ((256 : Int) ≤ (x : Int)) = true := decide_eq_true (by omega)
  have HX := Lib.hid hx
  obtain ⟨z, hz⟩ : ∃ z : Nat, z = x / 256 := ⟨_, rfl⟩
  have HZ := Lib.hid hz
  have z0 : (0 : Int) ≤ (z : Int) := by omega
  have z1 : (z : Int) < 256 := by omega
  have zx : (x : Int) / 256 = (z : Int) := by omega
  clear hx hz
  go_enter Try.func93, Try.ntmps93
  go_wp2
  go_ret
  refine ⟨_, ret_int' (ww8' _), ?_, rfl⟩
  have hy : z = y.val := by have := HX.out; have := HZ.out; omega
  subst hy
  have key : ∀ L : Nat, (L ≤ 8 ∧ y.val < 2 ^ L ∧ (0 < y.val → 2 ^ L ≤ 2 * y.val)) → L + 8 ≤ 16 ∧ x < 2 ^ (L + 8) ∧ (0 < x → 2 ^ (L + 8) ≤ 2 * x) := by
    intro L ⟨h1, h2, h3⟩
    have e : 2 ^ (L + 8) = 2 ^ L * 256 := by rw [Nat.pow_add]
    have := HZ.out
    have h4 := h3 (by omega)
    rw [e]
    generalize 2 ^ L = P at *
    omega
  refine key _ ?_
  clear key HX HZ d1 d2 d3 h0 h1 zx h256 h
  revert y
  decide +kernel
theorem len64_w (x : Nat) (h : x < 65536) (w : World) : Calls Try.prog 93 #[.int .u64 x] w (LenOk x w) := by
  by_cases hx : x < 256
  · exact len64_lo ⟨x, hx⟩ x rfl w
  · exact len64_hi ⟨x / 256, by omega⟩ x rfl (by omega) h w
theorem len_w (x : Nat) (h : x < 65536) (w : World) : Calls Try.prog 78 #[.int .u64 x] w (LenOk x w) := by
  have hw : IntKind.u64.wrap (x : Int) = (x : Int) := by rw [IntKind.wrap_u64]; omega
  have H := Lib.hid h
  clear h
  go_enter Try.func78, Try.ntmps78
  go_wp2_with (go_at_call 93; refine (len64_w x H.out w).mono ?_; rintro e w' ⟨L, rfl, hL, rfl⟩; have HL := Lib.hid hL; clear hL)
  go_ret
  exact ⟨L, rfl, HL.out, rfl⟩
def PowOk (x : Nat) (w : World) (e : Ending) (w' : World) : Prop := ∃ L : Nat, e = .returned (.int .u64 ((2 ^ L : Nat) : Int)) ∧ (L ≤ 16 ∧ x < 2 ^ L ∧ (0 < x → 2 ^ L ≤ 2 * x)) ∧ w = w'
theorem shl1 : ∀ L : Fin 17, IntKind.u64.wrap (2 ^ min L.val 64 : Int) = ((2 ^ L.val : Nat) : Int) := by decide +kernel
set_option maxRecDepth 100000 in
theorem pow_w (x : Nat) (h : x < 65536) (w : World) : Calls Try.prog 96 #[.int .i64 x] w (PowOk x w) := by
  have h0 : (0 : Int) ≤ (x : Int) := by omega
  have h1 : (x : Int) < 65536 := by omega
  have hw : IntKind.u64.wrap (x : Int) = (x : Int) := by rw [IntKind.wrap_u64]; omega
  go_enter Try.func96, Try.ntmps96
  go_wp2_with (go_at_call 78; refine (len_w x h w).mono ?_; rintro e w' ⟨L, rfl, hL, rfl⟩; have HL := Lib.hid hL; clear hL)
  go_ret
  exact ⟨L, ret_int' (shl1 ⟨L, by have := HL.out.1; omega⟩), HL.out, rfl⟩
end Go.Proofs.Ytbllchfgjginoaa
/-
  A number by chance.
-/
namespace Go.Proofs.Ytbllchfgjginoaa
open Go.RowKit Go.Sort
set_option linter.unusedVariables false
set_option linter.unusedSimpArgs false
/-- A number of 64 bits in a block of its own. -/
def Rn (w : World) (s : Nat) : Prop := ∃ v : Int, w.heap[s]? = some (.cells #[.int .u64 v] 131 (0, 0))
theorem Rn.cell {w : World} {s : Nat} (h : Rn w s) : ∃ v : Int, w.cell? ⟨s, 0, none⟩ = some (.int .u64 v) ∧ w.frozen? ⟨s, 0, none⟩ = false := by
  obtain ⟨v, hv⟩ := h
  exact ⟨v, by simp [World.cell?, hv], by simp [World.frozen?, hv]⟩
theorem Rn.set {w : World} {s : Nat} (h : Rn w s) (v : Int) : Rn (w.setCell ⟨s, 0, none⟩ (.int .u64 v)) s := by
  obtain ⟨u, hu⟩ := h
  refine ⟨v, ?_⟩
  show (w.heap.modify s _)[s]? = _
  rw [Array.getElem?_modify, if_pos rfl, hu]
  rfl
theorem Rn.keep {w w1 : World} {s : Nat} (h : Rn w s) (k : Off (fun _ => False) w w1) : Rn w1 s := by
  obtain ⟨v, hv⟩ := h
  exact ⟨v, (k.block s (Array.getElem?_eq_some_iff.1 hv).1 id).trans hv⟩
theorem Rn.next {w : World} {s : Nat} (h : Rn w s) (v : Int) : Rn (w.setCell ⟨s, 0, none⟩ (.int .u64 v)).drew s := (h.set v).keep ((Off.refl _ _).drew)
theorem setcell_off (w : World) (s : Nat) (v : Value) : Off (fun k => k = s) w (w.setCell ⟨s, 0, none⟩ v).drew :=
  ((Off.refl (fun k => k = s) w).setCell (fun _ => rfl) v).drew
theorem Rn.other2 {w : World} {s g : Nat} (h : Rn w s) (hg : s ≠ g) (p q : Nat) (x y : Value) : Rn ((w.setCell ⟨g, p, none⟩ x).setCell ⟨g, q, none⟩ y).drew s := by
  obtain ⟨v, hv⟩ := h
  have k : Off (fun k => k = g) w ((w.setCell ⟨g, p, none⟩ x).setCell ⟨g, q, none⟩ y).drew := (((Off.refl (fun k => k = g) w).setCell (fun _ => rfl) x).setCell (fun _ => rfl) y).drew
  exact ⟨v, (k.block s (Array.getElem?_eq_some_iff.1 hv).1 hg).trans hv⟩
set_option maxHeartbeats 8000000 in
theorem next_w {s : Nat} {w : World} (hs : Rn w s) :
    Calls Try.prog 97 #[.pointer (some ⟨s, 0, none⟩)] w fun e w' => ∃ v : Int, e = .returned (.int .u64 v) ∧ Off (fun k => k = s) w w' ∧ Rn w' s := by
  have HC := Lib.hid hs
  obtain ⟨v, hv, hf⟩ := hs.cell
  clear hs
  go_enter Try.func97, Try.ntmps97
  go_upto_region 1 with fail
  go_region
  all_goals generalize bits BinOp.xor IntKind.u64 v _ = x
  all_goals generalize hW_ : (w.setCell ⟨s, 0, none⟩ (.int .u64 x)).drew = W1
  all_goals have HO1 := Lib.hid (show Off (fun k => k = s) w W1 by rw [← hW_]; exact setcell_off _ _ _)
  all_goals have HR1 : Hid (Rn W1 s) := by rw [← hW_]; exact HC.out.next x
  all_goals clear hW_ hv hf HC
  all_goals obtain ⟨v1, hv, hf⟩ := HR1.out.cell
  all_goals go_upto_region 2 with fail
  all_goals go_region
  all_goals generalize bits BinOp.xor IntKind.u64 v1 _ = x
  all_goals generalize hW_ : (W1.setCell ⟨s, 0, none⟩ (.int .u64 x)).drew = W2
  all_goals have HO2 := Lib.hid (show Off (fun k => k = s) W1 W2 by rw [← hW_]; exact setcell_off _ _ _)
  all_goals have HR2 : Hid (Rn W2 s) := by rw [← hW_]; exact HR1.out.next x
  all_goals clear hW_ hv hf HR1
  all_goals obtain ⟨v2, hv, hf⟩ := HR2.out.cell
  all_goals go_upto_region 3 with fail
  all_goals go_region
  all_goals generalize bits BinOp.xor IntKind.u64 v2 _ = x
  all_goals generalize hW_ : (W2.setCell ⟨s, 0, none⟩ (.int .u64 x)).drew = W3
  all_goals have HO3 := Lib.hid (show Off (fun k => k = s) W2 W3 by rw [← hW_]; exact setcell_off _ _ _)
  all_goals have HR3 : Hid (Rn W3 s) := by rw [← hW_]; exact HR2.out.next x
  all_goals clear hW_ hv hf HR2
  all_goals obtain ⟨v3, hv, hf⟩ := HR3.out.cell
  all_goals go_wp2
  all_goals go_ret
  all_goals exact ⟨v3, rfl, (HO1.out.trans HO2.out).trans HO3.out, HR3.out⟩

theorem and_mask (v : Int) (L M : Nat) (hL : L ≤ 16) (hM : M = 2 ^ L) : ∃ y : Nat, bits .and .u64 v ((M : Int) - 1) = (y : Int) ∧ y < M := by
  have hp : 0 < 2 ^ L := Nat.two_pow_pos L
  have h64 : 2 ^ L ≤ 65536 := Nat.le_trans (Nat.pow_le_pow_right (by decide) hL) (by decide)
  have e : (M : Int) - 1 = ((M - 1 : Nat) : Int) := by omega
  have e2 : (BitVec.ofInt IntKind.u64.bits (((M - 1 : Nat) : Int))).toNat = M - 1 := by
    rw [BitVec.ofInt_natCast, BitVec.toNat_ofNat]
    exact Nat.mod_eq_of_lt (Nat.lt_of_lt_of_le (by omega : M - 1 < 65536) (by decide))
  rw [e]
  refine ⟨(BitVec.ofInt IntKind.u64.bits v).toNat &&& (M - 1), ?_, ?_⟩
  · simp only [bits, BitVec.toNat_and, e2]
    have := Nat.and_lt_two_pow (BitVec.ofInt IntKind.u64.bits v).toNat (show M - 1 < 2 ^ L by omega)
    rw [IntKind.wrap_u64]
    omega
  · have := Nat.and_lt_two_pow (BitVec.ofInt IntKind.u64.bits v).toNat (show M - 1 < 2 ^ L by omega)
    omega
def PowM (x : Nat) (w : World) (e : Ending) (w' : World) : Prop := ∃ M : Nat, e = .returned (.int .u64 (M : Int)) ∧ ((∃ L, L ≤ 16 ∧ M = 2 ^ L) ∧ x < M ∧ (0 < x → M ≤ 2 * x)) ∧ w = w'
theorem powM_w (x : Nat) (h : x < 65536) (w : World) : Calls Try.prog 96 #[.int .i64 x] w (PowM x w) := by
  refine (pow_w x h w).mono ?_
  rintro e w' ⟨L, rfl, hL, rfl⟩
  exact ⟨2 ^ L, rfl, ⟨⟨L, hL.1, rfl⟩, hL.2⟩, rfl⟩
set_option maxHeartbeats 16000000 in
set_option maxRecDepth 100000 in
theorem break_w {g m cap a b : Nat} {d : Array Int} {w : World} (h : Lies w w g m d) (hab : a ≤ b) (hb : b ≤ d.size) (hsz : d.size < 65536) :
    Calls Try.prog 86 #[.slice (some ⟨g, 0, none⟩) d.size cap, .int .i64 a, .int .i64 b] w fun e w' => e = .returned (.tuple #[]) ∧ ∃ d', PermIn a b d d' ∧ Lies w w' g m d' := by
  have HL := Lib.hid h
  have HG := Lib.hid (show w.heap.size ≠ g from Nat.ne_of_gt h.lt)
  clear h
  obtain ⟨z, hz⟩ : ∃ z : Nat, z = b - a := ⟨_, rfl⟩
  have hz2 : a + z = b := by omega
  have hz3 : z < 65536 := by omega
  clear hz
  go_enter Try.func86, Try.ntmps86
  go_upto_region 1 with fail
  rw [show ((b : Int) - (a : Int)) = (z : Int) from by omega]
  by_cases h8 : 8 ≤ z
  · have hd8 : decide ((8 : Int) ≤ (z : Int)) = true := decide_eq_true (by omega)
    go_upto_region 3 with fail
    obtain ⟨s, hs⟩ : ∃ s, s = w.heap.size := ⟨_, rfl⟩
    rw [← hs]
    generalize hW_ : w.alloc (.cells #[.int .u64 z] 131 (0, 0)) = W1
    have HL1 := Lib.hid (show Lies w W1 g m d by rw [← hW_]; exact HL.out.keep (off_alloc _ _))
    have HR : Hid (Rn W1 s) := ⟨z, by rw [← hW_, hs]; exact World.alloc_heap_new _ _⟩
    have HS := Lib.hid hs
    have HGS := Lib.hid (show s ≠ g by rw [hs]; exact HG.out)
    clear hW_ hs HL HG
    obtain ⟨q, hq⟩ : ∃ q : Nat, q = z / 4 := ⟨_, rfl⟩
    have hq2 : 2 ≤ q := by omega
    have hq4 : q * 4 ≤ z := by omega
    have hqz : (z : Int) / 4 = (q : Int) := by omega
    obtain ⟨c, hc⟩ : ∃ c : Nat, c = a + q * 2 - 1 := ⟨_, rfl⟩
    have hc1 : c + 1 = a + q * 2 := by omega
    clear hq hc
    go_upto_region 4 with (go_at_call 96; refine (powM_w z hz3 _).mono ?_; rintro e w' ⟨M, rfl, hM, rfl⟩; have HM := Lib.hid hM; clear hM)
    have hM1 : z < M := HM.out.2.1
    have hM2 : M ≤ 2 * z := HM.out.2.2 (by omega)
    go_wp2
    rw [show ((a : Int) + (q : Int) * 2 - 1) = (c : Int) from by omega]
    go_loopw [9] (fun vi wr => ∃ (i : Nat) (dk : Array Int), vi = .int .i64 (i : Int) ∧ c ≤ i ∧ i ≤ c + 3 ∧ dk.size = d.size ∧ Hid (Lies w wr g m dk) ∧ Hid (Rn wr s) ∧ Hid (PermIn a b d dk)) (fun vi _ => c + 4 - (intOf vi).toNat)
    case atStart => exact ⟨c, d, rfl, by omega, by omega, rfl, HL1, HR, permIn_refl _ _ _⟩
    case round =>
      obtain ⟨i, dk, rfl, hk0, hk3, hsk, HK, HRK, HP⟩ := hrel
      clear HL1 HR
      by_cases hk2 : i ≤ c + 2
      · have hd1 : decide ((i : Int) ≤ (a : Int) + (q : Int) * 2 + 1) = true := decide_eq_true (by omega)
        have hw1 : IntKind.i64.wrap ((q : Int) * 2) = (q : Int) * 2 := IntWalk.i64_in _ (by omega)
        have hw2 : IntKind.i64.wrap ((a : Int) + (q : Int) * 2) = (a : Int) + (q : Int) * 2 := IntWalk.i64_in _ (by omega)
        have hw3 : IntKind.i64.wrap ((a : Int) + (q : Int) * 2 + 1) = (a : Int) + (q : Int) * 2 + 1 := IntWalk.i64_in _ (by omega)
        go_upto_region 7 with fail
        go_upto_region 8 with (go_at_call 97; refine (next_w HRK.out).mono ?_; rintro e W2 ⟨v, rfl, hO2, hR2⟩; have HO2 := Lib.hid hO2; have HR2 := Lib.hid hR2; clear hO2 hR2)
        have HK2 := Lib.hid (HK.out.young HO2.out (Nat.le_of_eq HS.out.symm) HGS.out)
        obtain ⟨y, hy, hyM⟩ := and_mask v _ M HM.out.1.choose_spec.1 HM.out.1.choose_spec.2
        rw [hy, show wrap64 (y : Int) = (y : Int) from by unfold wrap64; omega]
        clear hy
        obtain ⟨G, hG⟩ : ∃ G : Nat → Int, ∀ t, G t = dk[t]! := ⟨fun t => dk[t]!, fun _ => rfl⟩
        have HG := Lib.hid hG
        have HS0 := Lib.hid hsk
        have hcw := HK2.out.cells hG
        have hfw := HK2.out.free
        rw [hsk] at hcw hfw
        clear hG hsk
        by_cases hyz : z ≤ y
        · have hd2 : decide ((z : Int) ≤ (y : Int)) = true := decide_eq_true (by omega)
          obtain ⟨o, ho⟩ : ∃ o : Nat, o = y - z := ⟨_, rfl⟩
          have hor : (y : Int) - (z : Int) = (o : Int) := by omega
          have ho2 : o < z := by omega
          clear ho
          go_upto_region 10 with fail
          obtain ⟨j, hj⟩ : ∃ j : Nat, j = a + o := ⟨_, rfl⟩
          have hjr : ((a : Int) + (o : Int)) = (j : Int) := by omega
          have hjw : IntKind.i64.wrap (j : Int) = (j : Int) := IntWalk.i64_in _ (by omega)
          have q1 : i < d.size := by omega
          have q2 : j < d.size := by omega
          have q3 : j < b := by omega
          have q4 : a ≤ j := by omega
          clear hj
          obtain ⟨v3, hy3⟩ := cell?_setCell_some (w := W2) (p := ⟨g, i, none⟩) (x := .int .u32 (G j)) (q := ⟨g, j, none⟩) (hcw j q2)
          go_region
          all_goals go_wp2
          all_goals go_roundw
          case rel => exact ⟨i + 1, swp dk i j, by go_num, by omega, by omega, by rw [size_swp]; exact HS0.out, HK2.out.swpG HG.out (by have := HS0.out; omega) (by have := HS0.out; omega), HR2.out.other2 HGS.out _ _ _ _, permIn_trans _ _ _ _ _ HP.out (swp_permIn _ _ _ _ _ (by omega) (by omega) (by omega) (by omega) (by have := HS0.out; omega))⟩
          case measure => simp [intOf]; omega
        · have hd2 : decide ((z : Int) ≤ (y : Int)) = false := decide_eq_false (by omega)
          go_upto_region 10 with fail
          obtain ⟨j, hj⟩ : ∃ j : Nat, j = a + y := ⟨_, rfl⟩
          have hjr : ((a : Int) + (y : Int)) = (j : Int) := by omega
          have hjw : IntKind.i64.wrap (j : Int) = (j : Int) := IntWalk.i64_in _ (by omega)
          have q1 : i < d.size := by omega
          have q2 : j < d.size := by omega
          have q3 : j < b := by omega
          have q4 : a ≤ j := by omega
          clear hj
          obtain ⟨v3, hy3⟩ := cell?_setCell_some (w := W2) (p := ⟨g, i, none⟩) (x := .int .u32 (G j)) (q := ⟨g, j, none⟩) (hcw j q2)
          go_region
          all_goals go_wp2
          all_goals go_roundw
          case rel => exact ⟨i + 1, swp dk i j, by go_num, by omega, by omega, by rw [size_swp]; exact HS0.out, HK2.out.swpG HG.out (by have := HS0.out; omega) (by have := HS0.out; omega), HR2.out.other2 HGS.out _ _ _ _, permIn_trans _ _ _ _ _ HP.out (swp_permIn _ _ _ _ _ (by omega) (by omega) (by omega) (by omega) (by have := HS0.out; omega))⟩
          case measure => simp [intOf]; omega
      · have hd1 : decide ((i : Int) ≤ (a : Int) + (q : Int) * 2 + 1) = false := decide_eq_false (by omega)
        go_wp2
        go_end0
        exact ⟨rfl, dk, HP.out, HK.out⟩
  · have hd8 : decide ((8 : Int) ≤ (z : Int)) = false := decide_eq_false (by omega)
    go_wp2
    go_end0
    exact ⟨rfl, d, permIn_refl _ _ _, HL.out⟩
end Go.Proofs.Ytbllchfgjginoaa
