/-
  Laws for a range over a function whose body may write memory: a footprint is carried along. By a session.
-/
import Derived.RangeFuncNested
import Derived.Shelf.Abstract
import Derived.RangeFuncBound
import Derived.RangeFuncCalls
import Derived.RangeFuncLeaves
import Derived.WalkKit
import Derived.OwnWalkIn
import Derived.TacticsInMore
import Derived.LoopNIn
import Derived.LoopIn
import Derived.OrdersHeld
import Derived.Below
import Derived.Test.YtkhljamellgcfaaProg
import Derived.Test.YtkhljamellgcfaaWWords
import Derived.Test.YtkhljamellgcfaaWMore
import Derived.RegionTactic
import Derived.RegionIn
import Derived.BigRegion
import Derived.BigRegionIn
import Derived.Lib.Hide
import Derived.RangeFuncBox
import Derived.Maps.AppendAt
namespace Go.Proofs.Ytkhljamellgcfaa
open Go.RowKit

/-- Off φ: the blocks of φ may have turned, and new ones may be there; all else is as it was. -/
structure Off (φ : Nat → Prop) (w w' : World) : Prop where
  os : w'.os = w.os
  tape : w'.tape = w.tape
  output : w'.output = w.output
  size : w.heap.size ≤ w'.heap.size
  block : ∀ k, k < w.heap.size → ¬ φ k → w'.heap[k]? = w.heap[k]?

namespace Off
variable {φ ψ : Nat → Prop} {a b c w w' : World}
theorem refl (φ : Nat → Prop) (w : World) : Off φ w w := ⟨rfl, rfl, rfl, Nat.le_refl _, fun _ _ _ => rfl⟩
theorem trans (h : Off φ a b) (k : Off φ b c) : Off φ a c :=
  ⟨k.os.trans h.os, k.tape.trans h.tape, k.output.trans h.output, Nat.le_trans h.size k.size,
    fun i hi hn => (k.block i (Nat.lt_of_lt_of_le hi h.size) hn).trans (h.block i hi hn)⟩
theorem mono (h : Off φ a b) (hk : ∀ k, k < a.heap.size → φ k → ψ k) : Off ψ a b :=
  ⟨h.os, h.tape, h.output, h.size, fun i hi hn => h.block i hi (fun hp => hn (hk i hi hp))⟩
theorem then_ (h : Off φ a b) (k : Off ψ b c) (hk : ∀ i, i < a.heap.size → ψ i → φ i) : Off φ a c :=
  ⟨k.os.trans h.os, k.tape.trans h.tape, k.output.trans h.output, Nat.le_trans h.size k.size,
    fun i hi hn => (k.block i (Nat.lt_of_lt_of_le hi h.size) (fun hp => hn (hk i hi hp))).trans (h.block i hi hn)⟩
theorem drew (h : Off φ a w) : Off φ a w.drew := ⟨h.os, h.tape, h.output, h.size, h.block⟩
theorem alloc (h : Off φ a w) (o : Obj) : Off φ a (w.alloc o) :=
  h.trans ⟨rfl, rfl, rfl, by simp, fun k hk _ => Below.heap_alloc _ _ _ hk⟩
theorem setCell (h : Off φ a w) {p : Addr} (hp : p.block < a.heap.size → φ p.block) (u : Value) : Off φ a (w.setCell p u) :=
  h.then_ (ψ := fun k => k = p.block) ⟨rfl, rfl, rfl, by simp [World.setCell], fun k _ hn => Below.heap_setCell _ _ _ _ hn⟩ (fun i hi e => by subst e; exact hp hi)
theorem putObj (h : Off φ a w) {r : Nat} (hp : r < a.heap.size → φ r) (o : Obj) : Off φ a (w.putObj r o) :=
  h.then_ (ψ := fun k => k = r) ⟨rfl, rfl, rfl, by simp, fun k _ hn => World.putObj_heap_other hn⟩ (fun i hi e => by subst e; exact hp hi)
theorem of_below {n : Nat} (h : Below n a b) : Off (fun k => n ≤ k) a b :=
  ⟨h.os, h.tape, h.output, h.size, fun k _ hn => h.block k (by omega)⟩
theorem below {n : Nat} (h : Off (fun k => n ≤ k) a b) (hn : n ≤ a.heap.size) : Below n a b :=
  ⟨h.os, h.tape, h.output, h.size, fun k hk => h.block k (by omega) (by omega)⟩
theorem below' {n : Nat} (h : Off φ a b) (hn : n ≤ a.heap.size) (hp : ∀ k, φ k → n ≤ k) : Below n a b := (h.mono (ψ := fun k => n ≤ k) (fun k _ => hp k)).below hn
theorem grown {row : Option Nat} (h : Off φ a w) (hg : w.grownBy w' row) (hr : ∀ k, row = some k → k < a.heap.size → φ k) : Off φ a w' :=
  ⟨hg.os.trans h.os, hg.tape.trans h.tape, hg.output.trans h.output, Nat.le_trans h.size hg.size,
    fun k hk hn => (hg.block k (Nat.lt_of_lt_of_le hk h.size) (fun e => hn (hr k e.symm hk))).trans (h.block k hk hn)⟩
theorem cell (h : Off φ w w') {p : Addr} (hp : p.block < w.heap.size) (hn : ¬ φ p.block) : w'.cell? p = w.cell? p := World.cell?_of_block (w := w) (h.block p.block hp hn)
theorem frozen (h : Off φ w w') {p : Addr} (hp : p.block < w.heap.size) (hn : ¬ φ p.block) : w'.frozen? p = w.frozen? p := World.frozen?_of_block (w := w) (h.block p.block hp hn)
end Off

/-- What an iterator does, over whatever a loop's rounds do in their footprint: all of xs come, in order. D: the blocks that it reads, or writes, that lay there ahead; E: those that it writes. -/
def Iter {α : Type} (P : Program) (gf : Nat) (lb : Array Value) (encs : α → Array Value) (xs : List α) (D E : Nat → Prop) (w : World) : Prop :=
  (∀ k, D k → k < w.heap.size) ∧
  ∀ (l : Nat) (J : List α → (Nat → Prop) → World → Prop) (φ : Nat → Prop) (W : World),
    Off (fun k => ¬ D k) w W →
    (∀ pre φ A, J pre φ A → ∀ k, φ k → k < A.heap.size) →
    (∀ pre φ A B, J pre φ A → Off (fun k => ¬ φ k) A B → J pre φ B) →
    (∀ k, φ k → ¬ D k) →
    (∀ pre x φ A, J pre φ A → pre ++ [x] <+: xs → YieldAt Fence.wide 0 P l (encs x) A fun e B =>
      e = .returned (.bool true) ∧ ∃ φ', (∀ k, φ' k → φ k ∨ A.heap.size ≤ k) ∧ J (pre ++ [x]) φ' B ∧ Off φ A B) →
    J [] φ W →
    CallsIn Fence.wide 0 P gf (#[.func (.yield l) #[] #[]] ++ lb) W fun e W' =>
      (∃ v, e = .returned v) ∧ ∃ φ', (∀ k, φ' k → φ k ∨ W.heap.size ≤ k) ∧ J xs φ' W' ∧ Off (fun k => φ k ∨ E k) W W'

/-- How a round's body is left: off its end; the footprint grows by new blocks alone. -/
def RoundEnd {α : Type} (I : List α → (Nat → Prop) → World → Prop) (pre : List α) (φ : Nat → Prop) (n : Nat) (W2 : World) (e : Exit) (_ : Act) (W' : World) : Prop :=
  e = .normal ∧ ∃ φ', (∀ k, φ' k → φ k ∨ n ≤ k) ∧ I pre φ' W' ∧ Off (fun k => φ k ∨ n ≤ k) W2 W'

/-- A range over a function, at an outermost loop whose body is never left early and whose variables are assigned in their slots. -/
theorem wpIn_range {P : Program} {α : Type} {g : Operand} {ps : Array Tmp} {assign body : Code} {Q : Exit → Act → World → Prop} {a : Act} {w : World}
    {gf : Nat} {lb : Array Value} (hg : a.eval g = .func (.func gf) #[] lb) (eg : ∀ args w, (callFunc gf args).run P w = .ok (.enter gf args) w)
    {encs : α → Array Value} {xs : List α} {D E : Nat → Prop} (hit : Iter P gf lb encs xs D E w) (hps : ∀ x, (encs x).size = ps.size)
    (I : List α → (Nat → Prop) → World → Prop) (φ0 : Nat → Prop)
    (hex : ∀ pre φ A, I pre φ A → ∀ k, φ k → k < A.heap.size)
    (hst : ∀ pre φ A B, I pre φ A → Off (fun k => ¬ φ k) A B → I pre φ B)
    (hdis : ∀ k, φ0 k → ¬ D k) (h0 : I [] φ0 w)
    (hbody : ∀ (l : Nat) (pre : List α) (x : α) (φ : Nat → Prop) (W : World) (K : Act → World → Prop), I pre φ W → pre ++ [x] <+: xs → w.heap.size < l → ¬ φ l → l < W.heap.size →
      (∀ (a₁ : Act) (W1 : World), Off (fun _ => False) W W1 →
        (∀ W2, Off (fun k => k = l) W1 W2 → W2.heap.size = W1.heap.size → I pre φ W2 →
          body.wpIn (Fence.wide.inRound l) 0 P (RoundEnd I (pre ++ [x]) φ W.heap.size W2) a₁ W2) → K a₁ W1) →
      assign.wpIn (Fence.wide.inRound l) 0 P (Exit.then K (fun _ _ _ => False)) { tmps := (ps.zip (encs x)).foldl (fun t (p, v) => t.setIfInBounds p v) a.tmps, defers := [] } W)
    (hdone : ∀ (Dd : Nat) (φ' : Nat → Prop) (W : World), I xs φ' W → Off (fun k => φ0 k ∨ E k) w W → w.heap.size ≤ Dd → ¬ φ' Dd → (∀ k, φ' k → φ0 k ∨ w.heap.size ≤ k) →
      W.heap[Dd]? = some (.deferred (some [])) → Q .normal { a with defers := { target := .collected Dd, args := #[] } :: a.defers } W) :
    (Code.rangeFunc g ps assign body).wpIn Fence.wide 0 P Q a w := by
  refine wpIn_rangeFunc ?_
  intro fn hfn
  rw [show Fence.wide.round = none from rfl]
  obtain ⟨rec, hrec⟩ : ∃ rec : LoopState → Option Code → Loop, rec = fun st pe => { state := st, pending := pe, fn, tmps := a.tmps, params := ps, assign, body, defers := w.heap.size } := ⟨_, rfl⟩
  obtain ⟨W1, hW1⟩ : ∃ W1, (w.alloc (.deferred (some []))).alloc (.loop (rec .ready none)) = W1 := ⟨_, rfl⟩
  have hL1 : W1.heap[w.heap.size + 1]? = some (.loop (rec .ready none)) := by
    rw [← hW1]; have := World.alloc_heap_new (w.alloc (.deferred (some []))) (.loop (rec .ready none)); rwa [World.size_alloc] at this
  have hK1 : W1.heap[w.heap.size]? = some (.deferred (some [])) := by
    rw [← hW1]; exact (Below.heap_alloc _ _ _ (by simp)).trans (World.alloc_heap_new w _)
  have hs1 : W1.heap.size = w.heap.size + 2 := by rw [← hW1]; simp
  have hO1 : ∀ φ, Off φ w W1 := fun φ => by rw [← hW1]; exact ((Off.refl φ w).alloc _).alloc _
  have hI1 : I [] φ0 W1 := hst _ _ _ _ h0 (hO1 _)
  have hφw : ∀ k, φ0 k → k < w.heap.size := hex _ _ _ h0
  have hnl : ¬ φ0 (w.heap.size + 1) := fun h => by have := hφw _ h; omega
  have hnk : ¬ φ0 w.heap.size := fun h => by have := hφw _ h; omega
  refine ⟨w.heap.size + 1, [{ target := .collected w.heap.size, args := #[] }], W1, { target := .fn (.func gf) lb, args := #[.func (.yield (w.heap.size + 1)) #[] #[]] }, W1, gf,
    #[.func (.yield (w.heap.size + 1)) #[] #[]] ++ lb, W1, ?_, ?_, fun _ _ => trivial, ?_, fun h => (by simp [Fence.wide] at h), ?_⟩
  · rw [← hW1, hrec]; exact run_enterLoop_outer _ _ _ _ _
  · simp only [resolve, hg]
    simp [go_sem]
  · simp [invoke, go_sem, eg]
  · refine (hit.2 (w.heap.size + 1)
      (fun pre ψ W => ∃ φ, ψ = (fun k => φ k ∨ k = w.heap.size + 1 ∨ k = w.heap.size) ∧ I pre φ W ∧ ¬ φ (w.heap.size + 1) ∧ ¬ φ w.heap.size ∧
        W.heap[w.heap.size + 1]? = some (.loop (rec .ready none)) ∧ W.heap[w.heap.size]? = some (.deferred (some [])))
      (fun k => φ0 k ∨ k = w.heap.size + 1 ∨ k = w.heap.size) W1 (hO1 _) ?_ ?_ ?_ ?_ ⟨φ0, rfl, hI1, hnl, hnk, hL1, hK1⟩).mono ?_
    · rintro pre ψ A ⟨φ, rfl, hi, -, -, hl, hk⟩ k (h | rfl | rfl)
      · exact hex _ _ _ hi k h
      · exact (Array.getElem?_eq_some_iff.1 hl).1
      · exact (Array.getElem?_eq_some_iff.1 hk).1
    · rintro pre ψ A B ⟨φ, rfl, hi, h1, h2, hl, hk⟩ ho
      have s1 := (Array.getElem?_eq_some_iff.1 hl).1
      have s2 := (Array.getElem?_eq_some_iff.1 hk).1
      exact ⟨φ, rfl, hst _ _ _ _ hi (ho.mono (fun k _ h => fun hp => h (.inl hp))), h1, h2,
        (ho.block _ s1 (fun h => h (.inr (.inl rfl)))).trans hl, (ho.block _ s2 (fun h => h (.inr (.inr rfl)))).trans hk⟩
    · rintro k (h | rfl | rfl)
      · exact hdis k h
      · intro h; have := hit.1 _ h; omega
      · intro h; have := hit.1 _ h; omega
    · -- ONE ROUND
      rintro pre x ψ W ⟨φ, rfl, hi, h1, h2, hl, hk⟩ hpre
      have hlt : w.heap.size + 1 < W.heap.size := (Array.getElem?_eq_some_iff.1 hl).1
      have hy := run_yield (P := P) (args := encs x) hl (by rw [hrec]; exact hps x)
      rw [hrec] at hy
      refine ⟨fn, _, assign, body, hy, roundIn_of_wpIn hfn (hbody (w.heap.size + 1) pre x φ W _ hi hpre (by omega) h1 hlt ?_)⟩
      intro a₁ W1' hO1' hb
      have hl1 : W1'.heap[w.heap.size + 1]? = some (.loop (rec .ready none)) := (hO1'.block _ hlt id).trans hl
      have hz1 := hO1'.size
      have hk1 : W1'.heap[w.heap.size]? = some (.deferred (some [])) := (hO1'.block _ (by omega) id).trans hk
      refine ⟨_, run_beginRound hl1 (by rw [hrec]), ?_⟩
      obtain ⟨W2, hW2⟩ : ∃ W2, W1'.putObj (w.heap.size + 1) (.loop { rec .ready none with state := .busy }) = W2 := ⟨_, rfl⟩
      rw [hW2]
      have hl2 : W2.heap[w.heap.size + 1]? = some (.loop { rec .ready none with state := .busy }) := by rw [← hW2]; exact World.putObj_heap_same (by omega)
      have hk2 : W2.heap[w.heap.size]? = some (.deferred (some [])) := by rw [← hW2]; exact (World.putObj_heap_other (by omega)).trans hk1
      have hz2 : W2.heap.size = W1'.heap.size := by rw [← hW2]; simp
      have hO2 : Off (fun k => k = w.heap.size + 1) W1' W2 := by rw [← hW2]; exact (Off.refl (fun k => k = w.heap.size + 1) W1').putObj (fun _ => rfl) _
      have hO2' : Off (fun k => k = w.heap.size + 1) W W2 := (hO1'.mono (fun _ _ h => h.elim)).trans hO2
      have hi2 : I pre φ W2 := hst _ _ _ _ hi (hO2'.mono (fun k _ e hp => h1 (e ▸ hp)))
      refine wpIn_mono (hb W2 hO2 hz2 hi2) ?_
      rintro e a3 W3 ⟨rfl, φ', hφ', hi3, hO3⟩
      have hl3 : W3.heap[w.heap.size + 1]? = some (.loop { rec .ready none with state := .busy }) := (hO3.block _ (by omega) (fun h => by rcases h with h | h; exact h1 h; omega)).trans hl2
      have hk3 : W3.heap[w.heap.size]? = some (.deferred (some [])) := (hO3.block _ (by omega) (fun h => by rcases h with h | h; exact h2 h; omega)).trans hk2
      have hr := run_endRound (P := P) none hl3
      rw [hrec] at hr hl3
      refine ⟨_, _, hr, rfl, (fun k => φ' k ∨ k = w.heap.size + 1 ∨ k = w.heap.size), ?_, ?_, ?_⟩
      · rintro k (h | h | h)
        · rcases hφ' k h with h | h
          · exact .inl (.inl h)
          · exact .inr (by omega)
        · exact .inl (.inr (.inl h))
        · exact .inl (.inr (.inr h))
      · have n1 : ¬ φ' (w.heap.size + 1) := fun h => by rcases hφ' _ h with h | h; exact h1 h; omega
        have n2 : ¬ φ' w.heap.size := fun h => by rcases hφ' _ h with h | h; exact h2 h; omega
        refine ⟨φ', rfl, hst _ _ _ _ hi3 ((Off.refl _ W3).putObj (fun _ => n1) _), n1, n2, ?_, (World.putObj_heap_other (by omega)).trans hk3⟩
        rw [hrec]
        exact World.putObj_heap_same (Array.getElem?_eq_some_iff.1 hl3).1
      · exact ((hO2'.mono (fun k _ e => .inr (.inl e))).then_ hO3 (fun i hi h => by rcases h with h | h; exact .inl h; omega)).putObj (fun _ => .inr (.inl rfl)) _
    · -- BEHIND THE ITERATOR
      rintro e W2 ⟨⟨v, rfl⟩, ψ, hψ, ⟨φ, rfl, hi, h1, h2, hl, hk⟩, hO⟩
      have hend := run_endLoop (P := P) hl (by rw [hrec]; simp)
      rw [hrec] at hend
      refine ⟨none, _, hend, ?_⟩
      refine hdone w.heap.size φ _ (hst _ _ _ _ hi ((Off.refl _ W2).putObj (fun _ => h1) _)) ?_ (Nat.le_refl _) h2 ?_ ((World.putObj_heap_other (by omega)).trans hk)
      · refine ((hO1 _).then_ hO ?_).putObj (fun h => by omega) _
        rintro i hi' ((h | h | h) | h)
        · exact .inl h
        · omega
        · omega
        · exact .inr h
      · intro k h
        rcases hψ k (.inl h) with (h' | h' | h') | h'
        · exact .inl h'
        · exact .inr (by omega)
        · exact .inr (by omega)
        · exact .inr (by omega)

end Go.Proofs.Ytkhljamellgcfaa
/-
  A region that draws its order: what only reads is walked in the order of the text, in every world that meets S; what writes comes behind it in one forced order.
-/
namespace Go.Proofs.Ytkhljamellgcfaa
open Go.RowKit

/-- The reading part: each operation yields one value in every world that meets S. -/
def wpHeld (P : Program) (ops : Array Oper) (S : World → Prop) (Q : Act → Prop) : List Oper → Act → Prop
  | [], a => Q a
  | o :: rest, a => (Region.wanted o (yielded ops a.tmps) = true ∧ ∃ v, (∀ w, S w → (execOp a.eval o).run P w = .ok (.value v) w) ∧ wpHeld P ops S Q rest (a.put o.dst v)) ∨
      (Region.wanted o (yielded ops a.tmps) = false ∧ wpHeld P ops S Q rest (a.put o.dst undef))

/-- The part that writes. -/
def wpTail (P : Program) (ops : Array Oper) (S : World → Prop) (Q : Exit → Act → World → Prop) : List Oper → Act → World → Prop
  | [], a, w => Q .normal a w
  | o :: rest, a, w => o.wp P a w (fun a' w' => S w' ∧ wpTail P ops S Q rest a' w') Q

def marks : Nat → Nat → Array Bool → Array Bool
  | 0, _, l => l
  | n + 1, k, l => marks n (k + 1) (l.setIfInBounds k true)
def lexPre (md : Region.Mode) (ops : Array Oper) : Nat → Nat → Array Bool → Bool
  | 0, _, _ => true
  | n + 1, k, l => (Region.ready md ops l).contains k && Region.free md ops l k && lexPre md ops n (k + 1) (l.setIfInBounds k true)
def tailB (md : Region.Mode) (ops : Array Oper) : Nat → Nat → Array Bool → Bool
  | 0, _, l => Region.ready md ops l == []
  | n + 1, k, l => Region.ready md ops l == [k] && ((ops[k]?).map (·.guard.isNone)).getD false && tailB md ops n (k + 1) (l.setIfInBounds k true)

variable {P : Program} {ops : Array Oper} {Q : Exit → Act → World → Prop} {md : Region.Mode} {S : World → Prop}

theorem wpAnyH_tail : ∀ (l : List Oper) (k : Nat) (listed : Array Bool) (a : Act) (w : World), (∀ j, j < l.length → l[j]? = ops[k + j]?) → tailB md ops l.length k listed = true →
    wpTail P ops S Q l a w → wpAnyH P md ops Q S l.length listed a w
  | [], _, _, _, _, _, hB, h => ⟨by simpa [tailB] using hB, h⟩
  | o :: l, k, listed, a, w, hl, hB, h => by
    have h0 : ops[k]? = some o := by simpa using (hl 0 (by simp)).symm
    simp only [List.length_cons, tailB, Bool.and_eq_true, h0, Option.map_some, Option.getD_some, beq_iff_eq] at hB
    obtain ⟨⟨hr, hg⟩, hB'⟩ := hB
    refine wpAnyH_all hr (by simp) (fun i hi => ?_)
    obtain rfl : i = k := by simpa using hi
    unfold wpOp
    simp only [h0]
    have hg' : o.guard = none := by simpa using hg
    rw [if_pos (by simp [Region.wanted, hg'])]
    refine .inl (Oper.wp_mono (fun a' w' h' => ⟨h'.1, ?_⟩) h)
    exact wpAnyH_tail l (i + 1) _ a' w' (fun j hj => by have := hl (j + 1) (by simp; omega); simpa [Nat.add_assoc, Nat.add_comm 1 j] using this) hB' h'.2

theorem wpAnyH_pre (hs : Region.noSelect ops = true) (hQ : ∀ c a d v w, Q (.panic c) (Act.put a d v) w → Q (.panic c) a w) {fuel : Nat} {w : World} (hS : S w) :
    ∀ (l : List Oper) (k : Nat) (listed : Array Bool) (a : Act), (∀ j, j < l.length → l[j]? = ops[k + j]?) → lexPre md ops l.length k listed = true →
    wpHeld P ops S (fun a' => wpAnyH P md ops Q S fuel (marks l.length k listed) a' w) l a → wpAnyH P md ops Q S (fuel + l.length) listed a w
  | [], _, _, _, _, _, h => h
  | o :: l, k, listed, a, hl, hB, h => by
    have h0 : ops[k]? = some o := by simpa using (hl 0 (by simp)).symm
    simp only [List.length_cons, lexPre, Bool.and_eq_true] at hB
    obtain ⟨⟨hr, hf⟩, hB'⟩ := hB
    have hl' : ∀ j, j < l.length → l[j]? = ops[k + 1 + j]? := fun j hj => by have := hl (j + 1) (by simp; omega); simpa [Nat.add_assoc, Nat.add_comm 1 j] using this
    rcases h with ⟨hw, v, hv, h⟩ | ⟨hw, h⟩
    · exact wpAnyH_take h0 hs hf hr (fun c a w => hQ c a _ _ w) (.inl ⟨hw, hv⟩) hS (wpAnyH_pre hs hQ hS l (k + 1) _ _ hl' hB' h)
    · exact wpAnyH_take h0 hs hf hr (fun c a w => hQ c a _ _ w) (.inr ⟨hw, rfl⟩) hS (wpAnyH_pre hs hQ hS l (k + 1) _ _ hl' hB' h)

theorem wpHeld_mono {Q1 Q2 : Act → Prop} (hQ : ∀ a, Q1 a → Q2 a) : ∀ {l : List Oper} {a : Act}, wpHeld P ops S Q1 l a → wpHeld P ops S Q2 l a
  | [], _, h => hQ _ h
  | _ :: _, _, .inl ⟨hw, v, hv, h⟩ => .inl ⟨hw, v, hv, wpHeld_mono hQ h⟩
  | _ :: _, _, .inr ⟨hw, h⟩ => .inr ⟨hw, wpHeld_mono hQ h⟩

/-- The whole region. n: how many operations only read. -/
def regB (ops : Array Oper) (n : Nat) : Bool :=
  Region.noSelect ops && lexPre .any ops n 0 (Array.replicate ops.size false) && tailB .any ops (ops.size - n) n (marks n 0 (Array.replicate ops.size false))

theorem wp_reg {id : Nat} {a : Act} {w : World} {l : List Oper} (n : Nat) (S : World → Prop) (hm : P.follows .mixedOrders = true) (hB : regB l.toArray n = true) (hn : n ≤ l.length)
    (hQ : ∀ c a d v w, Q (.panic c) (Act.put a d v) w → Q (.panic c) a w) (hS : S w.drew)
    (h : wpHeld P l.toArray S (fun a' => wpTail P l.toArray S Q (l.drop n) a' w.drew) (l.take n) a) : (Code.region id l.toArray true).wp P Q a w := by
  simp only [regB, Bool.and_eq_true] at hB
  obtain ⟨⟨hs, hp⟩, ht⟩ := hB
  refine wp_region_held (S := S) hm ?_
  have hlen : (l.take n).length = n := by simp; omega
  have hd : (l.drop n).length = l.toArray.size - n := by simp
  have e : l.toArray.size = (l.drop n).length + (l.take n).length := by simp; omega
  generalize Array.replicate l.toArray.size false = z at *
  rw [e]
  refine wpAnyH_pre hs hQ hS (l.take n) 0 z a (fun j hj => ?_) ?_ ?_
  · rw [hlen] at hj
    simp [hj]
  · rw [hlen]; exact hp
  · rw [hlen]
    refine wpHeld_mono (fun a' h' => ?_) h
    refine wpAnyH_tail (l.drop n) n _ a' _ (fun j hj => ?_) ?_ h'
    · simp
    · rw [hd]; exact ht

theorem wpHeld_goK {Q : Act → Prop} {o : Oper} {rest : List Oper} {a : Act} {v : Value} (hw : Region.wanted o (yielded ops a.tmps) = true) (hv : ∀ w, S w → (execOp a.eval o).run P w = .ok (.value v) w)
    (h : ∀ K : Act → Prop, (∀ a', wpHeld P ops S Q rest a' → K a') → K (a.put o.dst v)) : wpHeld P ops S Q (o :: rest) a := .inl ⟨hw, v, hv, h _ fun _ h => h⟩
theorem wpHeld_skipK {Q : Act → Prop} {o : Oper} {rest : List Oper} {a : Act} (hw : Region.wanted o (yielded ops a.tmps) = false)
    (h : ∀ K : Act → Prop, (∀ a', wpHeld P ops S Q rest a' → K a') → K (a.put o.dst undef)) : wpHeld P ops S Q (o :: rest) a := .inr ⟨hw, h _ fun _ h => h⟩
theorem wpHeld_nil {Q : Act → Prop} {a : Act} (h : Q a) : wpHeld P ops S Q [] a := h
theorem wpTail_step {o : Oper} {rest : List Oper} {a : Act} {w : World} (h : ∀ K : Act → World → Prop, (∀ a' w', S w' → wpTail P ops S Q rest a' w' → K a' w') → o.wp P a w K Q) : wpTail P ops S Q (o :: rest) a w :=
  h _ fun _ _ h1 h2 => ⟨h1, h2⟩
theorem wpTail_nil {a : Act} {w : World} (h : Q .normal a w) : wpTail P ops S Q [] a w := h
end Go.Proofs.Ytkhljamellgcfaa
/-
  Package set: two sets at once.
-/
namespace Go.Proofs.Ytkhljamellgcfaa
open Go.RowKit Go.Shelf Go.Proofs.YtkhljamellgcfaaW.PrintWords
attribute [local go_sem] Oper.semAt_some

theorem readsInt_of_block {w w' : World} {k : IntKind} {A : Option Addr} {n : Nat} {xs : List Int} (h : ReadsInt w k A n xs) (hb : ∀ ad, A = some ad → 0 < n → w'.heap[ad.block]? = w.heap[ad.block]?) : ReadsInt w' k A n xs :=
  ⟨h.1, h.2.1, fun hn => by
    obtain ⟨ad, e, hc⟩ := h.2.2 hn
    refine ⟨ad, e, fun j hj => ?_⟩
    rw [World.cell?_of_block (w := w) (by rw [show (ad.add j).block = ad.block from by unfold Addr.add; split <;> rfl]; exact hb ad e hn)]
    exact hc j hj⟩

/-- What is in two sets, rising, and which has it. -/
def bothOf : List Int → List Int → List (Int × Bool × Bool)
  | [], [] => []
  | x :: a, [] => (x, true, false) :: bothOf a []
  | [], y :: b => (y, false, true) :: bothOf [] b
  | x :: a, y :: b =>
    if x < y then (x, true, false) :: bothOf a (y :: b)
    else if y < x then (y, false, true) :: bothOf (x :: a) b
    else (x, true, true) :: bothOf a b
termination_by a b => a.length + b.length

/-- One row's state: its box, where it lies, what is left of it. -/
def SideOf (w : World) (dat : Nat → Prop) (Bx : Nat) (l : List Int) : Prop :=
  ∃ A c, Boxed w Bx 27 (.slice A l.length c) ∧ l.length ≤ c ∧ ReadsInt w .u32 A l.length l ∧ ∀ ad, A = some ad → 0 < l.length → dat ad.block

theorem SideOf.keep {w w' : World} {dat : Nat → Prop} {Bx : Nat} {l : List Int} (h : SideOf w dat Bx l) (hb : w'.heap[Bx]? = w.heap[Bx]?) (hd : ∀ k, dat k → w'.heap[k]? = w.heap[k]?) : SideOf w' dat Bx l := by
  obtain ⟨A, c, h1, h2, h3, h4⟩ := h
  exact ⟨A, c, hb.trans h1, h2, readsInt_of_block h3 (fun ad e hp => hd _ (h4 ad e hp)), h4⟩

theorem SideOf.tail {w w' : World} {dat : Nat → Prop} {Bx : Nat} {x : Int} {l : List Int} {ad : Addr} {c : Nat} (h3 : ReadsInt w .u32 (some ad) (l.length + 1) (x :: l)) (h2 : l.length + 1 ≤ c) (h4 : dat ad.block)
    (hb : Boxed w' Bx 27 (.slice (if c = 1 then some ad else some { block := ad.block, off := ad.off + 1 }) l.length (c - 1))) (hd : ∀ k, dat k → w'.heap[k]? = w.heap[k]?) : SideOf w' dat Bx l := by
  refine ⟨_, _, hb, by omega, ⟨rfl, by have := h3.2.1; omega, fun hp => ?_⟩, fun a e hp => ?_⟩
  · rw [if_neg (by omega)]
    refine ⟨_, rfl, fun j hj => ?_⟩
    obtain ⟨ad', e, hc⟩ := h3.2.2 (by omega)
    cases e
    have := hc (j + 1) (by omega)
    rw [List.getD_cons_succ] at this
    rw [← this, World.cell?_of_block (w := w) (by rw [show (Addr.add { block := ad.block, off := ad.off + 1 } j).block = ad.block from by unfold Addr.add; split <;> rfl]; exact hd _ h4)]
    congr 1
    unfold Addr.add
    simp only [Nat.add_eq_zero_iff, Nat.succ_ne_self, and_false, if_false]
    split
    · rename_i h; subst h; simp
    · simp only [Addr.mk.injEq, true_and, and_true]; omega
  · rw [if_neg (by omega)] at e
    cases e
    exact h4

theorem cell_of_block {w : World} {b i : Nat} {cs : Array Value} {t : TypeId} {fr : Nat × Nat} (h : w.heap[b]? = some (.cells cs t fr)) : w.cell? ⟨b, i, none⟩ = cs[i]? := by
  simp [World.cell?, h]

set_option maxRecDepth 100000 in
set_option maxHeartbeats 8000000 in
theorem both_iter (Ba Bb : Nat) (la lb : List Int) (hla : la.length ≤ 140737488351232) (hlb : lb.length ≤ 140737488351232) (hne : Ba ≠ Bb) (dat : Nat → Prop) (hd1 : ¬ dat Ba) (hd2 : ¬ dat Bb)
    (w : World) (hdw : ∀ k, dat k → k < w.heap.size) (h1 : SideOf w dat Ba la) (h2 : SideOf w dat Bb lb) :
    Iter Try.prog 47 #[.pointer (some ⟨Ba, 0, none⟩), .pointer (some ⟨Bb, 0, none⟩)] (fun x : Int × Bool × Bool => #[.int .u32 x.1, .agg #[.bool x.2.1, .bool x.2.2]]) (bothOf la lb) (fun k => k = Ba ∨ k = Bb ∨ dat k) (fun k => k = Ba ∨ k = Bb) w := by
  refine ⟨?_, ?_⟩
  · obtain ⟨A, c, h, _⟩ := h1
    obtain ⟨A', c', h', _⟩ := h2
    rintro k (rfl | rfl | h3)
    · exact h.lt
    · exact h'.lt
    · exact hdw k h3
  intro l J φ W hW hex hst hdis hround h0
  have h1' : SideOf W dat Ba la := h1.keep (hW.block _ (by obtain ⟨A, c, h, _⟩ := h1; exact h.lt) (fun h => h (.inl rfl))) (fun k hk => hW.block _ (hdw k hk) (fun h => h (.inr (.inr hk))))
  have h2' : SideOf W dat Bb lb := h2.keep (hW.block _ (by obtain ⟨A, c, h, _⟩ := h2; exact h.lt) (fun h => h (.inr (.inl rfl)))) (fun k hk => hW.block _ (hdw k hk) (fun h => h (.inr (.inr hk))))
  have h1lt : Ba < W.heap.size := by obtain ⟨A, c, hb, _⟩ := h1'; exact hb.lt
  have h2lt : Bb < W.heap.size := by obtain ⟨A, c, hb, _⟩ := h2'; exact hb.lt
  have hdW : ∀ k, dat k → k < W.heap.size := fun k hk => Nat.lt_of_lt_of_le (hdw k hk) hW.size
  clear h1 h2 hW hdw
  refine callsIn_of_wp Try.func47 rfl trivial ?_ rfl
  simp only [Try.ntmps47, List.size_toArray, List.length_cons, List.length_nil, Nat.reduceAdd, Nat.reduceSub, Array.replicate_succ, Array.replicate_zero, List.push_toArray, List.append_toArray, List.nil_append, List.cons_append]
  gi_wp2
  gi_loopw [] (fun wr => ∃ (pre : List (Int × Bool × Bool)) (ra rb : List Int) (ψ : Nat → Prop), bothOf la lb = pre ++ bothOf ra rb ∧ ra.length ≤ la.length ∧ rb.length ≤ lb.length ∧ J pre ψ wr ∧ (∀ k, ψ k → φ k ∨ W.heap.size ≤ k) ∧
      SideOf wr dat Ba ra ∧ SideOf wr dat Bb rb ∧ Off (fun k => φ k ∨ k = Ba ∨ k = Bb) W wr)
    (fun wr => match wr.cell? ⟨Ba, 0, none⟩, wr.cell? ⟨Bb, 0, none⟩ with | some (.slice _ n _), some (.slice _ m _) => n + m | _, _ => 0)
  case atStart => exact ⟨[], la, lb, φ, rfl, Nat.le_refl _, Nat.le_refl _, h0, fun _ => .inl, h1', h2', Off.refl _ _⟩
  case round =>
    obtain ⟨pre, ra, rb, ψ, hpre, hra, hrb, hJ, hψ, ⟨A, ca, b1, n1, r1, q1⟩, ⟨B, cb, b2, n2, r2, q2⟩, hO⟩ := hrel
    have c1 := b1.cell
    have c2 := b2.cell
    clear h1' h2'
    have v1 : ¬ ψ Ba := fun h => by rcases hψ _ h with h | h; exact hdis _ h (.inl rfl); omega
    have v2 : ¬ ψ Bb := fun h => by rcases hψ _ h with h | h; exact hdis _ h (.inr (.inl rfl)); omega
    have v3 : ∀ k, dat k → ¬ ψ k := fun k hk h => by rcases hψ _ h with h | h; exact hdis _ h (.inr (.inr hk)); have := hdW k hk; omega
    have zr := hO.size
    have fin : ∀ (W2 W4 : World) (ψ' : Nat → Prop), Off (fun k => k = Ba ∨ k = Bb) wr W2 → Off ψ W2 W4 → (∀ k, ψ' k → ψ k ∨ W2.heap.size ≤ k) →
        (∀ k, dat k → W4.heap[k]? = wr.heap[k]?) ∧ (∀ k, ψ' k → φ k ∨ W.heap.size ≤ k) ∧ Off (fun k => φ k ∨ k = Ba ∨ k = Bb) W W4 := by
      intro W2 W4 ψ' o1 o2 h3
      have z2 := o1.size
      refine ⟨fun k hk => ?_, fun k hk => ?_, ?_⟩
      · have := hdW k hk
        exact (o2.block k (by omega) (v3 k hk)).trans (o1.block k (by omega) (fun h => by rcases h with rfl | rfl; exact hd1 hk; exact hd2 hk))
      · rcases h3 k hk with h | h
        · exact hψ k h
        · exact .inr (by omega)
      · refine (hO.then_ o1 (fun i hi h => .inr h)).then_ o2 (fun i hi h => ?_)
        rcases hψ i h with h | h
        · exact .inl h
        · omega
    cases ra with
    | nil =>
      cases rb with
      | nil =>
        gi_wp2
        go_end0
        exact ⟨⟨_, rfl⟩, ψ, hψ, by rw [hpre, bothOf]; simpa using hJ, hO⟩
      | cons y rb =>
        obtain ⟨bd, rfl, hc2⟩ := r2.2.2 (by simp)
        have a1 := hc2 0 (by simp)
        simp [Addr.add] at a1
        have g2 : (((rb.length : Int) + 1) == 0) = false := by simp; omega
        clear hc2
        have m2 := q2 bd rfl (by simp)
        simp only [List.length_cons, List.length_nil] at hra hrb n1 n2 r1 r2 b1 b2 c1 c2
        gi_wp2
        rw [wpIn_wide]
        have HC : ∀ w', Below wr.heap.size wr w' → w'.cell? ⟨Ba, 0, none⟩ = some (.slice A 0 ca) ∧ w'.cell? ⟨Bb, 0, none⟩ = some (.slice (some bd) (rb.length + 1) cb) := fun w' h => ⟨pw_cell_below h c1, pw_cell_below h c2⟩
        refine wp_reg 35 (fun w' => Below wr.heap.size wr w') (by kernel_rfl) (by kernel_rfl) (by decide) (fun _ _ d _ _ h => by cases d <;> exact h) (Below.refl _ _).drew ?_
        simp only [List.take_succ_cons, List.take_zero, List.drop_succ_cons, List.drop_zero]
        repeat (first | (apply wpHeld_goK rfl; (focus (intro w' hw'; go_simp; try rfl)); intro K hK; go_simp; refine hK _ ?_; clear hK K) | (refine wpHeld_skipK rfl (fun K hK => ?_); go_simp; refine hK _ ?_; clear hK K))
        refine wpHeld_nil ?_
        refine wpTail_step (fun K hK => ?_)
        go_simp
        refine hK _ _ ?_ ?_
        · exact ((Below.refl _ _).alloc (Nat.le_refl _) _).drew
        clear hK K
        refine wpTail_step (fun K hK => ?_)
        go_simp
        refine hK _ _ ?_ ?_
        · exact ((Below.refl _ _).alloc (Nat.le_refl _) _).drew
        clear hK K
        refine wpTail_nil ?_
        clear HC
        obtain ⟨W1, hW1⟩ : ∃ W1, (wr.alloc (.cells #[.bool false, .bool true] 44)).drew = W1 := ⟨_, rfl⟩
        have O1 : ∀ χ, Off χ wr W1 := fun χ => by rw [← hW1]; exact ((Off.refl χ wr).alloc _).drew
        have z1 : W1.heap.size = wr.heap.size + 1 := by rw [← hW1]; simp
        have hb1 : W1.heap[wr.heap.size]? = some (.cells #[.bool false, .bool true] 44 (0, 0)) := by rw [← hW1]; exact World.alloc_heap_new wr _
        have t1 : W1.cell? ⟨wr.heap.size, 0, none⟩ = some (.bool false) := cell_of_block hb1
        have t2 : W1.cell? ⟨wr.heap.size, 1, none⟩ = some (.bool true) := cell_of_block hb1
        have d1 : Boxed W1 Ba 27 (.slice A 0 ca) := ((O1 (fun _ => False)).block _ b1.lt id).trans b1
        have d2 : Boxed W1 Bb 27 (.slice (some bd) (rb.length + 1) cb) := ((O1 (fun _ => False)).block _ b2.lt id).trans b2
        have k1 := d1.cell
        have k2 := d1.frozen
        have k3 := d2.cell
        have k4 := d2.frozen
        have k6 := ((O1 (fun _ => False)).cell (World.block_lt_of_cell? wr _ a1) id).trans a1
        rw [hW1]
        clear hW1 c1 c2
        gi_wp2
        rw [wpIn_wide]
        go_region
        obtain ⟨Bbd, hBbd⟩ : ∃ A_ : Option Addr, (if cb = 1 then some bd else some { block := bd.block, off := bd.off + 1 }) = A_ := ⟨_, rfl⟩
        rw [hBbd]
        have HBbd := Lib.hid hBbd
        clear hBbd
        obtain ⟨W3, hW3⟩ : ∃ W_, (W1.setCell ⟨Bb, 0, none⟩ (.slice Bbd rb.length (cb - 1))).drew = W_ := ⟨_, rfl⟩
        have d2' : Boxed W3 Bb 27 (.slice Bbd rb.length (cb - 1)) := by rw [← hW3]; exact Boxed.set _ d2
        have OW3 : Off (fun k => k = Bb) W1 W3 := by rw [← hW3]; exact ((Off.refl (fun k => k = Bb) W1).setCell (p := ⟨Bb, 0, none⟩) (fun _ => rfl) _).drew
        have zW3 : W3.heap.size = wr.heap.size + 1 := by rw [← hW3]; simpa [World.setCell] using z1
        have d1' : Boxed W3 Ba 27 (.slice A 0 ca) := (OW3.block _ (Boxed.lt d1) (fun h => hne h)).trans d1
        have hbW3 : W3.heap[wr.heap.size]? = some (.cells #[.bool false, .bool true] 44 (0, 0)) := (OW3.block _ (by omega) (fun h => by have := b1.lt; have := b2.lt; omega)).trans hb1
        rw [hW3]
        clear hW3 d1 d2 t1 t2 k1 k2 k3 k4
        clear k6
        have d1 := d1'
        have d2 := d2'
        clear d1' d2'
        have t1 : W3.cell? ⟨wr.heap.size, 0, none⟩ = some (.bool false) := cell_of_block hbW3
        have t2 : W3.cell? ⟨wr.heap.size, 1, none⟩ = some (.bool true) := cell_of_block hbW3
        have k1 := Boxed.cell d1
        have k2 := Boxed.frozen d1
        have k3 := Boxed.cell d2
        have k4 := Boxed.frozen d2
        have O3 : Off (fun k => k = Ba ∨ k = Bb) wr W3 := (O1 (fun k => k = Ba ∨ k = Bb)).then_ OW3 (fun _ _ h => .inr h)
        have hJ2 : J pre ψ W3 := hst _ _ _ _ hJ (O3.mono (fun k _ e h => by rcases e with rfl | rfl; exact v1 h; exact v2 h))
        obtain ⟨fn, tmps, assign, body, hy, hR⟩ := hround pre (y, false, true) ψ W3 hJ2 (by rw [hpre, bothOf]; simp)
        dsimp only at hy
        gi_wp2
        refine ⟨rfl, ?_⟩
        refine hR.mono ?_
        rintro e W4 ⟨rfl, ψ', hψ', hJ3, hO3⟩
        obtain ⟨f1, f2, f3⟩ := fin W3 W4 ψ' O3 hO3 hψ'
        have p1 : Boxed W4 Ba 27 (.slice A 0 ca) := (hO3.block _ (Boxed.lt d1) v1).trans d1
        have p2 : Boxed W4 Bb 27 (.slice Bbd rb.length (cb - 1)) := (hO3.block _ (Boxed.lt d2) v2).trans d2
        gi_wp2
        go_roundw
        case rel =>
          refine ⟨pre ++ [(y, false, true)], [], rb, ψ', by rw [hpre, bothOf]; simp, by first | omega | (simp; omega), by first | omega | (simp; omega), hJ3, f2, ?_, ?_, f3⟩
          · exact SideOf.keep ⟨_, _, b1, n1, r1, q1⟩ (p1.trans b1.symm) f1
          · exact SideOf.tail r2 n2 m2 (by rw [HBbd.out]; exact p2) f1
        case measure =>
          rw [p1.cell, p2.cell, b1.cell, b2.cell]
          simp only []
          omega
    | cons x ra =>
      cases rb with
      | nil =>
        obtain ⟨ad, rfl, hc1⟩ := r1.2.2 (by simp)
        have a0 := hc1 0 (by simp)
        simp [Addr.add] at a0
        have g1 : (((ra.length : Int) + 1) == 0) = false := by simp; omega
        clear hc1
        have m1 := q1 ad rfl (by simp)
        simp only [List.length_cons, List.length_nil] at hra hrb n1 n2 r1 r2 b1 b2 c1 c2
        gi_wp2
        rw [wpIn_wide]
        have HC : ∀ w', Below wr.heap.size wr w' → w'.cell? ⟨Ba, 0, none⟩ = some (.slice (some ad) (ra.length + 1) ca) ∧ w'.cell? ⟨Bb, 0, none⟩ = some (.slice B 0 cb) := fun w' h => ⟨pw_cell_below h c1, pw_cell_below h c2⟩
        refine wp_reg 35 (fun w' => Below wr.heap.size wr w') (by kernel_rfl) (by kernel_rfl) (by decide) (fun _ _ d _ _ h => by cases d <;> exact h) (Below.refl _ _).drew ?_
        simp only [List.take_succ_cons, List.take_zero, List.drop_succ_cons, List.drop_zero]
        repeat (first | (apply wpHeld_goK rfl; (focus (intro w' hw'; go_simp; try rfl)); intro K hK; go_simp; refine hK _ ?_; clear hK K) | (refine wpHeld_skipK rfl (fun K hK => ?_); go_simp; refine hK _ ?_; clear hK K))
        refine wpHeld_nil ?_
        refine wpTail_step (fun K hK => ?_)
        go_simp
        refine hK _ _ ?_ ?_
        · exact ((Below.refl _ _).alloc (Nat.le_refl _) _).drew
        clear hK K
        refine wpTail_step (fun K hK => ?_)
        go_simp
        refine hK _ _ ?_ ?_
        · exact ((Below.refl _ _).alloc (Nat.le_refl _) _).drew
        clear hK K
        refine wpTail_nil ?_
        clear HC
        obtain ⟨W1, hW1⟩ : ∃ W1, (wr.alloc (.cells #[.bool true, .bool false] 44)).drew = W1 := ⟨_, rfl⟩
        have O1 : ∀ χ, Off χ wr W1 := fun χ => by rw [← hW1]; exact ((Off.refl χ wr).alloc _).drew
        have z1 : W1.heap.size = wr.heap.size + 1 := by rw [← hW1]; simp
        have hb1 : W1.heap[wr.heap.size]? = some (.cells #[.bool true, .bool false] 44 (0, 0)) := by rw [← hW1]; exact World.alloc_heap_new wr _
        have t1 : W1.cell? ⟨wr.heap.size, 0, none⟩ = some (.bool true) := cell_of_block hb1
        have t2 : W1.cell? ⟨wr.heap.size, 1, none⟩ = some (.bool false) := cell_of_block hb1
        have d1 : Boxed W1 Ba 27 (.slice (some ad) (ra.length + 1) ca) := ((O1 (fun _ => False)).block _ b1.lt id).trans b1
        have d2 : Boxed W1 Bb 27 (.slice B 0 cb) := ((O1 (fun _ => False)).block _ b2.lt id).trans b2
        have k1 := d1.cell
        have k2 := d1.frozen
        have k3 := d2.cell
        have k4 := d2.frozen
        have k5 := ((O1 (fun _ => False)).cell (World.block_lt_of_cell? wr _ a0) id).trans a0
        rw [hW1]
        clear hW1 c1 c2
        gi_wp2
        rw [wpIn_wide]
        go_region
        obtain ⟨Aa, hAa⟩ : ∃ A_ : Option Addr, (if ca = 1 then some ad else some { block := ad.block, off := ad.off + 1 }) = A_ := ⟨_, rfl⟩
        rw [hAa]
        have HAa := Lib.hid hAa
        clear hAa
        obtain ⟨W2, hW2⟩ : ∃ W_, (W1.setCell ⟨Ba, 0, none⟩ (.slice Aa ra.length (ca - 1))).drew = W_ := ⟨_, rfl⟩
        have d1' : Boxed W2 Ba 27 (.slice Aa ra.length (ca - 1)) := by rw [← hW2]; exact Boxed.set _ d1
        have OW2 : Off (fun k => k = Ba) W1 W2 := by rw [← hW2]; exact ((Off.refl (fun k => k = Ba) W1).setCell (p := ⟨Ba, 0, none⟩) (fun _ => rfl) _).drew
        have zW2 : W2.heap.size = wr.heap.size + 1 := by rw [← hW2]; simpa [World.setCell] using z1
        have d2' : Boxed W2 Bb 27 (.slice B 0 cb) := (OW2.block _ (Boxed.lt d2) (fun h => hne h.symm)).trans d2
        have hbW2 : W2.heap[wr.heap.size]? = some (.cells #[.bool true, .bool false] 44 (0, 0)) := (OW2.block _ (by omega) (fun h => by have := b1.lt; have := b2.lt; omega)).trans hb1
        rw [hW2]
        clear hW2 d1 d2 t1 t2 k1 k2 k3 k4
        clear k5
        have d1 := d1'
        have d2 := d2'
        clear d1' d2'
        have t1 : W2.cell? ⟨wr.heap.size, 0, none⟩ = some (.bool true) := cell_of_block hbW2
        have t2 : W2.cell? ⟨wr.heap.size, 1, none⟩ = some (.bool false) := cell_of_block hbW2
        have k1 := Boxed.cell d1
        have k2 := Boxed.frozen d1
        have k3 := Boxed.cell d2
        have k4 := Boxed.frozen d2
        have O3 : Off (fun k => k = Ba ∨ k = Bb) wr W2 := (O1 (fun k => k = Ba ∨ k = Bb)).then_ OW2 (fun _ _ h => .inl h)
        have hJ2 : J pre ψ W2 := hst _ _ _ _ hJ (O3.mono (fun k _ e h => by rcases e with rfl | rfl; exact v1 h; exact v2 h))
        obtain ⟨fn, tmps, assign, body, hy, hR⟩ := hround pre (x, true, false) ψ W2 hJ2 (by rw [hpre, bothOf]; simp)
        dsimp only at hy
        gi_wp2
        refine ⟨rfl, ?_⟩
        refine hR.mono ?_
        rintro e W4 ⟨rfl, ψ', hψ', hJ3, hO3⟩
        obtain ⟨f1, f2, f3⟩ := fin W2 W4 ψ' O3 hO3 hψ'
        have p1 : Boxed W4 Ba 27 (.slice Aa ra.length (ca - 1)) := (hO3.block _ (Boxed.lt d1) v1).trans d1
        have p2 : Boxed W4 Bb 27 (.slice B 0 cb) := (hO3.block _ (Boxed.lt d2) v2).trans d2
        gi_wp2
        go_roundw
        case rel =>
          refine ⟨pre ++ [(x, true, false)], ra, [], ψ', by rw [hpre, bothOf]; simp, by first | omega | (simp; omega), by first | omega | (simp; omega), hJ3, f2, ?_, ?_, f3⟩
          · exact SideOf.tail r1 n1 m1 (by rw [HAa.out]; exact p1) f1
          · exact SideOf.keep ⟨_, _, b2, n2, r2, q2⟩ (p2.trans b2.symm) f1
        case measure =>
          rw [p1.cell, p2.cell, b1.cell, b2.cell]
          simp only []
          omega
      | cons y rb =>
        by_cases hxy : x < y
        · have e1 : decide (x ≤ y) = true := by simp; omega
          have e2 : decide (y ≤ x) = false := by simp; omega
          obtain ⟨ad, rfl, hc1⟩ := r1.2.2 (by simp)
          have a0 := hc1 0 (by simp)
          simp [Addr.add] at a0
          have g1 : (((ra.length : Int) + 1) == 0) = false := by simp; omega
          clear hc1
          have m1 := q1 ad rfl (by simp)
          obtain ⟨bd, rfl, hc2⟩ := r2.2.2 (by simp)
          have a1 := hc2 0 (by simp)
          simp [Addr.add] at a1
          have g2 : (((rb.length : Int) + 1) == 0) = false := by simp; omega
          clear hc2
          have m2 := q2 bd rfl (by simp)
          simp only [List.length_cons] at hra hrb n1 n2 r1 r2 b1 b2 c1 c2
          gi_wp2
          rw [wpIn_wide]
          have HC : ∀ w', Below wr.heap.size wr w' → w'.cell? ⟨Ba, 0, none⟩ = some (.slice (some ad) (ra.length + 1) ca) ∧ w'.cell? ⟨Bb, 0, none⟩ = some (.slice (some bd) (rb.length + 1) cb) ∧ w'.cell? ad = some (.int .u32 x) ∧ w'.cell? bd = some (.int .u32 y) := fun w' h => ⟨pw_cell_below h c1, pw_cell_below h c2, pw_cell_below h a0, pw_cell_below h a1⟩
          refine wp_reg 35 (fun w' => Below wr.heap.size wr w') (by kernel_rfl) (by kernel_rfl) (by decide) (fun _ _ d _ _ h => by cases d <;> exact h) (Below.refl _ _).drew ?_
          simp only [List.take_succ_cons, List.take_zero, List.drop_succ_cons, List.drop_zero]
          repeat (first | (apply wpHeld_goK rfl; (focus (intro w' hw'; go_simp; try rfl)); intro K hK; go_simp; refine hK _ ?_; clear hK K) | (refine wpHeld_skipK rfl (fun K hK => ?_); go_simp; refine hK _ ?_; clear hK K))
          refine wpHeld_nil ?_
          refine wpTail_step (fun K hK => ?_)
          go_simp
          refine hK _ _ ?_ ?_
          · exact ((Below.refl _ _).alloc (Nat.le_refl _) _).drew
          clear hK K
          refine wpTail_step (fun K hK => ?_)
          go_simp
          refine hK _ _ ?_ ?_
          · exact ((Below.refl _ _).alloc (Nat.le_refl _) _).drew
          clear hK K
          refine wpTail_nil ?_
          clear HC
          obtain ⟨W1, hW1⟩ : ∃ W1, (wr.alloc (.cells #[.bool true, .bool false] 44)).drew = W1 := ⟨_, rfl⟩
          have O1 : ∀ χ, Off χ wr W1 := fun χ => by rw [← hW1]; exact ((Off.refl χ wr).alloc _).drew
          have z1 : W1.heap.size = wr.heap.size + 1 := by rw [← hW1]; simp
          have hb1 : W1.heap[wr.heap.size]? = some (.cells #[.bool true, .bool false] 44 (0, 0)) := by rw [← hW1]; exact World.alloc_heap_new wr _
          have t1 : W1.cell? ⟨wr.heap.size, 0, none⟩ = some (.bool true) := cell_of_block hb1
          have t2 : W1.cell? ⟨wr.heap.size, 1, none⟩ = some (.bool false) := cell_of_block hb1
          have d1 : Boxed W1 Ba 27 (.slice (some ad) (ra.length + 1) ca) := ((O1 (fun _ => False)).block _ b1.lt id).trans b1
          have d2 : Boxed W1 Bb 27 (.slice (some bd) (rb.length + 1) cb) := ((O1 (fun _ => False)).block _ b2.lt id).trans b2
          have k1 := d1.cell
          have k2 := d1.frozen
          have k3 := d2.cell
          have k4 := d2.frozen
          have k5 := ((O1 (fun _ => False)).cell (World.block_lt_of_cell? wr _ a0) id).trans a0
          have k6 := ((O1 (fun _ => False)).cell (World.block_lt_of_cell? wr _ a1) id).trans a1
          rw [hW1]
          clear hW1 c1 c2
          gi_wp2
          rw [wpIn_wide]
          go_region
          obtain ⟨Aa, hAa⟩ : ∃ A_ : Option Addr, (if ca = 1 then some ad else some { block := ad.block, off := ad.off + 1 }) = A_ := ⟨_, rfl⟩
          rw [hAa]
          have HAa := Lib.hid hAa
          clear hAa
          obtain ⟨W2, hW2⟩ : ∃ W_, (W1.setCell ⟨Ba, 0, none⟩ (.slice Aa ra.length (ca - 1))).drew = W_ := ⟨_, rfl⟩
          have d1' : Boxed W2 Ba 27 (.slice Aa ra.length (ca - 1)) := by rw [← hW2]; exact Boxed.set _ d1
          have OW2 : Off (fun k => k = Ba) W1 W2 := by rw [← hW2]; exact ((Off.refl (fun k => k = Ba) W1).setCell (p := ⟨Ba, 0, none⟩) (fun _ => rfl) _).drew
          have zW2 : W2.heap.size = wr.heap.size + 1 := by rw [← hW2]; simpa [World.setCell] using z1
          have d2' : Boxed W2 Bb 27 (.slice (some bd) (rb.length + 1) cb) := (OW2.block _ (Boxed.lt d2) (fun h => hne h.symm)).trans d2
          have hbW2 : W2.heap[wr.heap.size]? = some (.cells #[.bool true, .bool false] 44 (0, 0)) := (OW2.block _ (by omega) (fun h => by have := b1.lt; have := b2.lt; omega)).trans hb1
          rw [hW2]
          clear hW2 d1 d2 t1 t2 k1 k2 k3 k4
          clear k5
          have d1 := d1'
          have d2 := d2'
          clear d1' d2'
          have t1 : W2.cell? ⟨wr.heap.size, 0, none⟩ = some (.bool true) := cell_of_block hbW2
          have t2 : W2.cell? ⟨wr.heap.size, 1, none⟩ = some (.bool false) := cell_of_block hbW2
          have k1 := Boxed.cell d1
          have k2 := Boxed.frozen d1
          have k3 := Boxed.cell d2
          have k4 := Boxed.frozen d2
          clear k6
          have O3 : Off (fun k => k = Ba ∨ k = Bb) wr W2 := (O1 (fun k => k = Ba ∨ k = Bb)).then_ OW2 (fun _ _ h => .inl h)
          have hJ2 : J pre ψ W2 := hst _ _ _ _ hJ (O3.mono (fun k _ e h => by rcases e with rfl | rfl; exact v1 h; exact v2 h))
          obtain ⟨fn, tmps, assign, body, hy, hR⟩ := hround pre (x, true, false) ψ W2 hJ2 (by rw [hpre, bothOf, if_pos (by omega)]; simp)
          dsimp only at hy
          gi_wp2
          refine ⟨rfl, ?_⟩
          refine hR.mono ?_
          rintro e W4 ⟨rfl, ψ', hψ', hJ3, hO3⟩
          obtain ⟨f1, f2, f3⟩ := fin W2 W4 ψ' O3 hO3 hψ'
          have p1 : Boxed W4 Ba 27 (.slice Aa ra.length (ca - 1)) := (hO3.block _ (Boxed.lt d1) v1).trans d1
          have p2 : Boxed W4 Bb 27 (.slice (some bd) (rb.length + 1) cb) := (hO3.block _ (Boxed.lt d2) v2).trans d2
          gi_wp2
          go_roundw
          case rel =>
            refine ⟨pre ++ [(x, true, false)], ra, (y :: rb), ψ', by rw [hpre, bothOf, if_pos (by omega)]; simp, by first | omega | (simp; omega), by first | omega | (simp; omega), hJ3, f2, ?_, ?_, f3⟩
            · exact SideOf.tail r1 n1 m1 (by rw [HAa.out]; exact p1) f1
            · exact SideOf.keep ⟨_, _, b2, n2, r2, q2⟩ (p2.trans b2.symm) f1
          case measure =>
            rw [p1.cell, p2.cell, b1.cell, b2.cell]
            simp only []
            omega
        · by_cases hyx : y < x
          · have e1 : decide (x ≤ y) = false := by simp; omega
            have e2 : decide (y ≤ x) = true := by simp; omega
            obtain ⟨ad, rfl, hc1⟩ := r1.2.2 (by simp)
            have a0 := hc1 0 (by simp)
            simp [Addr.add] at a0
            have g1 : (((ra.length : Int) + 1) == 0) = false := by simp; omega
            clear hc1
            have m1 := q1 ad rfl (by simp)
            obtain ⟨bd, rfl, hc2⟩ := r2.2.2 (by simp)
            have a1 := hc2 0 (by simp)
            simp [Addr.add] at a1
            have g2 : (((rb.length : Int) + 1) == 0) = false := by simp; omega
            clear hc2
            have m2 := q2 bd rfl (by simp)
            simp only [List.length_cons] at hra hrb n1 n2 r1 r2 b1 b2 c1 c2
            gi_wp2
            rw [wpIn_wide]
            have HC : ∀ w', Below wr.heap.size wr w' → w'.cell? ⟨Ba, 0, none⟩ = some (.slice (some ad) (ra.length + 1) ca) ∧ w'.cell? ⟨Bb, 0, none⟩ = some (.slice (some bd) (rb.length + 1) cb) ∧ w'.cell? ad = some (.int .u32 x) ∧ w'.cell? bd = some (.int .u32 y) := fun w' h => ⟨pw_cell_below h c1, pw_cell_below h c2, pw_cell_below h a0, pw_cell_below h a1⟩
            refine wp_reg 35 (fun w' => Below wr.heap.size wr w') (by kernel_rfl) (by kernel_rfl) (by decide) (fun _ _ d _ _ h => by cases d <;> exact h) (Below.refl _ _).drew ?_
            simp only [List.take_succ_cons, List.take_zero, List.drop_succ_cons, List.drop_zero]
            repeat (first | (apply wpHeld_goK rfl; (focus (intro w' hw'; go_simp; try rfl)); intro K hK; go_simp; refine hK _ ?_; clear hK K) | (refine wpHeld_skipK rfl (fun K hK => ?_); go_simp; refine hK _ ?_; clear hK K))
            refine wpHeld_nil ?_
            refine wpTail_step (fun K hK => ?_)
            go_simp
            refine hK _ _ ?_ ?_
            · exact ((Below.refl _ _).alloc (Nat.le_refl _) _).drew
            clear hK K
            refine wpTail_step (fun K hK => ?_)
            go_simp
            refine hK _ _ ?_ ?_
            · exact ((Below.refl _ _).alloc (Nat.le_refl _) _).drew
            clear hK K
            refine wpTail_nil ?_
            clear HC
            obtain ⟨W1, hW1⟩ : ∃ W1, (wr.alloc (.cells #[.bool false, .bool true] 44)).drew = W1 := ⟨_, rfl⟩
            have O1 : ∀ χ, Off χ wr W1 := fun χ => by rw [← hW1]; exact ((Off.refl χ wr).alloc _).drew
            have z1 : W1.heap.size = wr.heap.size + 1 := by rw [← hW1]; simp
            have hb1 : W1.heap[wr.heap.size]? = some (.cells #[.bool false, .bool true] 44 (0, 0)) := by rw [← hW1]; exact World.alloc_heap_new wr _
            have t1 : W1.cell? ⟨wr.heap.size, 0, none⟩ = some (.bool false) := cell_of_block hb1
            have t2 : W1.cell? ⟨wr.heap.size, 1, none⟩ = some (.bool true) := cell_of_block hb1
            have d1 : Boxed W1 Ba 27 (.slice (some ad) (ra.length + 1) ca) := ((O1 (fun _ => False)).block _ b1.lt id).trans b1
            have d2 : Boxed W1 Bb 27 (.slice (some bd) (rb.length + 1) cb) := ((O1 (fun _ => False)).block _ b2.lt id).trans b2
            have k1 := d1.cell
            have k2 := d1.frozen
            have k3 := d2.cell
            have k4 := d2.frozen
            have k5 := ((O1 (fun _ => False)).cell (World.block_lt_of_cell? wr _ a0) id).trans a0
            have k6 := ((O1 (fun _ => False)).cell (World.block_lt_of_cell? wr _ a1) id).trans a1
            rw [hW1]
            clear hW1 c1 c2
            gi_wp2
            rw [wpIn_wide]
            go_region
            obtain ⟨Bbd, hBbd⟩ : ∃ A_ : Option Addr, (if cb = 1 then some bd else some { block := bd.block, off := bd.off + 1 }) = A_ := ⟨_, rfl⟩
            rw [hBbd]
            have HBbd := Lib.hid hBbd
            clear hBbd
            obtain ⟨W3, hW3⟩ : ∃ W_, (W1.setCell ⟨Bb, 0, none⟩ (.slice Bbd rb.length (cb - 1))).drew = W_ := ⟨_, rfl⟩
            have d2' : Boxed W3 Bb 27 (.slice Bbd rb.length (cb - 1)) := by rw [← hW3]; exact Boxed.set _ d2
            have OW3 : Off (fun k => k = Bb) W1 W3 := by rw [← hW3]; exact ((Off.refl (fun k => k = Bb) W1).setCell (p := ⟨Bb, 0, none⟩) (fun _ => rfl) _).drew
            have zW3 : W3.heap.size = wr.heap.size + 1 := by rw [← hW3]; simpa [World.setCell] using z1
            have d1' : Boxed W3 Ba 27 (.slice (some ad) (ra.length + 1) ca) := (OW3.block _ (Boxed.lt d1) (fun h => hne h)).trans d1
            have hbW3 : W3.heap[wr.heap.size]? = some (.cells #[.bool false, .bool true] 44 (0, 0)) := (OW3.block _ (by omega) (fun h => by have := b1.lt; have := b2.lt; omega)).trans hb1
            rw [hW3]
            clear hW3 d1 d2 t1 t2 k1 k2 k3 k4
            clear k5
            clear k6
            have d1 := d1'
            have d2 := d2'
            clear d1' d2'
            have t1 : W3.cell? ⟨wr.heap.size, 0, none⟩ = some (.bool false) := cell_of_block hbW3
            have t2 : W3.cell? ⟨wr.heap.size, 1, none⟩ = some (.bool true) := cell_of_block hbW3
            have k1 := Boxed.cell d1
            have k2 := Boxed.frozen d1
            have k3 := Boxed.cell d2
            have k4 := Boxed.frozen d2
            have O3 : Off (fun k => k = Ba ∨ k = Bb) wr W3 := (O1 (fun k => k = Ba ∨ k = Bb)).then_ OW3 (fun _ _ h => .inr h)
            have hJ2 : J pre ψ W3 := hst _ _ _ _ hJ (O3.mono (fun k _ e h => by rcases e with rfl | rfl; exact v1 h; exact v2 h))
            obtain ⟨fn, tmps, assign, body, hy, hR⟩ := hround pre (y, false, true) ψ W3 hJ2 (by rw [hpre, bothOf, if_neg (by omega), if_pos (by omega)]; simp)
            dsimp only at hy
            gi_wp2
            refine ⟨rfl, ?_⟩
            refine hR.mono ?_
            rintro e W4 ⟨rfl, ψ', hψ', hJ3, hO3⟩
            obtain ⟨f1, f2, f3⟩ := fin W3 W4 ψ' O3 hO3 hψ'
            have p1 : Boxed W4 Ba 27 (.slice (some ad) (ra.length + 1) ca) := (hO3.block _ (Boxed.lt d1) v1).trans d1
            have p2 : Boxed W4 Bb 27 (.slice Bbd rb.length (cb - 1)) := (hO3.block _ (Boxed.lt d2) v2).trans d2
            gi_wp2
            go_roundw
            case rel =>
              refine ⟨pre ++ [(y, false, true)], (x :: ra), rb, ψ', by rw [hpre, bothOf, if_neg (by omega), if_pos (by omega)]; simp, by first | omega | (simp; omega), by first | omega | (simp; omega), hJ3, f2, ?_, ?_, f3⟩
              · exact SideOf.keep ⟨_, _, b1, n1, r1, q1⟩ (p1.trans b1.symm) f1
              · exact SideOf.tail r2 n2 m2 (by rw [HBbd.out]; exact p2) f1
            case measure =>
              rw [p1.cell, p2.cell, b1.cell, b2.cell]
              simp only []
              omega
          · obtain rfl : x = y := by omega
            have e1 : decide (x ≤ x) = true := by simp
            obtain ⟨ad, rfl, hc1⟩ := r1.2.2 (by simp)
            have a0 := hc1 0 (by simp)
            simp [Addr.add] at a0
            have g1 : (((ra.length : Int) + 1) == 0) = false := by simp; omega
            clear hc1
            have m1 := q1 ad rfl (by simp)
            obtain ⟨bd, rfl, hc2⟩ := r2.2.2 (by simp)
            have a1 := hc2 0 (by simp)
            simp [Addr.add] at a1
            have g2 : (((rb.length : Int) + 1) == 0) = false := by simp; omega
            clear hc2
            have m2 := q2 bd rfl (by simp)
            simp only [List.length_cons] at hra hrb n1 n2 r1 r2 b1 b2 c1 c2
            gi_wp2
            rw [wpIn_wide]
            have HC : ∀ w', Below wr.heap.size wr w' → w'.cell? ⟨Ba, 0, none⟩ = some (.slice (some ad) (ra.length + 1) ca) ∧ w'.cell? ⟨Bb, 0, none⟩ = some (.slice (some bd) (rb.length + 1) cb) ∧ w'.cell? ad = some (.int .u32 x) ∧ w'.cell? bd = some (.int .u32 x) := fun w' h => ⟨pw_cell_below h c1, pw_cell_below h c2, pw_cell_below h a0, pw_cell_below h a1⟩
            refine wp_reg 35 (fun w' => Below wr.heap.size wr w') (by kernel_rfl) (by kernel_rfl) (by decide) (fun _ _ d _ _ h => by cases d <;> exact h) (Below.refl _ _).drew ?_
            simp only [List.take_succ_cons, List.take_zero, List.drop_succ_cons, List.drop_zero]
            repeat (first | (apply wpHeld_goK rfl; (focus (intro w' hw'; go_simp; try rfl)); intro K hK; go_simp; refine hK _ ?_; clear hK K) | (refine wpHeld_skipK rfl (fun K hK => ?_); go_simp; refine hK _ ?_; clear hK K))
            refine wpHeld_nil ?_
            refine wpTail_step (fun K hK => ?_)
            go_simp
            refine hK _ _ ?_ ?_
            · exact ((Below.refl _ _).alloc (Nat.le_refl _) _).drew
            clear hK K
            refine wpTail_step (fun K hK => ?_)
            go_simp
            refine hK _ _ ?_ ?_
            · exact ((Below.refl _ _).alloc (Nat.le_refl _) _).drew
            clear hK K
            refine wpTail_nil ?_
            clear HC
            obtain ⟨W1, hW1⟩ : ∃ W1, (wr.alloc (.cells #[.bool true, .bool true] 44)).drew = W1 := ⟨_, rfl⟩
            have O1 : ∀ χ, Off χ wr W1 := fun χ => by rw [← hW1]; exact ((Off.refl χ wr).alloc _).drew
            have z1 : W1.heap.size = wr.heap.size + 1 := by rw [← hW1]; simp
            have hb1 : W1.heap[wr.heap.size]? = some (.cells #[.bool true, .bool true] 44 (0, 0)) := by rw [← hW1]; exact World.alloc_heap_new wr _
            have t1 : W1.cell? ⟨wr.heap.size, 0, none⟩ = some (.bool true) := cell_of_block hb1
            have t2 : W1.cell? ⟨wr.heap.size, 1, none⟩ = some (.bool true) := cell_of_block hb1
            have d1 : Boxed W1 Ba 27 (.slice (some ad) (ra.length + 1) ca) := ((O1 (fun _ => False)).block _ b1.lt id).trans b1
            have d2 : Boxed W1 Bb 27 (.slice (some bd) (rb.length + 1) cb) := ((O1 (fun _ => False)).block _ b2.lt id).trans b2
            have k1 := d1.cell
            have k2 := d1.frozen
            have k3 := d2.cell
            have k4 := d2.frozen
            have k5 := ((O1 (fun _ => False)).cell (World.block_lt_of_cell? wr _ a0) id).trans a0
            have k6 := ((O1 (fun _ => False)).cell (World.block_lt_of_cell? wr _ a1) id).trans a1
            rw [hW1]
            clear hW1 c1 c2
            gi_wp2
            rw [wpIn_wide]
            go_region
            obtain ⟨Aa, hAa⟩ : ∃ A_ : Option Addr, (if ca = 1 then some ad else some { block := ad.block, off := ad.off + 1 }) = A_ := ⟨_, rfl⟩
            rw [hAa]
            have HAa := Lib.hid hAa
            clear hAa
            obtain ⟨W2, hW2⟩ : ∃ W_, (W1.setCell ⟨Ba, 0, none⟩ (.slice Aa ra.length (ca - 1))).drew = W_ := ⟨_, rfl⟩
            have d1' : Boxed W2 Ba 27 (.slice Aa ra.length (ca - 1)) := by rw [← hW2]; exact Boxed.set _ d1
            have OW2 : Off (fun k => k = Ba) W1 W2 := by rw [← hW2]; exact ((Off.refl (fun k => k = Ba) W1).setCell (p := ⟨Ba, 0, none⟩) (fun _ => rfl) _).drew
            have zW2 : W2.heap.size = wr.heap.size + 1 := by rw [← hW2]; simpa [World.setCell] using z1
            have d2' : Boxed W2 Bb 27 (.slice (some bd) (rb.length + 1) cb) := (OW2.block _ (Boxed.lt d2) (fun h => hne h.symm)).trans d2
            have hbW2 : W2.heap[wr.heap.size]? = some (.cells #[.bool true, .bool true] 44 (0, 0)) := (OW2.block _ (by omega) (fun h => by have := b1.lt; have := b2.lt; omega)).trans hb1
            rw [hW2]
            clear hW2 d1 d2 t1 t2 k1 k2 k3 k4
            have d1 := d1'
            have d2 := d2'
            clear d1' d2'
            have t1 : W2.cell? ⟨wr.heap.size, 0, none⟩ = some (.bool true) := cell_of_block hbW2
            have t2 : W2.cell? ⟨wr.heap.size, 1, none⟩ = some (.bool true) := cell_of_block hbW2
            have k1 := Boxed.cell d1
            have k2 := Boxed.frozen d1
            have k3 := Boxed.cell d2
            have k4 := Boxed.frozen d2
            have k6' := (OW2.cell (World.block_lt_of_cell? W1 _ k6) (fun h => by change bd.block = Ba at h; rw [h] at m2; exact hd1 m2)).trans k6
            clear k6
            have k6 := k6'
            clear k6'
            gi_wp2
            rw [wpIn_wide]
            go_region
            obtain ⟨Bbd, hBbd⟩ : ∃ A_ : Option Addr, (if cb = 1 then some bd else some { block := bd.block, off := bd.off + 1 }) = A_ := ⟨_, rfl⟩
            rw [hBbd]
            have HBbd := Lib.hid hBbd
            clear hBbd
            obtain ⟨W3, hW3⟩ : ∃ W_, (W2.setCell ⟨Bb, 0, none⟩ (.slice Bbd rb.length (cb - 1))).drew = W_ := ⟨_, rfl⟩
            have d2' : Boxed W3 Bb 27 (.slice Bbd rb.length (cb - 1)) := by rw [← hW3]; exact Boxed.set _ d2
            have OW3 : Off (fun k => k = Bb) W2 W3 := by rw [← hW3]; exact ((Off.refl (fun k => k = Bb) W2).setCell (p := ⟨Bb, 0, none⟩) (fun _ => rfl) _).drew
            have zW3 : W3.heap.size = wr.heap.size + 1 := by rw [← hW3]; simpa [World.setCell] using zW2
            have d1' : Boxed W3 Ba 27 (.slice Aa ra.length (ca - 1)) := (OW3.block _ (Boxed.lt d1) (fun h => hne h)).trans d1
            have hbW3 : W3.heap[wr.heap.size]? = some (.cells #[.bool true, .bool true] 44 (0, 0)) := (OW3.block _ (by omega) (fun h => by have := b1.lt; have := b2.lt; omega)).trans hbW2
            rw [hW3]
            clear hW3 d1 d2 t1 t2 k1 k2 k3 k4
            clear k5
            clear k6
            have d1 := d1'
            have d2 := d2'
            clear d1' d2'
            have t1 : W3.cell? ⟨wr.heap.size, 0, none⟩ = some (.bool true) := cell_of_block hbW3
            have t2 : W3.cell? ⟨wr.heap.size, 1, none⟩ = some (.bool true) := cell_of_block hbW3
            have k1 := Boxed.cell d1
            have k2 := Boxed.frozen d1
            have k3 := Boxed.cell d2
            have k4 := Boxed.frozen d2
            have O3 : Off (fun k => k = Ba ∨ k = Bb) wr W3 := ((O1 (fun k => k = Ba ∨ k = Bb)).then_ OW2 (fun _ _ h => .inl h)).then_ OW3 (fun _ _ h => .inr h)
            have hJ2 : J pre ψ W3 := hst _ _ _ _ hJ (O3.mono (fun k _ e h => by rcases e with rfl | rfl; exact v1 h; exact v2 h))
            obtain ⟨fn, tmps, assign, body, hy, hR⟩ := hround pre (x, true, true) ψ W3 hJ2 (by rw [hpre, bothOf, if_neg (by omega), if_neg (by omega)]; simp)
            dsimp only at hy
            gi_wp2
            refine ⟨rfl, ?_⟩
            refine hR.mono ?_
            rintro e W4 ⟨rfl, ψ', hψ', hJ3, hO3⟩
            obtain ⟨f1, f2, f3⟩ := fin W3 W4 ψ' O3 hO3 hψ'
            have p1 : Boxed W4 Ba 27 (.slice Aa ra.length (ca - 1)) := (hO3.block _ (Boxed.lt d1) v1).trans d1
            have p2 : Boxed W4 Bb 27 (.slice Bbd rb.length (cb - 1)) := (hO3.block _ (Boxed.lt d2) v2).trans d2
            gi_wp2
            go_roundw
            case rel =>
              refine ⟨pre ++ [(x, true, true)], ra, rb, ψ', by rw [hpre, bothOf, if_neg (by omega), if_neg (by omega)]; simp, by first | omega | (simp; omega), by first | omega | (simp; omega), hJ3, f2, ?_, ?_, f3⟩
              · exact SideOf.tail r1 n1 m1 (by rw [HAa.out]; exact p1) f1
              · exact SideOf.tail r2 n2 m2 (by rw [HBbd.out]; exact p2) f1
            case measure =>
              rw [p1.cell, p2.cell, b1.cell, b2.cell]
              simp only []
              omega
end Go.Proofs.Ytkhljamellgcfaa
/-
  Package set: those of two sets that stay: Union, Inter, Minus.
-/
namespace Go.Proofs.Ytkhljamellgcfaa
open Go.RowKit Go.Shelf Go.Proofs.YtkhljamellgcfaaW.PrintWords
attribute [local go_sem] Oper.semAt_some

theorem both_calls (A B : Option Addr) (m n c d : Nat) (w : World) :
    Calls Try.prog 41 #[.slice A m c, .slice B n d] w fun e w' => e = .returned (.func (.func 47) #[] #[.pointer (some ⟨w.heap.size, 0, none⟩), .pointer (some ⟨w.heap.size + 1, 0, none⟩)]) ∧
      w' = (w.alloc (.cells #[.slice A m c] 27)).alloc (.cells #[.slice B n d] 27) := by
  go_enter Try.func41, Try.ntmps41
  go_wp2
  go_ret
  exact ⟨rfl, rfl⟩

theorem stays33 (x y : Bool) (w : World) : Calls Try.prog 33 #[.agg #[.bool x, .bool y]] w fun e w' => e = .returned (.bool (x || y)) ∧ Below w.heap.size w w' := by
  go_enter Try.func33, Try.ntmps33
  cases x <;> cases y <;> go_wp2 <;> (try go_region) <;> (try go_wp2) <;> go_ret <;> exact ⟨rfl, by repeat (first | exact Below.refl _ _ | exact ((Below.refl _ _).alloc (Nat.le_refl _) _) | apply Below.drew)⟩
theorem stays34 (x y : Bool) (w : World) : Calls Try.prog 34 #[.agg #[.bool x, .bool y]] w fun e w' => e = .returned (.bool (x && y)) ∧ Below w.heap.size w w' := by
  go_enter Try.func34, Try.ntmps34
  cases x <;> cases y <;> go_wp2 <;> (try go_region) <;> (try go_wp2) <;> go_ret <;> exact ⟨rfl, by repeat (first | exact Below.refl _ _ | exact ((Below.refl _ _).alloc (Nat.le_refl _) _) | apply Below.drew)⟩
theorem stays35 (x y : Bool) (w : World) : Calls Try.prog 35 #[.agg #[.bool x, .bool y]] w fun e w' => e = .returned (.bool (x && !y)) ∧ Below w.heap.size w w' := by
  go_enter Try.func35, Try.ntmps35
  cases x <;> cases y <;> go_wp2 <;> (try go_region) <;> (try go_wp2) <;> go_ret <;> exact ⟨rfl, by repeat (first | exact Below.refl _ _ | exact ((Below.refl _ _).alloc (Nat.le_refl _) _) | apply Below.drew)⟩

/-- Those that stay. -/
def selOf (p : Bool → Bool → Bool) (l : List (Int × Bool × Bool)) : List Int := (l.filter fun x => p x.2.1 x.2.2).map (·.1)
theorem selOf_hit {p : Bool → Bool → Bool} (pre : List (Int × Bool × Bool)) {x : Int × Bool × Bool} (h : p x.2.1 x.2.2 = true) : selOf p (pre ++ [x]) = selOf p pre ++ [x.1] := by simp [selOf, h]
theorem selOf_miss {p : Bool → Bool → Bool} (pre : List (Int × Bool × Bool)) {x : Int × Bool × Bool} (h : p x.2.1 x.2.2 = false) : selOf p (pre ++ [x]) = selOf p pre := by simp [selOf, h]
theorem selOf_len (p : Bool → Bool → Bool) (l : List (Int × Bool × Bool)) : (selOf p l).length ≤ l.length := by
  unfold selOf; rw [List.length_map]; exact List.length_filter_le _ _
theorem bothOf_len (a b : List Int) : (bothOf a b).length ≤ a.length + b.length := by
  induction a, b using bothOf.induct with
  | case1 => simp [bothOf]
  | case2 x a ih => rw [bothOf]; simp only [List.length_cons, List.length_nil] at *; omega
  | case3 y b ih => rw [bothOf]; simp only [List.length_cons, List.length_nil] at *; omega
  | case4 x a y b h ih => rw [bothOf, if_pos h]; simp only [List.length_cons] at *; omega
  | case5 x a y b h h' ih => rw [bothOf, if_neg h, if_pos h']; simp only [List.length_cons] at *; omega
  | case6 x a y b h h' ih => rw [bothOf, if_neg h, if_neg h']; simp only [List.length_cons] at *; omega

theorem info24 : (Try.prog.info? 24).map (fun i => (i.zero, i.size, i.bytes)) = some (some (.int .u32 0), 1, 4) := by kernel_rfl

end Go.Proofs.Ytkhljamellgcfaa
