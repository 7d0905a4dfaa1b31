/-
  Laws for a range over a function whose body may write memory: a footprint is carried along. By a session.
-/
import Derived.RangeFuncNested
import Derived.Shelf.Abstract
import Derived.RangeFuncBound
import Derived.RangeFuncCalls
import Derived.RangeFuncLeaves
import Derived.WalkKit
import Derived.OwnWalkIn
import Derived.TacticsInMore
import Derived.LoopNIn
import Derived.LoopIn
namespace Go.Proofs.Ytmmjmncchckbbaa
open Go.RowKit

/-- Off φ: the blocks of φ may have turned, and new ones may be there; all else is as it was. -/
structure Off (φ : Nat → Prop) (w w' : World) : Prop where
  os : w'.os = w.os
  tape : w'.tape = w.tape
  output : w'.output = w.output
  size : w.heap.size ≤ w'.heap.size
  block : ∀ k, k < w.heap.size → ¬ φ k → w'.heap[k]? = w.heap[k]?

namespace Off
variable {φ ψ : Nat → Prop} {a b c w w' : World}
theorem refl (φ : Nat → Prop) (w : World) : Off φ w w := ⟨rfl, rfl, rfl, Nat.le_refl _, fun _ _ _ => rfl⟩
theorem trans (h : Off φ a b) (k : Off φ b c) : Off φ a c :=
  ⟨k.os.trans h.os, k.tape.trans h.tape, k.output.trans h.output, Nat.le_trans h.size k.size,
    fun i hi hn => (k.block i (Nat.lt_of_lt_of_le hi h.size) hn).trans (h.block i hi hn)⟩
theorem mono (h : Off φ a b) (hk : ∀ k, k < a.heap.size → φ k → ψ k) : Off ψ a b :=
  ⟨h.os, h.tape, h.output, h.size, fun i hi hn => h.block i hi (fun hp => hn (hk i hi hp))⟩
theorem then_ (h : Off φ a b) (k : Off ψ b c) (hk : ∀ i, i < a.heap.size → ψ i → φ i) : Off φ a c :=
  ⟨k.os.trans h.os, k.tape.trans h.tape, k.output.trans h.output, Nat.le_trans h.size k.size,
    fun i hi hn => (k.block i (Nat.lt_of_lt_of_le hi h.size) (fun hp => hn (hk i hi hp))).trans (h.block i hi hn)⟩
theorem drew (h : Off φ a w) : Off φ a w.drew := ⟨h.os, h.tape, h.output, h.size, h.block⟩
theorem alloc (h : Off φ a w) (o : Obj) : Off φ a (w.alloc o) :=
  h.trans ⟨rfl, rfl, rfl, by simp, fun k hk _ => Below.heap_alloc _ _ _ hk⟩
theorem setCell (h : Off φ a w) {p : Addr} (hp : p.block < a.heap.size → φ p.block) (u : Value) : Off φ a (w.setCell p u) :=
  h.then_ (ψ := fun k => k = p.block) ⟨rfl, rfl, rfl, by simp [World.setCell], fun k _ hn => Below.heap_setCell _ _ _ _ hn⟩ (fun i hi e => by subst e; exact hp hi)
theorem putObj (h : Off φ a w) {r : Nat} (hp : r < a.heap.size → φ r) (o : Obj) : Off φ a (w.putObj r o) :=
  h.then_ (ψ := fun k => k = r) ⟨rfl, rfl, rfl, by simp, fun k _ hn => World.putObj_heap_other hn⟩ (fun i hi e => by subst e; exact hp hi)
theorem of_below {n : Nat} (h : Below n a b) : Off (fun k => n ≤ k) a b :=
  ⟨h.os, h.tape, h.output, h.size, fun k _ hn => h.block k (by omega)⟩
theorem below {n : Nat} (h : Off (fun k => n ≤ k) a b) (hn : n ≤ a.heap.size) : Below n a b :=
  ⟨h.os, h.tape, h.output, h.size, fun k hk => h.block k (by omega) (by omega)⟩
theorem below' {n : Nat} (h : Off φ a b) (hn : n ≤ a.heap.size) (hp : ∀ k, φ k → n ≤ k) : Below n a b := (h.mono (ψ := fun k => n ≤ k) (fun k _ => hp k)).below hn
theorem grown {row : Option Nat} (h : Off φ a w) (hg : w.grownBy w' row) (hr : ∀ k, row = some k → k < a.heap.size → φ k) : Off φ a w' :=
  ⟨hg.os.trans h.os, hg.tape.trans h.tape, hg.output.trans h.output, Nat.le_trans h.size hg.size,
    fun k hk hn => (hg.block k (Nat.lt_of_lt_of_le hk h.size) (fun e => hn (hr k e.symm hk))).trans (h.block k hk hn)⟩
theorem cell (h : Off φ w w') {p : Addr} (hp : p.block < w.heap.size) (hn : ¬ φ p.block) : w'.cell? p = w.cell? p := World.cell?_of_block (w := w) (h.block p.block hp hn)
theorem frozen (h : Off φ w w') {p : Addr} (hp : p.block < w.heap.size) (hn : ¬ φ p.block) : w'.frozen? p = w.frozen? p := World.frozen?_of_block (w := w) (h.block p.block hp hn)
end Off

/-- What an iterator does, over whatever a loop's rounds do in their footprint: all of xs come, in order. D: the blocks that it reads, or writes, that lay there ahead; E: those that it writes. -/
def Iter {α : Type} (P : Program) (gf : Nat) (lb : Array Value) (encs : α → Array Value) (xs : List α) (D E : Nat → Prop) (w : World) : Prop :=
  (∀ k, D k → k < w.heap.size) ∧
  ∀ (l : Nat) (J : List α → (Nat → Prop) → World → Prop) (φ : Nat → Prop) (W : World),
    Off (fun k => ¬ D k) w W →
    (∀ pre φ A, J pre φ A → ∀ k, φ k → k < A.heap.size) →
    (∀ pre φ A B, J pre φ A → Off (fun k => ¬ φ k) A B → J pre φ B) →
    (∀ k, φ k → ¬ D k) →
    (∀ pre x φ A, J pre φ A → pre ++ [x] <+: xs → YieldAt Fence.wide 0 P l (encs x) A fun e B =>
      e = .returned (.bool true) ∧ ∃ φ', (∀ k, φ' k → φ k ∨ A.heap.size ≤ k) ∧ J (pre ++ [x]) φ' B ∧ Off φ A B) →
    J [] φ W →
    CallsIn Fence.wide 0 P gf (#[.func (.yield l) #[] #[]] ++ lb) W fun e W' =>
      (∃ v, e = .returned v) ∧ ∃ φ', (∀ k, φ' k → φ k ∨ W.heap.size ≤ k) ∧ J xs φ' W' ∧ Off (fun k => φ k ∨ E k) W W'

/-- How a round's body is left: off its end; the footprint grows by new blocks alone. -/
def RoundEnd {α : Type} (I : List α → (Nat → Prop) → World → Prop) (pre : List α) (φ : Nat → Prop) (n : Nat) (W2 : World) (e : Exit) (_ : Act) (W' : World) : Prop :=
  e = .normal ∧ ∃ φ', (∀ k, φ' k → φ k ∨ n ≤ k) ∧ I pre φ' W' ∧ Off (fun k => φ k ∨ n ≤ k) W2 W'

/-- A range over a function, at an outermost loop whose body is never left early and whose variables are assigned in their slots. -/
theorem wpIn_range {P : Program} {α : Type} {g : Operand} {ps : Array Tmp} {assign body : Code} {Q : Exit → Act → World → Prop} {a : Act} {w : World}
    {gf : Nat} {lb : Array Value} (hg : a.eval g = .func (.func gf) #[] lb) (eg : ∀ args w, (callFunc gf args).run P w = .ok (.enter gf args) w)
    {encs : α → Array Value} {xs : List α} {D E : Nat → Prop} (hit : Iter P gf lb encs xs D E w) (hps : ∀ x, (encs x).size = ps.size)
    (I : List α → (Nat → Prop) → World → Prop) (φ0 : Nat → Prop)
    (hex : ∀ pre φ A, I pre φ A → ∀ k, φ k → k < A.heap.size)
    (hst : ∀ pre φ A B, I pre φ A → Off (fun k => ¬ φ k) A B → I pre φ B)
    (hdis : ∀ k, φ0 k → ¬ D k) (h0 : I [] φ0 w)
    (hbody : ∀ (l : Nat) (pre : List α) (x : α) (φ : Nat → Prop) (W : World) (K : Act → World → Prop), I pre φ W → pre ++ [x] <+: xs → w.heap.size < l → ¬ φ l → l < W.heap.size →
      (∀ (a₁ : Act) (W1 : World), Off (fun _ => False) W W1 →
        (∀ W2, Off (fun k => k = l) W1 W2 → W2.heap.size = W1.heap.size → I pre φ W2 →
          body.wpIn (Fence.wide.inRound l) 0 P (RoundEnd I (pre ++ [x]) φ W.heap.size W2) a₁ W2) → K a₁ W1) →
      assign.wpIn (Fence.wide.inRound l) 0 P (Exit.then K (fun _ _ _ => False)) { tmps := (ps.zip (encs x)).foldl (fun t (p, v) => t.setIfInBounds p v) a.tmps, defers := [] } W)
    (hdone : ∀ (Dd : Nat) (φ' : Nat → Prop) (W : World), I xs φ' W → Off (fun k => φ0 k ∨ E k) w W → w.heap.size ≤ Dd → ¬ φ' Dd → (∀ k, φ' k → φ0 k ∨ w.heap.size ≤ k) →
      W.heap[Dd]? = some (.deferred (some [])) → Q .normal { a with defers := { target := .collected Dd, args := #[] } :: a.defers } W) :
    (Code.rangeFunc g ps assign body).wpIn Fence.wide 0 P Q a w := by
  refine wpIn_rangeFunc ?_
  intro fn hfn
  rw [show Fence.wide.round = none from rfl]
  obtain ⟨rec, hrec⟩ : ∃ rec : LoopState → Option Code → Loop, rec = fun st pe => { state := st, pending := pe, fn, tmps := a.tmps, params := ps, assign, body, defers := w.heap.size } := ⟨_, rfl⟩
  obtain ⟨W1, hW1⟩ : ∃ W1, (w.alloc (.deferred (some []))).alloc (.loop (rec .ready none)) = W1 := ⟨_, rfl⟩
  have hL1 : W1.heap[w.heap.size + 1]? = some (.loop (rec .ready none)) := by
    rw [← hW1]; have := World.alloc_heap_new (w.alloc (.deferred (some []))) (.loop (rec .ready none)); rwa [World.size_alloc] at this
  have hK1 : W1.heap[w.heap.size]? = some (.deferred (some [])) := by
    rw [← hW1]; exact (Below.heap_alloc _ _ _ (by simp)).trans (World.alloc_heap_new w _)
  have hs1 : W1.heap.size = w.heap.size + 2 := by rw [← hW1]; simp
  have hO1 : ∀ φ, Off φ w W1 := fun φ => by rw [← hW1]; exact ((Off.refl φ w).alloc _).alloc _
  have hI1 : I [] φ0 W1 := hst _ _ _ _ h0 (hO1 _)
  have hφw : ∀ k, φ0 k → k < w.heap.size := hex _ _ _ h0
  have hnl : ¬ φ0 (w.heap.size + 1) := fun h => by have := hφw _ h; omega
  have hnk : ¬ φ0 w.heap.size := fun h => by have := hφw _ h; omega
  refine ⟨w.heap.size + 1, [{ target := .collected w.heap.size, args := #[] }], W1, { target := .fn (.func gf) lb, args := #[.func (.yield (w.heap.size + 1)) #[] #[]] }, W1, gf,
    #[.func (.yield (w.heap.size + 1)) #[] #[]] ++ lb, W1, ?_, ?_, fun _ _ => trivial, ?_, fun h => (by simp [Fence.wide] at h), ?_⟩
  · rw [← hW1, hrec]; exact run_enterLoop_outer _ _ _ _ _
  · simp only [resolve, hg]
    simp [go_sem]
  · simp [invoke, go_sem, eg]
  · refine (hit.2 (w.heap.size + 1)
      (fun pre ψ W => ∃ φ, ψ = (fun k => φ k ∨ k = w.heap.size + 1 ∨ k = w.heap.size) ∧ I pre φ W ∧ ¬ φ (w.heap.size + 1) ∧ ¬ φ w.heap.size ∧
        W.heap[w.heap.size + 1]? = some (.loop (rec .ready none)) ∧ W.heap[w.heap.size]? = some (.deferred (some [])))
      (fun k => φ0 k ∨ k = w.heap.size + 1 ∨ k = w.heap.size) W1 (hO1 _) ?_ ?_ ?_ ?_ ⟨φ0, rfl, hI1, hnl, hnk, hL1, hK1⟩).mono ?_
    · rintro pre ψ A ⟨φ, rfl, hi, -, -, hl, hk⟩ k (h | rfl | rfl)
      · exact hex _ _ _ hi k h
      · exact (Array.getElem?_eq_some_iff.1 hl).1
      · exact (Array.getElem?_eq_some_iff.1 hk).1
    · rintro pre ψ A B ⟨φ, rfl, hi, h1, h2, hl, hk⟩ ho
      have s1 := (Array.getElem?_eq_some_iff.1 hl).1
      have s2 := (Array.getElem?_eq_some_iff.1 hk).1
      exact ⟨φ, rfl, hst _ _ _ _ hi (ho.mono (fun k _ h => fun hp => h (.inl hp))), h1, h2,
        (ho.block _ s1 (fun h => h (.inr (.inl rfl)))).trans hl, (ho.block _ s2 (fun h => h (.inr (.inr rfl)))).trans hk⟩
    · rintro k (h | rfl | rfl)
      · exact hdis k h
      · intro h; have := hit.1 _ h; omega
      · intro h; have := hit.1 _ h; omega
    · -- ONE ROUND
      rintro pre x ψ W ⟨φ, rfl, hi, h1, h2, hl, hk⟩ hpre
      have hlt : w.heap.size + 1 < W.heap.size := (Array.getElem?_eq_some_iff.1 hl).1
      have hy := run_yield (P := P) (args := encs x) hl (by rw [hrec]; exact hps x)
      rw [hrec] at hy
      refine ⟨fn, _, assign, body, hy, roundIn_of_wpIn hfn (hbody (w.heap.size + 1) pre x φ W _ hi hpre (by omega) h1 hlt ?_)⟩
      intro a₁ W1' hO1' hb
      have hl1 : W1'.heap[w.heap.size + 1]? = some (.loop (rec .ready none)) := (hO1'.block _ hlt id).trans hl
      have hz1 := hO1'.size
      have hk1 : W1'.heap[w.heap.size]? = some (.deferred (some [])) := (hO1'.block _ (by omega) id).trans hk
      refine ⟨_, run_beginRound hl1 (by rw [hrec]), ?_⟩
      obtain ⟨W2, hW2⟩ : ∃ W2, W1'.putObj (w.heap.size + 1) (.loop { rec .ready none with state := .busy }) = W2 := ⟨_, rfl⟩
      rw [hW2]
      have hl2 : W2.heap[w.heap.size + 1]? = some (.loop { rec .ready none with state := .busy }) := by rw [← hW2]; exact World.putObj_heap_same (by omega)
      have hk2 : W2.heap[w.heap.size]? = some (.deferred (some [])) := by rw [← hW2]; exact (World.putObj_heap_other (by omega)).trans hk1
      have hz2 : W2.heap.size = W1'.heap.size := by rw [← hW2]; simp
      have hO2 : Off (fun k => k = w.heap.size + 1) W1' W2 := by rw [← hW2]; exact (Off.refl (fun k => k = w.heap.size + 1) W1').putObj (fun _ => rfl) _
      have hO2' : Off (fun k => k = w.heap.size + 1) W W2 := (hO1'.mono (fun _ _ h => h.elim)).trans hO2
      have hi2 : I pre φ W2 := hst _ _ _ _ hi (hO2'.mono (fun k _ e hp => h1 (e ▸ hp)))
      refine wpIn_mono (hb W2 hO2 hz2 hi2) ?_
      rintro e a3 W3 ⟨rfl, φ', hφ', hi3, hO3⟩
      have hl3 : W3.heap[w.heap.size + 1]? = some (.loop { rec .ready none with state := .busy }) := (hO3.block _ (by omega) (fun h => by rcases h with h | h; exact h1 h; omega)).trans hl2
      have hk3 : W3.heap[w.heap.size]? = some (.deferred (some [])) := (hO3.block _ (by omega) (fun h => by rcases h with h | h; exact h2 h; omega)).trans hk2
      have hr := run_endRound (P := P) none hl3
      rw [hrec] at hr hl3
      refine ⟨_, _, hr, rfl, (fun k => φ' k ∨ k = w.heap.size + 1 ∨ k = w.heap.size), ?_, ?_, ?_⟩
      · rintro k (h | h | h)
        · rcases hφ' k h with h | h
          · exact .inl (.inl h)
          · exact .inr (by omega)
        · exact .inl (.inr (.inl h))
        · exact .inl (.inr (.inr h))
      · have n1 : ¬ φ' (w.heap.size + 1) := fun h => by rcases hφ' _ h with h | h; exact h1 h; omega
        have n2 : ¬ φ' w.heap.size := fun h => by rcases hφ' _ h with h | h; exact h2 h; omega
        refine ⟨φ', rfl, hst _ _ _ _ hi3 ((Off.refl _ W3).putObj (fun _ => n1) _), n1, n2, ?_, (World.putObj_heap_other (by omega)).trans hk3⟩
        rw [hrec]
        exact World.putObj_heap_same (Array.getElem?_eq_some_iff.1 hl3).1
      · exact ((hO2'.mono (fun k _ e => .inr (.inl e))).then_ hO3 (fun i hi h => by rcases h with h | h; exact .inl h; omega)).putObj (fun _ => .inr (.inl rfl)) _
    · -- BEHIND THE ITERATOR
      rintro e W2 ⟨⟨v, rfl⟩, ψ, hψ, ⟨φ, rfl, hi, h1, h2, hl, hk⟩, hO⟩
      have hend := run_endLoop (P := P) hl (by rw [hrec]; simp)
      rw [hrec] at hend
      refine ⟨none, _, hend, ?_⟩
      refine hdone w.heap.size φ _ (hst _ _ _ _ hi ((Off.refl _ W2).putObj (fun _ => h1) _)) ?_ (Nat.le_refl _) h2 ?_ ((World.putObj_heap_other (by omega)).trans hk)
      · refine ((hO1 _).then_ hO ?_).putObj (fun h => by omega) _
        rintro i hi' ((h | h | h) | h)
        · exact .inl h
        · omega
        · omega
        · exact .inr h
      · intro k h
        rcases hψ k (.inl h) with (h' | h' | h') | h'
        · exact .inl h'
        · exact .inr (by omega)
        · exact .inr (by omega)
        · exact .inr (by omega)

end Go.Proofs.Ytmmjmncchckbbaa
