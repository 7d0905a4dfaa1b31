/-
  Laws for a range over a function whose body may write memory: a footprint is carried along. By a session.
-/
import Derived.RangeFuncNested
import Derived.Shelf.Abstract
import Derived.RangeFuncBound
import Derived.RangeFuncCalls
import Derived.RangeFuncLeaves
import Derived.WalkKit
import Derived.OwnWalkIn
import Derived.TacticsInMore
import Derived.LoopNIn
import Derived.LoopIn
import Derived.Test.YtmmjmncchckbbaaProg
import Derived.Test.YtmmjmncchckbbaaVWords
import Derived.Outline
import Derived.RegionTactic
import Derived.RegionIn
import Derived.BigRegionIn
import Derived.Laws.BitsLemmas
import Derived.Test.YtmmjmncchckbbaaVMore
import Derived.Test.YtmmjmncchckbbaaVGuard
import Derived.Below
import Derived.Deep.Draws
import Derived.Deep.AppendLies
import Derived.Maps.AppendAt
import Derived.OwnWalk
import Derived.Laws.BytesArg
import Derived.Laws.MakeOwn
import Derived.Laws.OwnMore
import Derived.Deep.OwnRows
import Derived.Tactics
import Derived.Lib.ConvBytes
import Derived.Laws.Slices
import Derived.KernelRfl
import Derived.RowKit3
import Derived.Deep.LoopGhost
import Derived.Deep.QuietTactic
import Derived.BigQuiet
import Derived.WideLaws
import Derived.Deep.DeepCutAuto
import Derived.Deep.CutBlock
import Derived.Deep.RegionHeld3
import Derived.Laws.Rows
import Derived.Lib.AppendStr
import Derived.ArgAppend
import Derived.Laws.IdiomCopy
import Derived.OrdersHeld
import Derived.RowKit
import Derived.Test.YtmmjmncchckbbaaVLast
import Derived.Test.YtmmjmncchckbbaaVTab
import Derived.Test.YtmmjmncchckbbaaVQPut
import Derived.Test.YtmmjmncchckbbaaVApart
import Derived.Test.YtmmjmncchckbbaaVArr
import Derived.Test.YtmmjmncchckbbaaVZeros
import Derived.Test.YtmmjmncchckbbaaVFoot
import Derived.Test.YtmmjmncchckbbaaVKept
import Derived.Test.YtmmjmncchckbbaaVShare
import Derived.Test.YtmmjmncchckbbaaVN
import Derived.Test.YtmmjmncchckbbaaVRepsOne
import Derived.Test.YtmmjmncchckbbaaVNEv
namespace Go.Proofs.Ytmmjmncchckbbaa
open Go.RowKit

/-- Off φ: the blocks of φ may have turned, and new ones may be there; all else is as it was. -/
structure Off (φ : Nat → Prop) (w w' : World) : Prop where
  os : w'.os = w.os
  tape : w'.tape = w.tape
  output : w'.output = w.output
  size : w.heap.size ≤ w'.heap.size
  block : ∀ k, k < w.heap.size → ¬ φ k → w'.heap[k]? = w.heap[k]?

namespace Off
variable {φ ψ : Nat → Prop} {a b c w w' : World}
theorem refl (φ : Nat → Prop) (w : World) : Off φ w w := ⟨rfl, rfl, rfl, Nat.le_refl _, fun _ _ _ => rfl⟩
theorem trans (h : Off φ a b) (k : Off φ b c) : Off φ a c :=
  ⟨k.os.trans h.os, k.tape.trans h.tape, k.output.trans h.output, Nat.le_trans h.size k.size,
    fun i hi hn => (k.block i (Nat.lt_of_lt_of_le hi h.size) hn).trans (h.block i hi hn)⟩
theorem mono (h : Off φ a b) (hk : ∀ k, k < a.heap.size → φ k → ψ k) : Off ψ a b :=
  ⟨h.os, h.tape, h.output, h.size, fun i hi hn => h.block i hi (fun hp => hn (hk i hi hp))⟩
theorem then_ (h : Off φ a b) (k : Off ψ b c) (hk : ∀ i, i < a.heap.size → ψ i → φ i) : Off φ a c :=
  ⟨k.os.trans h.os, k.tape.trans h.tape, k.output.trans h.output, Nat.le_trans h.size k.size,
    fun i hi hn => (k.block i (Nat.lt_of_lt_of_le hi h.size) (fun hp => hn (hk i hi hp))).trans (h.block i hi hn)⟩
theorem drew (h : Off φ a w) : Off φ a w.drew := ⟨h.os, h.tape, h.output, h.size, h.block⟩
theorem alloc (h : Off φ a w) (o : Obj) : Off φ a (w.alloc o) :=
  h.trans ⟨rfl, rfl, rfl, by simp, fun k hk _ => Below.heap_alloc _ _ _ hk⟩
theorem setCell (h : Off φ a w) {p : Addr} (hp : p.block < a.heap.size → φ p.block) (u : Value) : Off φ a (w.setCell p u) :=
  h.then_ (ψ := fun k => k = p.block) ⟨rfl, rfl, rfl, by simp [World.setCell], fun k _ hn => Below.heap_setCell _ _ _ _ hn⟩ (fun i hi e => by subst e; exact hp hi)
theorem putObj (h : Off φ a w) {r : Nat} (hp : r < a.heap.size → φ r) (o : Obj) : Off φ a (w.putObj r o) :=
  h.then_ (ψ := fun k => k = r) ⟨rfl, rfl, rfl, by simp, fun k _ hn => World.putObj_heap_other hn⟩ (fun i hi e => by subst e; exact hp hi)
theorem of_below {n : Nat} (h : Below n a b) : Off (fun k => n ≤ k) a b :=
  ⟨h.os, h.tape, h.output, h.size, fun k _ hn => h.block k (by omega)⟩
theorem below {n : Nat} (h : Off (fun k => n ≤ k) a b) (hn : n ≤ a.heap.size) : Below n a b :=
  ⟨h.os, h.tape, h.output, h.size, fun k hk => h.block k (by omega) (by omega)⟩
theorem below' {n : Nat} (h : Off φ a b) (hn : n ≤ a.heap.size) (hp : ∀ k, φ k → n ≤ k) : Below n a b := (h.mono (ψ := fun k => n ≤ k) (fun k _ => hp k)).below hn
theorem grown {row : Option Nat} (h : Off φ a w) (hg : w.grownBy w' row) (hr : ∀ k, row = some k → k < a.heap.size → φ k) : Off φ a w' :=
  ⟨hg.os.trans h.os, hg.tape.trans h.tape, hg.output.trans h.output, Nat.le_trans h.size hg.size,
    fun k hk hn => (hg.block k (Nat.lt_of_lt_of_le hk h.size) (fun e => hn (hr k e.symm hk))).trans (h.block k hk hn)⟩
theorem cell (h : Off φ w w') {p : Addr} (hp : p.block < w.heap.size) (hn : ¬ φ p.block) : w'.cell? p = w.cell? p := World.cell?_of_block (w := w) (h.block p.block hp hn)
theorem frozen (h : Off φ w w') {p : Addr} (hp : p.block < w.heap.size) (hn : ¬ φ p.block) : w'.frozen? p = w.frozen? p := World.frozen?_of_block (w := w) (h.block p.block hp hn)
end Off

/-- What an iterator does, over whatever a loop's rounds do in their footprint: all of xs come, in order. D: the blocks that it reads, or writes, that lay there ahead; E: those that it writes. -/
def Iter {α : Type} (P : Program) (gf : Nat) (lb : Array Value) (encs : α → Array Value) (xs : List α) (D E : Nat → Prop) (w : World) : Prop :=
  (∀ k, D k → k < w.heap.size) ∧
  ∀ (l : Nat) (J : List α → (Nat → Prop) → World → Prop) (φ : Nat → Prop) (W : World),
    Off (fun k => ¬ D k) w W →
    (∀ pre φ A, J pre φ A → ∀ k, φ k → k < A.heap.size) →
    (∀ pre φ A B, J pre φ A → Off (fun k => ¬ φ k) A B → J pre φ B) →
    (∀ k, φ k → ¬ D k) →
    (∀ pre x φ A, J pre φ A → pre ++ [x] <+: xs → YieldAt Fence.wide 0 P l (encs x) A fun e B =>
      e = .returned (.bool true) ∧ ∃ φ', (∀ k, φ' k → φ k ∨ A.heap.size ≤ k) ∧ J (pre ++ [x]) φ' B ∧ Off φ A B) →
    J [] φ W →
    CallsIn Fence.wide 0 P gf (#[.func (.yield l) #[] #[]] ++ lb) W fun e W' =>
      (∃ v, e = .returned v) ∧ ∃ φ', (∀ k, φ' k → φ k ∨ W.heap.size ≤ k) ∧ J xs φ' W' ∧ Off (fun k => φ k ∨ E k) W W'

/-- How a round's body is left: off its end; the footprint grows by new blocks alone. -/
def RoundEnd {α : Type} (I : List α → (Nat → Prop) → World → Prop) (pre : List α) (φ : Nat → Prop) (n : Nat) (W2 : World) (e : Exit) (_ : Act) (W' : World) : Prop :=
  e = .normal ∧ ∃ φ', (∀ k, φ' k → φ k ∨ n ≤ k) ∧ I pre φ' W' ∧ Off (fun k => φ k ∨ n ≤ k) W2 W'

/-- A range over a function, at an outermost loop whose body is never left early and whose variables are assigned in their slots. -/
theorem wpIn_range {P : Program} {α : Type} {g : Operand} {ps : Array Tmp} {assign body : Code} {Q : Exit → Act → World → Prop} {a : Act} {w : World}
    {gf : Nat} {lb : Array Value} (hg : a.eval g = .func (.func gf) #[] lb) (eg : ∀ args w, (callFunc gf args).run P w = .ok (.enter gf args) w)
    {encs : α → Array Value} {xs : List α} {D E : Nat → Prop} (hit : Iter P gf lb encs xs D E w) (hps : ∀ x, (encs x).size = ps.size)
    (I : List α → (Nat → Prop) → World → Prop) (φ0 : Nat → Prop)
    (hex : ∀ pre φ A, I pre φ A → ∀ k, φ k → k < A.heap.size)
    (hst : ∀ pre φ A B, I pre φ A → Off (fun k => ¬ φ k) A B → I pre φ B)
    (hdis : ∀ k, φ0 k → ¬ D k) (h0 : I [] φ0 w)
    (hbody : ∀ (l : Nat) (pre : List α) (x : α) (φ : Nat → Prop) (W : World) (K : Act → World → Prop), I pre φ W → pre ++ [x] <+: xs → w.heap.size < l → ¬ φ l → l < W.heap.size →
      (∀ (a₁ : Act) (W1 : World), Off (fun _ => False) W W1 →
        (∀ W2, Off (fun k => k = l) W1 W2 → W2.heap.size = W1.heap.size → I pre φ W2 →
          body.wpIn (Fence.wide.inRound l) 0 P (RoundEnd I (pre ++ [x]) φ W.heap.size W2) a₁ W2) → K a₁ W1) →
      assign.wpIn (Fence.wide.inRound l) 0 P (Exit.then K (fun _ _ _ => False)) { tmps := (ps.zip (encs x)).foldl (fun t (p, v) => t.setIfInBounds p v) a.tmps, defers := [] } W)
    (hdone : ∀ (Dd : Nat) (φ' : Nat → Prop) (W : World), I xs φ' W → Off (fun k => φ0 k ∨ E k) w W → w.heap.size ≤ Dd → ¬ φ' Dd → (∀ k, φ' k → φ0 k ∨ w.heap.size ≤ k) →
      W.heap[Dd]? = some (.deferred (some [])) → Q .normal { a with defers := { target := .collected Dd, args := #[] } :: a.defers } W) :
    (Code.rangeFunc g ps assign body).wpIn Fence.wide 0 P Q a w := by
  refine wpIn_rangeFunc ?_
  intro fn hfn
  rw [show Fence.wide.round = none from rfl]
  obtain ⟨rec, hrec⟩ : ∃ rec : LoopState → Option Code → Loop, rec = fun st pe => { state := st, pending := pe, fn, tmps := a.tmps, params := ps, assign, body, defers := w.heap.size } := ⟨_, rfl⟩
  obtain ⟨W1, hW1⟩ : ∃ W1, (w.alloc (.deferred (some []))).alloc (.loop (rec .ready none)) = W1 := ⟨_, rfl⟩
  have hL1 : W1.heap[w.heap.size + 1]? = some (.loop (rec .ready none)) := by
    rw [← hW1]; have := World.alloc_heap_new (w.alloc (.deferred (some []))) (.loop (rec .ready none)); rwa [World.size_alloc] at this
  have hK1 : W1.heap[w.heap.size]? = some (.deferred (some [])) := by
    rw [← hW1]; exact (Below.heap_alloc _ _ _ (by simp)).trans (World.alloc_heap_new w _)
  have hs1 : W1.heap.size = w.heap.size + 2 := by rw [← hW1]; simp
  have hO1 : ∀ φ, Off φ w W1 := fun φ => by rw [← hW1]; exact ((Off.refl φ w).alloc _).alloc _
  have hI1 : I [] φ0 W1 := hst _ _ _ _ h0 (hO1 _)
  have hφw : ∀ k, φ0 k → k < w.heap.size := hex _ _ _ h0
  have hnl : ¬ φ0 (w.heap.size + 1) := fun h => by have := hφw _ h; omega
  have hnk : ¬ φ0 w.heap.size := fun h => by have := hφw _ h; omega
  refine ⟨w.heap.size + 1, [{ target := .collected w.heap.size, args := #[] }], W1, { target := .fn (.func gf) lb, args := #[.func (.yield (w.heap.size + 1)) #[] #[]] }, W1, gf,
    #[.func (.yield (w.heap.size + 1)) #[] #[]] ++ lb, W1, ?_, ?_, fun _ _ => trivial, ?_, fun h => (by simp [Fence.wide] at h), ?_⟩
  · rw [← hW1, hrec]; exact run_enterLoop_outer _ _ _ _ _
  · simp only [resolve, hg]
    simp [go_sem]
  · simp [invoke, go_sem, eg]
  · refine (hit.2 (w.heap.size + 1)
      (fun pre ψ W => ∃ φ, ψ = (fun k => φ k ∨ k = w.heap.size + 1 ∨ k = w.heap.size) ∧ I pre φ W ∧ ¬ φ (w.heap.size + 1) ∧ ¬ φ w.heap.size ∧
        W.heap[w.heap.size + 1]? = some (.loop (rec .ready none)) ∧ W.heap[w.heap.size]? = some (.deferred (some [])))
      (fun k => φ0 k ∨ k = w.heap.size + 1 ∨ k = w.heap.size) W1 (hO1 _) ?_ ?_ ?_ ?_ ⟨φ0, rfl, hI1, hnl, hnk, hL1, hK1⟩).mono ?_
    · rintro pre ψ A ⟨φ, rfl, hi, -, -, hl, hk⟩ k (h | rfl | rfl)
      · exact hex _ _ _ hi k h
      · exact (Array.getElem?_eq_some_iff.1 hl).1
      · exact (Array.getElem?_eq_some_iff.1 hk).1
    · rintro pre ψ A B ⟨φ, rfl, hi, h1, h2, hl, hk⟩ ho
      have s1 := (Array.getElem?_eq_some_iff.1 hl).1
      have s2 := (Array.getElem?_eq_some_iff.1 hk).1
      exact ⟨φ, rfl, hst _ _ _ _ hi (ho.mono (fun k _ h => fun hp => h (.inl hp))), h1, h2,
        (ho.block _ s1 (fun h => h (.inr (.inl rfl)))).trans hl, (ho.block _ s2 (fun h => h (.inr (.inr rfl)))).trans hk⟩
    · rintro k (h | rfl | rfl)
      · exact hdis k h
      · intro h; have := hit.1 _ h; omega
      · intro h; have := hit.1 _ h; omega
    · -- ONE ROUND
      rintro pre x ψ W ⟨φ, rfl, hi, h1, h2, hl, hk⟩ hpre
      have hlt : w.heap.size + 1 < W.heap.size := (Array.getElem?_eq_some_iff.1 hl).1
      have hy := run_yield (P := P) (args := encs x) hl (by rw [hrec]; exact hps x)
      rw [hrec] at hy
      refine ⟨fn, _, assign, body, hy, roundIn_of_wpIn hfn (hbody (w.heap.size + 1) pre x φ W _ hi hpre (by omega) h1 hlt ?_)⟩
      intro a₁ W1' hO1' hb
      have hl1 : W1'.heap[w.heap.size + 1]? = some (.loop (rec .ready none)) := (hO1'.block _ hlt id).trans hl
      have hz1 := hO1'.size
      have hk1 : W1'.heap[w.heap.size]? = some (.deferred (some [])) := (hO1'.block _ (by omega) id).trans hk
      refine ⟨_, run_beginRound hl1 (by rw [hrec]), ?_⟩
      obtain ⟨W2, hW2⟩ : ∃ W2, W1'.putObj (w.heap.size + 1) (.loop { rec .ready none with state := .busy }) = W2 := ⟨_, rfl⟩
      rw [hW2]
      have hl2 : W2.heap[w.heap.size + 1]? = some (.loop { rec .ready none with state := .busy }) := by rw [← hW2]; exact World.putObj_heap_same (by omega)
      have hk2 : W2.heap[w.heap.size]? = some (.deferred (some [])) := by rw [← hW2]; exact (World.putObj_heap_other (by omega)).trans hk1
      have hz2 : W2.heap.size = W1'.heap.size := by rw [← hW2]; simp
      have hO2 : Off (fun k => k = w.heap.size + 1) W1' W2 := by rw [← hW2]; exact (Off.refl (fun k => k = w.heap.size + 1) W1').putObj (fun _ => rfl) _
      have hO2' : Off (fun k => k = w.heap.size + 1) W W2 := (hO1'.mono (fun _ _ h => h.elim)).trans hO2
      have hi2 : I pre φ W2 := hst _ _ _ _ hi (hO2'.mono (fun k _ e hp => h1 (e ▸ hp)))
      refine wpIn_mono (hb W2 hO2 hz2 hi2) ?_
      rintro e a3 W3 ⟨rfl, φ', hφ', hi3, hO3⟩
      have hl3 : W3.heap[w.heap.size + 1]? = some (.loop { rec .ready none with state := .busy }) := (hO3.block _ (by omega) (fun h => by rcases h with h | h; exact h1 h; omega)).trans hl2
      have hk3 : W3.heap[w.heap.size]? = some (.deferred (some [])) := (hO3.block _ (by omega) (fun h => by rcases h with h | h; exact h2 h; omega)).trans hk2
      have hr := run_endRound (P := P) none hl3
      rw [hrec] at hr hl3
      refine ⟨_, _, hr, rfl, (fun k => φ' k ∨ k = w.heap.size + 1 ∨ k = w.heap.size), ?_, ?_, ?_⟩
      · rintro k (h | h | h)
        · rcases hφ' k h with h | h
          · exact .inl (.inl h)
          · exact .inr (by omega)
        · exact .inl (.inr (.inl h))
        · exact .inl (.inr (.inr h))
      · have n1 : ¬ φ' (w.heap.size + 1) := fun h => by rcases hφ' _ h with h | h; exact h1 h; omega
        have n2 : ¬ φ' w.heap.size := fun h => by rcases hφ' _ h with h | h; exact h2 h; omega
        refine ⟨φ', rfl, hst _ _ _ _ hi3 ((Off.refl _ W3).putObj (fun _ => n1) _), n1, n2, ?_, (World.putObj_heap_other (by omega)).trans hk3⟩
        rw [hrec]
        exact World.putObj_heap_same (Array.getElem?_eq_some_iff.1 hl3).1
      · exact ((hO2'.mono (fun k _ e => .inr (.inl e))).then_ hO3 (fun i hi h => by rcases h with h | h; exact .inl h; omega)).putObj (fun _ => .inr (.inl rfl)) _
    · -- BEHIND THE ITERATOR
      rintro e W2 ⟨⟨v, rfl⟩, ψ, hψ, ⟨φ, rfl, hi, h1, h2, hl, hk⟩, hO⟩
      have hend := run_endLoop (P := P) hl (by rw [hrec]; simp)
      rw [hrec] at hend
      refine ⟨none, _, hend, ?_⟩
      refine hdone w.heap.size φ _ (hst _ _ _ _ hi ((Off.refl _ W2).putObj (fun _ => h1) _)) ?_ (Nat.le_refl _) h2 ?_ ((World.putObj_heap_other (by omega)).trans hk)
      · refine ((hO1 _).then_ hO ?_).putObj (fun h => by omega) _
        rintro i hi' ((h | h | h) | h)
        · exact .inl h
        · omega
        · omega
        · exact .inr h
      · intro k h
        rcases hψ k (.inl h) with (h' | h' | h') | h'
        · exact .inl h'
        · exact .inr (by omega)
        · exact .inr (by omega)
        · exact .inr (by omega)

end Go.Proofs.Ytmmjmncchckbbaa
/-
  slices.Chunk's iterator over bytes, two by two.
-/
namespace Go.Proofs.Ytmmjmncchckbbaa
open Go.RowKit Go.Proofs.YtmmjmncchckbbaaW.PrintWords
attribute [local go_sem] Oper.semAt_some

def chunkOf (A : Option Addr) (len k : Nat) : Value := .slice (A.map (·.add (2 * k))) (min 2 (len - 2 * k)) (min 2 (len - 2 * k))

theorem range_pre {n x : Nat} {pre : List Nat} (h : pre ++ [x] <+: List.range n) : pre = List.range x ∧ x < n := by
  obtain ⟨t, ht⟩ := h
  have h1 : pre ++ [x] = List.range (pre.length + 1) := by
    have := congrArg (List.take (pre.length + 1)) ht
    rw [List.take_left' (by simp)] at this
    rw [this, List.take_range]
    congr 1
    have := congrArg List.length ht
    simp at this
    omega
  rw [List.range_succ] at h1
  have h2 := List.append_inj h1 (by simp)
  have hx : x = pre.length := by simpa using h2.2
  have := congrArg List.length ht
  simp at this
  exact ⟨by rw [hx]; exact h2.1, by omega⟩

theorem range_pre' {n x : Nat} (h : x < n) : List.range x ++ [x] <+: List.range n := by
  rw [← List.range_succ]
  have : List.range (x + 1) = (List.range n).take (x + 1) := by rw [List.take_range]; congr 1; omega
  rw [this]
  exact List.take_prefix _ _

set_option maxRecDepth 100000 in
set_option maxHeartbeats 2000000 in
theorem chunk_iter (Bs Bn : Nat) (A : Option Addr) (len c : Nat) (hl : len ≤ 140737488351232) (hcap : len ≤ c) (hA : 0 < len → ∃ ad, A = some ad)
    (w : World) (h1 : Boxed w Bs 30 (.slice A len c)) (h2 : Boxed w Bn 3 (.int .i64 2)) :
    Iter Try.prog 66 #[.pointer (some ⟨Bs, 0, none⟩), .pointer (some ⟨Bn, 0, none⟩)] (fun k => #[chunkOf A len k]) (List.range ((len + 1) / 2)) (fun k => k = Bs ∨ k = Bn) (fun _ => False) w := by
  refine ⟨by rintro k (rfl | rfl); exact h1.lt; exact h2.lt, ?_⟩
  intro l J φ W hW hex hst hdis hround h0
  have b1 : Boxed W Bs 30 (.slice A len c) := (hW.block _ h1.lt (fun h => h (.inl rfl))).trans h1
  have b2 : Boxed W Bn 3 (.int .i64 2) := (hW.block _ h2.lt (fun h => h (.inr rfl))).trans h2
  refine callsIn_of_wp Try.func66 rfl trivial ?_ rfl
  simp only [Try.ntmps66, List.size_toArray, List.length_cons, List.length_nil, Nat.reduceAdd, Nat.reduceSub, Array.replicate_succ, Array.replicate_zero, List.push_toArray, List.append_toArray, List.nil_append, List.cons_append]
  gi_wp2
  gi_loopw [4] (fun i wr => ∃ k : Nat, ∃ ψ, k ≤ (len + 1) / 2 ∧ i = .int .i64 (2 * k) ∧ J (List.range k) ψ wr ∧ (∀ k, ψ k → φ k ∨ W.heap.size ≤ k) ∧ Off φ W wr)
    (fun i _ => len + 2 - (intOf i).toNat)
  case atStart => exact ⟨0, φ, by omega, by simp, h0, fun _ => .inl, Off.refl _ _⟩
  case round =>
    obtain ⟨k, ψ, hk, rfl, hJ, hψ, hO⟩ := hrel
    have d1 : ¬ ψ Bs := fun h => by rcases hψ _ h with h | h; exact hdis _ h (.inl rfl); have := b1.lt; omega
    have d2 : ¬ ψ Bn := fun h => by rcases hψ _ h with h | h; exact hdis _ h (.inr rfl); have := b2.lt; omega
    have e1 : Boxed wr Bs 30 (.slice A len c) := (hO.block _ b1.lt (fun h => hdis _ h (.inl rfl))).trans b1
    have e2 : Boxed wr Bn 3 (.int .i64 2) := (hO.block _ b2.lt (fun h => hdis _ h (.inr rfl))).trans b2
    have c1 := e1.cell
    have c2 := e2.cell
    by_cases hlt : 2 * k < len
    · obtain ⟨ad, rfl⟩ := hA (by omega)
      have hJ' : J (List.range k) ψ wr.drew := hst _ _ _ _ hJ (Off.refl _ wr).drew
      have hdis' : ∀ j, ψ j → j < wr.drew.heap.size := hex _ _ _ hJ'
      have hy := hround (List.range k) k ψ wr.drew hJ' (range_pre' (by omega))
      have key : ∀ (m : Nat) (rest : Nat), ∀ W3 ψ', (∀ k, ψ' k → ψ k ∨ wr.drew.heap.size ≤ k) → J (List.range k ++ [k]) ψ' W3 → Off ψ wr.drew W3 →
          W3.cell? ⟨Bn, 0, none⟩ = some (.int .i64 2) ∧ J (List.range (k + 1)) ψ' W3 ∧ (∀ k, ψ' k → φ k ∨ W.heap.size ≤ k) ∧ Off φ W W3 := by
        intro _ _ W3 ψ' hψ' hJ3 hO3
        have hz : wr.drew.heap.size = wr.heap.size := rfl
        refine ⟨((hO3.cell (p := ⟨Bn, 0, none⟩) e2.lt d2).trans c2), by rw [List.range_succ]; exact hJ3, ?_, ?_⟩
        · intro j hj
          rcases hψ' j hj with h | h
          · exact hψ j h
          · exact .inr (by have := hO.size; omega)
        · exact (hO.then_ ((Off.refl ψ wr).drew.trans hO3) (fun i hi h => by rcases hψ i h with h | h; exact h; omega))
      by_cases hlast : 2 * k + 1 < len
      · have hm : (¬ ((len - 2 * k : Nat) : Int) < 2) := by omega
        have hm2 : min 2 (len - 2 * k) = 2 := by omega
        simp only [chunkOf, Option.map_some, hm2] at hy
        obtain ⟨fn, tmps, assign, body, hy, hR⟩ := hy
        clear hm2
        gi_wp2
        gi_region
        gi_wp2
        refine ⟨rfl, ?_⟩
        refine hR.mono ?_
        rintro e W3 ⟨rfl, ψ', hψ', hJ3, hO3⟩
        obtain ⟨c3, hJ4, hψ4, hO4⟩ := key 0 0 W3 ψ' hψ' hJ3 hO3
        clear hJ3 hO3 hψ'
        gi_wp2
        go_roundw
        case rel => exact ⟨k + 1, ψ', by omega, by simp; omega, hJ4, hψ4, hO4⟩
        case measure => simp [intOf]; omega
      · have hm : (((len - 2 * k : Nat) : Int) < 2) := by omega
        have hq : len - 2 * k = 1 := by omega
        have hm2 : min 2 (len - 2 * k) = 1 := by omega
        simp only [chunkOf, Option.map_some, hm2] at hy
        obtain ⟨fn, tmps, assign, body, hy, hR⟩ := hy
        clear hm2
        gi_wp2
        gi_region
        gi_wp2
        refine ⟨rfl, ?_⟩
        refine hR.mono ?_
        rintro e W3 ⟨rfl, ψ', hψ', hJ3, hO3⟩
        obtain ⟨c3, hJ4, hψ4, hO4⟩ := key 0 0 W3 ψ' hψ' hJ3 hO3
        clear hJ3 hO3 hψ'
        gi_wp2
        go_roundw
        case rel => exact ⟨k + 1, ψ', by omega, by simp; omega, hJ4, hψ4, hO4⟩
        case measure => simp [intOf]; omega
    · obtain rfl : k = (len + 1) / 2 := by omega
      gi_wp2
      go_end0
      exact ⟨⟨_, rfl⟩, ψ, hψ, hJ, hO.mono (fun _ _ h => .inl h)⟩
end Go.Proofs.Ytmmjmncchckbbaa
/-
  Package sum: words, Of, by contracts.
-/
namespace Go.Proofs.Ytmmjmncchckbbaa
open Go.RowKit Go.Shelf Go.Proofs.YtmmjmncchckbbaaW.PrintWords
attribute [local go_sem] Oper.semAt_some

theorem readsInt_of_block {w w' : World} {k : IntKind} {A : Option Addr} {n : Nat} {xs : List Int} (h : ReadsInt w k A n xs) (hb : ∀ ad, A = some ad → 0 < n → w'.heap[ad.block]? = w.heap[ad.block]?) : ReadsInt w' k A n xs :=
  ⟨h.1, h.2.1, fun hn => by
    obtain ⟨ad, e, hc⟩ := h.2.2 hn
    refine ⟨ad, e, fun j hj => ?_⟩
    rw [World.cell?_of_block (w := w) (by rw [show (ad.add j).block = ad.block from by unfold Addr.add; split <;> rfl]; exact hb ad e hn)]
    exact hc j hj⟩

theorem chunk_calls (A : Option Addr) (len c : Nat) (w : World) :
    Calls Try.prog 65 #[.slice A len c, .int .i64 2] w fun e w' => e = .returned (.func (.func 66) #[] #[.pointer (some ⟨w.heap.size, 0, none⟩), .pointer (some ⟨w.heap.size + 1, 0, none⟩)]) ∧
      w' = (w.alloc (.cells #[.slice A len c] 30)).alloc (.cells #[.int .i64 2] 3) := by
  go_enter Try.func65, Try.ntmps65
  go_wp2
  go_ret
  exact ⟨rfl, rfl⟩

theorem words_calls (A : Option Addr) (len c : Nat) (w : World) :
    Calls Try.prog 61 #[.slice A len c] w fun e w' => e = .returned (.func (.func 64) #[] #[.pointer (some ⟨w.heap.size, 0, none⟩)]) ∧
      w' = w.alloc (.cells #[.slice A len c] 30) := by
  go_enter Try.func61, Try.ntmps61
  go_wp2
  go_ret
  exact ⟨rfl, rfl⟩

theorem wraps_u16 (n : Int) (h₀ : 0 ≤ n) (h₁ : n < 2 ^ 16) : IntKind.u16.wrap n = n := by simp [IntKind.wrap, IntKind.bits, IntKind.signed]; omega
theorem u16_join (x y : Int) (h0 : 0 ≤ x) (h1 : x < 256) (h2 : 0 ≤ y) (h3 : y < 256) : bits .or .u16 (x * 256) y = x * 256 + y :=
  bits_join .u16 16 (by decide) wraps_u16 8 _ _ (by omega) (by omega) (by omega) h2 (by omega) (by omega)

/-- The k-th word of bytes. -/
def wordAt (zs : List Int) (k : Nat) : Int := zs.getD (2 * k) 0 * 256 + (if 2 * k + 1 < zs.length then zs.getD (2 * k + 1) 0 else 0)

set_option maxRecDepth 100000 in
set_option maxHeartbeats 2000000 in
theorem words_iter (Bb : Nat) (A : Option Addr) (c : Nat) (zs : List Int) (hl : zs.length ≤ 140737488351232) (hcap : zs.length ≤ c) (hz : ∀ z ∈ zs, 0 ≤ z ∧ z < 256)
    (w : World) (h1 : Boxed w Bb 30 (.slice A zs.length c)) (hr : ReadsInt w .u8 A zs.length zs) :
    Iter Try.prog 64 #[.pointer (some ⟨Bb, 0, none⟩)] (fun k => #[.int .u16 (wordAt zs k)]) (List.range ((zs.length + 1) / 2)) (fun k => k = Bb ∨ (0 < zs.length ∧ ∃ ad, A = some ad ∧ k = ad.block)) (fun _ => False) w := by
  have hdat : ∀ ad, A = some ad → 0 < zs.length → ad.block < w.heap.size := fun ad e hp => by
    obtain ⟨ad', e', hc⟩ := hr.2.2 hp
    rw [e] at e'; cases e'
    have := World.block_lt_of_cell? w _ (hc 0 hp)
    unfold Addr.add at this
    simpa using this
  refine ⟨?_, ?_⟩
  · rintro k (rfl | ⟨hp, ad, e, rfl⟩)
    · exact h1.lt
    · exact hdat ad e hp
  intro l J φ W hW hex hst hdis hround h0
  have b1 : Boxed W Bb 30 (.slice A zs.length c) := (hW.block _ h1.lt (fun h => h (.inl rfl))).trans h1
  have hrW : ReadsInt W .u8 A zs.length zs := readsInt_of_block hr (fun ad e hp => hW.block _ (hdat ad e hp) (fun h => h (.inr ⟨hp, ad, e, rfl⟩)))
  have c1 := (b1.alloc (.cells #[.func (.yield l) #[] #[]] 92)).cell
  refine callsIn_of_wp_marks Try.func64 rfl trivial ?_ rfl
  simp only [Try.ntmps64, List.size_toArray, List.length_cons, List.length_nil, Nat.reduceAdd, Nat.reduceSub, Array.replicate_succ, Array.replicate_zero, List.push_toArray, List.append_toArray, List.nil_append, List.cons_append]
  gi_wp2_with (refine ⟨trivial, rfl, ?_⟩; gi_at_call 65; refine (callsIn_wide.2 (chunk_calls _ _ _ _)).mono ?_; rintro e w' ⟨rfl, rfl⟩)
  obtain ⟨W3, hW3⟩ : ∃ W3, (((W.alloc (.cells #[.func (.yield l) #[] #[]] 92)).alloc (.cells #[.slice A zs.length c] 30)).alloc (.cells #[.int .i64 2] 3)) = W3 := ⟨_, rfl⟩
  have s3 : W3.heap.size = W.heap.size + 3 := by rw [← hW3]; simp
  have hO3 : ∀ φ, Off φ W W3 := fun φ => by rw [← hW3]; exact (((Off.refl φ W).alloc _).alloc _).alloc _
  have x1 : Boxed W3 W.heap.size 92 (.func (.yield l) #[] #[]) := by rw [← hW3]; exact ((Boxed.new W _ _).alloc _).alloc _
  have x2 : Boxed W3 (W.heap.size + 1) 30 (.slice A zs.length c) := by
    rw [← hW3]; have := (Boxed.new (W.alloc (.cells #[.func (.yield l) #[] #[]] 92)) 30 (.slice A zs.length c)).alloc (.cells #[.int .i64 2] 3); rwa [World.size_alloc] at this
  have x3 : Boxed W3 (W.heap.size + 2) 3 (.int .i64 2) := by
    rw [← hW3]; have := Boxed.new ((W.alloc (.cells #[.func (.yield l) #[] #[]] 92)).alloc (.cells #[.slice A zs.length c] 30)) 3 (.int .i64 2); rwa [World.size_alloc, World.size_alloc] at this
  rw [hW3]
  have hφ0 : ∀ k, φ k → k < W.heap.size := hex _ _ _ h0
  refine wpIn_range (α := Nat) (lb := #[.pointer (some ⟨W.heap.size + 1, 0, none⟩), .pointer (some ⟨W.heap.size + 2, 0, none⟩)]) rfl (enters_of Try.func66 (by kernel_rfl) rfl)
    (chunk_iter _ _ A zs.length c hl hcap (fun hp => by obtain ⟨ad, e, _⟩ := hr.2.2 hp; exact ⟨ad, e⟩) W3 x2 x3) (fun _ => rfl)
    (fun pre ψ B => ∃ φ1, ψ = (fun k => φ1 k ∨ k = W.heap.size ∨ (0 < zs.length ∧ ∃ ad, A = some ad ∧ k = ad.block)) ∧ J pre φ1 B ∧ ¬ φ1 W.heap.size ∧ (∀ ad, A = some ad → 0 < zs.length → ¬ φ1 ad.block) ∧
      Boxed B W.heap.size 92 (.func (.yield l) #[] #[]) ∧ (∀ ad, A = some ad → 0 < zs.length → B.heap[ad.block]? = W.heap[ad.block]?))
    (fun k => φ k ∨ k = W.heap.size ∨ (0 < zs.length ∧ ∃ ad, A = some ad ∧ k = ad.block)) ?hex ?hst ?hdis ?h0
    ?body ?done
  case hex =>
    rintro pre ψ B ⟨φ1, rfl, hJ, -, -, hb, hrB⟩ k (h | rfl | ⟨hp, ad, e, rfl⟩)
    · exact hex _ _ _ hJ k h
    · exact hb.lt
    · have h1 := hrB ad e hp
      have h2 := hdat ad e hp
      have h3 := hW.size
      exact (Array.getElem?_eq_some_iff.1 (h1.trans (Array.getElem?_eq_getElem (by omega)))).1
  case hst =>
    rintro pre ψ B B' ⟨φ1, rfl, hJ, n1, n2, hb, hrB⟩ hO
    refine ⟨φ1, rfl, hst _ _ _ _ hJ (hO.mono (fun k _ h hp => h (.inl hp))), n1, n2, (hO.block _ hb.lt (fun h => h (.inr (.inl rfl)))).trans hb,
      fun ad e hp => (hO.block _ ?_ (fun h => h (.inr (.inr ⟨hp, ad, e, rfl⟩)))).trans (hrB ad e hp)⟩
    have h1 := hrB ad e hp
    have h2 := hdat ad e hp
    have h3 := hW.size
    exact (Array.getElem?_eq_some_iff.1 (h1.trans (Array.getElem?_eq_getElem (by omega)))).1
  case hdis =>
    rintro k (h | rfl | ⟨hp, ad, e, rfl⟩)
    · have := hφ0 k h; omega
    · omega
    · have := hdat ad e hp; have := hW.size; omega
  case h0 =>
    exact ⟨φ, rfl, hst _ _ _ _ h0 (hO3 _), fun h => by have := hφ0 _ h; omega, fun ad e hp h => hdis _ h (.inr ⟨hp, ad, e, rfl⟩), x1,
      fun ad e hp => (hO3 (fun _ => False)).block _ (by have := hdat ad e hp; have := hW.size; omega) id⟩
  case body =>
    rintro l2 pre x ψ B K hI hpre hl2 hnl hlt hK
    gi_wp2
    refine hK _ _ (Off.refl _ _) ?_
    rintro B2 hO2 hz2 ⟨φ1, rfl, hJ, n1, n2, hb, hrB⟩
    obtain ⟨rfl, hx⟩ := range_pre hpre
    have hp : 0 < zs.length := by omega
    have hrB' := readsInt_of_block hrW hrB
    obtain ⟨ad, rfl, hc⟩ := hrB'.2.2 hp
    have cy := hb.cell
    obtain ⟨z0, e0⟩ : ∃ z, zs.getD (2 * x) 0 = z := ⟨_, rfl⟩
    have r0 : 0 ≤ z0 ∧ z0 < 256 := by rw [← e0, List.getD_eq_getElem?_getD, List.getElem?_eq_getElem (by omega)]; exact hz _ (List.getElem_mem _)
    obtain ⟨r0, r0'⟩ := r0
    have k0 : B2.cell? (ad.add (2 * x)) = some (.int .u8 z0) := by rw [← e0]; exact hc (2 * x) (by omega)
    have hy := hround (List.range x) x φ1 B2 hJ hpre
    have fin : ∀ (B3 : World) (φ2 : Nat → Prop), (∀ k, φ2 k → φ1 k ∨ B2.heap.size ≤ k) → J (List.range x ++ [x]) φ2 B3 → Off φ1 B2 B3 →
        (∀ k, (φ2 k ∨ k = W.heap.size ∨ (0 < zs.length ∧ ∃ ad', some ad = some ad' ∧ k = ad'.block)) → (φ1 k ∨ k = W.heap.size ∨ (0 < zs.length ∧ ∃ ad', some ad = some ad' ∧ k = ad'.block)) ∨ B.heap.size ≤ k) ∧
        (∃ φ1', (fun k => φ2 k ∨ k = W.heap.size ∨ (0 < zs.length ∧ ∃ ad', some ad = some ad' ∧ k = ad'.block)) = (fun k => φ1' k ∨ k = W.heap.size ∨ (0 < zs.length ∧ ∃ ad', some ad = some ad' ∧ k = ad'.block)) ∧
          J (List.range x ++ [x]) φ1' B3 ∧ ¬ φ1' W.heap.size ∧ (∀ ad', some ad = some ad' → 0 < zs.length → ¬ φ1' ad'.block) ∧ Boxed B3 W.heap.size 92 (.func (.yield l) #[] #[]) ∧ (∀ ad', some ad = some ad' → 0 < zs.length → B3.heap[ad'.block]? = W.heap[ad'.block]?)) ∧
        Off (fun k => (φ1 k ∨ k = W.heap.size ∨ (0 < zs.length ∧ ∃ ad', some ad = some ad' ∧ k = ad'.block)) ∨ B.heap.size ≤ k) B2 B3 := by
      intro B3 φ2 hφ2 hJ3 hO3
      have hlt2 : ad.block < B2.heap.size := by
        have := World.block_lt_of_cell? B2 _ k0
        unfold Addr.add at this
        split at this <;> simpa using this
      refine ⟨?_, ⟨φ2, rfl, hJ3, ?_, ?_, (hO3.block _ hb.lt n1).trans hb, fun ad' e hp => ?_⟩, hO3.mono (fun k _ h => .inl (.inl h))⟩
      · rintro k (h | h | h)
        · rcases hφ2 k h with h | h
          · exact .inl (.inl h)
          · exact .inr (by omega)
        · exact .inl (.inr (.inl h))
        · exact .inl (.inr (.inr h))
      · intro h
        rcases hφ2 _ h with h | h
        · exact n1 h
        · have := hb.lt; omega
      · rintro ad' e hp h
        cases e
        rcases hφ2 _ h with h | h
        · exact n2 ad rfl hp h
        · omega
      · cases e
        exact (hO3.block _ hlt2 (n2 ad rfl hp)).trans (hrB ad rfl hp)
    by_cases hlast : 2 * x + 1 < zs.length
    · have hm2 : min 2 (zs.length - 2 * x) = 2 := by omega
      obtain ⟨z1, e1⟩ : ∃ z, zs.getD (2 * x + 1) 0 = z := ⟨_, rfl⟩
      have r1 : 0 ≤ z1 ∧ z1 < 256 := by rw [← e1, List.getD_eq_getElem?_getD, List.getElem?_eq_getElem (by omega)]; exact hz _ (List.getElem_mem _)
      obtain ⟨r1, r1'⟩ := r1
      have k1 : B2.cell? ⟨(ad.add (2 * x)).block, (ad.add (2 * x)).off + 1, none⟩ = some (.int .u8 z1) := by
        rw [← add_field ad (2 * x) 1 (by omega), ← e1]; exact hc (2 * x + 1) (by omega)
      have hw : wordAt zs x = z0 * 256 + z1 := by unfold wordAt; rw [if_pos hlast, e0, e1]
      rw [hw, ← u16_join z0 z1 r0 r0' r1 r1'] at hy
      obtain ⟨fn, tmps, assign, body, hy, hR⟩ := hy
      simp only [chunkOf, Option.map_some, hm2]
      clear hm2 e0 e1 hw hc
      gi_wp2
      refine ⟨rfl, ?_⟩
      refine RoundIn.mono (F := Fence.wide.inRound l2) hR ?_
      rintro e B3 ⟨rfl, φ2, hφ2, hJ3, hO3⟩
      gi_wp2
      exact ⟨rfl, _, fin B3 φ2 hφ2 hJ3 hO3⟩
    · have hm2 : min 2 (zs.length - 2 * x) = 1 := by omega
      have hw : wordAt zs x = z0 * 256 := by unfold wordAt; rw [if_neg hlast, e0]; omega
      rw [hw] at hy
      obtain ⟨fn, tmps, assign, body, hy, hR⟩ := hy
      simp only [chunkOf, Option.map_some, hm2]
      clear hm2 e0 hw hc
      gi_wp2
      refine ⟨rfl, ?_⟩
      refine RoundIn.mono (F := Fence.wide.inRound l2) hR ?_
      rintro e B3 ⟨rfl, φ2, hφ2, hJ3, hO3⟩
      gi_wp2
      exact ⟨rfl, _, fin B3 φ2 hφ2 hJ3 hO3⟩
  case done =>
    rintro Dd ψ' B ⟨φ1, rfl, hJ, n1, n2, hb, hrB⟩ hO hDd hnD hsub hK
    gi_wp2
    refine ⟨by simp, .inl ⟨_, _, rfl, run_takeDeferred hK, ?_⟩⟩
    refine ⟨_, results_none rfl _ _ _, ⟨_, rfl⟩, φ1, ?_, hst _ _ _ _ hJ ((Off.refl _ B).putObj (fun _ h => hnD (.inl h)) _), ?_⟩
    · intro k h
      rcases hsub k (.inl h) with (h' | rfl | ⟨hp, ad, e, rfl⟩) | h'
      · exact .inl h'
      · exact (n1 h).elim
      · exact (n2 ad e hp h).elim
      · exact .inr (by omega)
    · have hO' := (hO3 (fun k => φ k ∨ False ∨ (0 < zs.length ∧ ∃ ad, A = some ad ∧ k = ad.block))).then_ hO (by
        rintro k hk ((h | h | h) | h)
        · exact .inl h
        · omega
        · exact .inr (.inr h)
        · exact h.elim)
      have hO'' : Off (fun k => φ k ∨ False) W B := ⟨hO'.os, hO'.tape, hO'.output, hO'.size, fun k hk hn => by
        by_cases hd : 0 < zs.length ∧ ∃ ad, A = some ad ∧ k = ad.block
        · obtain ⟨hp, ad, e, rfl⟩ := hd
          exact hrB ad e hp
        · exact hO'.block k hk (fun h => by rcases h with h | h | h; exact hn (.inl h); exact h; exact hd h)⟩
      refine (hO''.mono (ψ := φ) (fun k _ h => h.elim id False.elim)).putObj (fun h => ?_) _
      omega

theorem u16_xor (s : Int) (h0 : 0 ≤ s) (h1 : s < 65536) : bits .xor .u16 IntKind.u16.max s = 65535 - s := by
  obtain ⟨a, rfl⟩ := Int.eq_ofNat_of_zero_le h0
  have ha : a < 65536 := by omega
  have hx : (65535 : Nat) ^^^ a = 65535 - a := by
    have := BitVec.toNat_not (x := BitVec.ofNat 16 a)
    rw [BitVec.not_def, BitVec.toNat_xor, BitVec.toNat_allOnes, BitVec.toNat_ofNat, Nat.mod_eq_of_lt (by omega)] at this
    exact this
  show IntKind.u16.wrap ((BitVec.ofInt 16 65535 ^^^ BitVec.ofInt 16 (a : Int)).toNat : Int) = _
  rw [BitVec.ofInt_natCast, BitVec.toNat_xor, BitVec.toNat_ofNat, Nat.mod_eq_of_lt (by omega), show (BitVec.ofInt 16 65535).toNat = 65535 from rfl, hx, wraps_u16 _ (by omega) (by omega)]
  omega

/-- The sum of words, joined one after the other. -/
def joinW (x y : Int) : Int := if x + y < 65536 then x + y else x + y - 65535
def sumOf (zs : List Int) : Int := 65535 - (List.range ((zs.length + 1) / 2)).foldl (fun s k => joinW s (wordAt zs k)) 0

theorem wordAt_range (zs : List Int) (hz : ∀ z ∈ zs, 0 ≤ z ∧ z < 256) (k : Nat) : 0 ≤ wordAt zs k ∧ wordAt zs k < 65536 := by
  have key : ∀ j, 0 ≤ zs.getD j 0 ∧ zs.getD j 0 < 256 := by
    intro j
    rcases Nat.lt_or_ge j zs.length with h | h
    · rw [List.getD_eq_getElem?_getD, List.getElem?_eq_getElem h]; exact hz _ (List.getElem_mem _)
    · rw [List.getD_eq_getElem?_getD, List.getElem?_eq_none h]; simp
  unfold wordAt
  have a := key (2 * k)
  have b := key (2 * k + 1)
  split <;> omega

theorem joinW_range {x y : Int} (h0 : 0 ≤ x) (h1 : x < 65536) (h2 : 0 ≤ y) (h3 : y < 65536) : 0 ≤ joinW x y ∧ joinW x y < 65536 := by
  unfold joinW; split <;> omega

theorem fold_range (zs : List Int) (hz : ∀ z ∈ zs, 0 ≤ z ∧ z < 256) (l : List Nat) : ∀ s, 0 ≤ s → s < 65536 → 0 ≤ l.foldl (fun s k => joinW s (wordAt zs k)) s ∧ l.foldl (fun s k => joinW s (wordAt zs k)) s < 65536 := by
  induction l with
  | nil => intro s h0 h1; exact ⟨h0, h1⟩
  | cons k l ih =>
    intro s h0 h1
    have := wordAt_range zs hz k
    have := joinW_range h0 h1 this.1 this.2
    exact ih _ this.1 this.2

theorem join_calls (x y : Int) (w : World) (h0 : 0 ≤ x) (h1 : x < 65536) (h2 : 0 ≤ y) (h3 : y < 65536) :
    Calls Try.prog 62 #[.int .u16 x, .int .u16 y] w fun e w' => e = .returned (.int .u16 (joinW x y)) ∧ w' = w := by
  go_enter Try.func62, Try.ntmps62
  go_wp2
  go_ret
  refine ⟨?_, rfl⟩
  have hm : bits .and .u32 (x + y) 65535 = (x + y) % 65536 := bits_mask .u32 32 (by decide) (fun n h0 h1 => by rw [IntKind.wrap_u32]; omega) 16 (by decide) (x + y) (by omega) (by omega)
  show Ending.returned (Value.int .u16 _) = _
  have hj := joinW_range h0 h1 h2 h3
  rw [hm, show ((x + y) % 65536 + (x + y) / 65536) % 4294967296 = joinW x y from by unfold joinW; split <;> omega, wraps_u16 _ hj.1 hj.2]

set_option maxRecDepth 100000 in
set_option maxHeartbeats 2000000 in
theorem of_calls (A : Option Addr) (c : Nat) (zs : List Int) (w : World) (hl : zs.length ≤ 140737488351232) (hcap : zs.length ≤ c) (hz : ∀ z ∈ zs, 0 ≤ z ∧ z < 256) (hr : ReadsInt w .u8 A zs.length zs) :
    Calls Try.prog 50 #[.slice A zs.length c] w fun e w' => e = .returned (.int .u16 (sumOf zs)) ∧ Below w.heap.size w w' := by
  refine (callsIn_wide (n := 0)).1 ?_
  refine callsIn_of_wp_marks Try.func50 rfl trivial ?_ rfl
  simp only [Try.ntmps50, List.size_toArray, List.length_cons, List.length_nil, Nat.reduceAdd, Nat.reduceSub, Array.replicate_succ, Array.replicate_zero, List.push_toArray, List.append_toArray, List.nil_append, List.cons_append]
  gi_wp2_with (refine ⟨trivial, rfl, ?_⟩; gi_at_call 61; refine (callsIn_wide.2 (words_calls _ _ _ _)).mono ?_; rintro e w' ⟨rfl, rfl⟩)
  obtain ⟨W3, hW3⟩ : ∃ W3, ((w.alloc (.cells #[.int .u16 0] 69)).alloc (.cells #[.slice A zs.length c] 30)) = W3 := ⟨_, rfl⟩
  have s3 : W3.heap.size = w.heap.size + 2 := by rw [← hW3]; simp
  have hO3 : ∀ φ, Off φ w W3 := fun φ => by rw [← hW3]; exact ((Off.refl φ w).alloc _).alloc _
  have x1 : Boxed W3 w.heap.size 69 (.int .u16 0) := by rw [← hW3]; exact (Boxed.new w _ _).alloc _
  have x2 : Boxed W3 (w.heap.size + 1) 30 (.slice A zs.length c) := by
    rw [← hW3]; have := Boxed.new (w.alloc (.cells #[.int .u16 0] 69)) 30 (.slice A zs.length c); rwa [World.size_alloc] at this
  have hdat : ∀ ad, A = some ad → 0 < zs.length → ad.block < w.heap.size := fun ad e hp => by
    obtain ⟨ad', e', hc⟩ := hr.2.2 hp
    rw [e] at e'; cases e'
    have := World.block_lt_of_cell? w _ (hc 0 hp)
    unfold Addr.add at this
    simpa using this
  have hr3 : ReadsInt W3 .u8 A zs.length zs := readsInt_of_block hr (fun ad e hp => (hO3 (fun _ => False)).block _ (hdat ad e hp) id)
  rw [hW3]
  refine wpIn_range (α := Nat) (lb := #[.pointer (some ⟨w.heap.size + 1, 0, none⟩)]) rfl (enters_of Try.func64 (by kernel_rfl) rfl)
    (words_iter _ A c zs hl hcap hz W3 x2 hr3) (fun _ => rfl)
    (fun pre ψ B => ψ = (fun k => k = w.heap.size) ∧ Boxed B w.heap.size 69 (.int .u16 (pre.foldl (fun s k => joinW s (wordAt zs k)) 0)))
    (fun k => k = w.heap.size) ?hex ?hst ?hdis ⟨rfl, x1⟩ ?body ?done
  case hex =>
    rintro pre ψ B ⟨rfl, hb⟩ k rfl
    exact hb.lt
  case hst =>
    rintro pre ψ B B' ⟨rfl, hb⟩ hO
    exact ⟨rfl, (hO.block _ hb.lt (fun h => h rfl)).trans hb⟩
  case hdis =>
    rintro k rfl (h | ⟨hp, ad, e, h⟩)
    · omega
    · have := hdat ad e hp; omega
  case body =>
    rintro l2 pre x ψ B K hI hpre hl2 hnl hlt hK
    gi_wp2
    refine hK _ _ (Off.refl _ _) ?_
    rintro B2 hO2 hz2 ⟨rfl, hb⟩
    have hf := fold_range zs hz pre 0 (by omega) (by omega)
    obtain ⟨s, hs⟩ : ∃ s, pre.foldl (fun s k => joinW s (wordAt zs k)) 0 = s := ⟨_, rfl⟩
    rw [hs] at hb hf
    obtain ⟨f0, f1⟩ := hf
    obtain ⟨y, hy⟩ : ∃ y, wordAt zs x = y := ⟨_, rfl⟩
    have hwr := wordAt_range zs hz x
    rw [hy] at hwr ⊢
    obtain ⟨g0, g1⟩ := hwr
    have hj := joinW_range f0 f1 g0 g1
    have HS : Hid ((pre ++ [x]).foldl (fun s k => joinW s (wordAt zs k)) 0 = joinW s y) := by show _ = _; rw [List.foldl_append, hs, List.foldl_cons, List.foldl_nil, hy]
    clear hs hy
    have cb := hb.cell
    have fb := hb.frozen
    gi_wp2_with (refine ⟨trivial, rfl, ?_⟩; gi_at_call 62; refine (CallsIn.inRound l2 (callsIn_wide.2 (join_calls _ _ _ f0 f1 g0 g1))).mono ?_; rintro e w' ⟨rfl, rfl⟩)
    refine ⟨rfl, fun k => k = w.heap.size, fun k h => .inl h, ⟨rfl, ?_⟩, (Off.refl _ _).setCell (fun _ => .inl rfl) _⟩
    rw [HS.out]
    exact hb.set _
  case done =>
    rintro Dd ψ' B ⟨rfl, hb⟩ hO hDd hnD hsub hK
    have hf := fold_range zs hz (List.range ((zs.length + 1) / 2)) 0 (by omega) (by omega)
    have HS : Hid (sumOf zs = 65535 - (List.range ((zs.length + 1) / 2)).foldl (fun s k => joinW s (wordAt zs k)) 0) := rfl
    obtain ⟨s, hs⟩ : ∃ s, (List.range ((zs.length + 1) / 2)).foldl (fun s k => joinW s (wordAt zs k)) 0 = s := ⟨_, rfl⟩
    rw [hs] at hb hf HS
    obtain ⟨f0, f1⟩ := hf
    clear hs
    have cb := hb.cell
    gi_wp2
    refine ⟨by simp, .inl ⟨_, _, rfl, run_takeDeferred hK, ?_⟩⟩
    refine ⟨_, results_tmp rfl _ _ _, ?_, ?_⟩
    · rw [HS.out]
      show Ending.returned (Value.int .u16 _) = _
      rw [u16_xor s f0 f1]
    · refine Off.below' (φ := fun k => w.heap.size ≤ k) (((hO3 _).then_ hO ?_).putObj (fun h => by omega) _) (Nat.le_refl _) (fun _ h => h)
      rintro k hk (h | h)
      · omega
      · exact h.elim
end Go.Proofs.Ytmmjmncchckbbaa
/-
  Package sum: Put, by a contract.
-/
namespace Go.Proofs.Ytmmjmncchckbbaa
open Go.RowKit Go.Shelf Go.Proofs.YtmmjmncchckbbaaW.PrintWords
attribute [local go_sem] Oper.semAt_some

theorem Try.info5 : (Try.prog.info? 5).map (fun i => (i.zero, i.size, i.bytes)) = some (some (.int .u8 0), 1, 1) := by kernel_rfl

/-- The bytes with their sum put at m. -/
def zeroed (zs : List Int) (m : Nat) : List Int := (zs.set m 0).set (m + 1) 0
def putOf (zs : List Int) (m : Nat) : List Int := ((zeroed zs m).set m (sumOf (zeroed zs m) / 256)).set (m + 1) (sumOf (zeroed zs m) % 256)

theorem zeroed_len (zs : List Int) (m : Nat) : (zeroed zs m).length = zs.length := by simp [zeroed]
theorem zeroed_byte (zs : List Int) (m : Nat) (hz : ∀ z ∈ zs, 0 ≤ z ∧ z < 256) : ∀ z ∈ zeroed zs m, 0 ≤ z ∧ z < 256 := by
  intro z h
  unfold zeroed at h
  rcases List.mem_or_eq_of_mem_set h with h | rfl
  · rcases List.mem_or_eq_of_mem_set h with h | rfl
    · exact hz z h
    · omega
  · omega
theorem sumOf_range (zs : List Int) (hz : ∀ z ∈ zs, 0 ≤ z ∧ z < 256) : 0 ≤ sumOf zs ∧ sumOf zs < 65536 := by
  have := fold_range zs hz (List.range ((zs.length + 1) / 2)) 0 (by omega) (by omega)
  unfold sumOf
  omega

set_option maxRecDepth 100000 in
set_option maxHeartbeats 2000000 in
theorem put_yes (A : Option Addr) (c : Nat) (zs : List Int) (m : Nat) (w : World) (hl : zs.length ≤ 140737488351232) (hcap : zs.length ≤ c) (hz : ∀ z ∈ zs, 0 ≤ z ∧ z < 256) (hr : (Kd.int .u8).C w A zs.length zs)
    (hm : m % 2 = 0) (hm2 : m + 2 ≤ zs.length) :
    Calls Try.prog 26 #[.slice A zs.length c, .int .i64 m] w fun e w' => ∃ v, e = .returned (.tuple #[v, .int .i64 0]) ∧ (Kd.int .u8).R 5 w' w.heap.size (fun _ => True) v (putOf zs m) ∧ Below w.heap.size w w' := by
  have hmk := print_make (P := Try.prog) 30 5 .u8 1 rfl Try.info5 (by decide) zs.length (by omega)
  have hd0 : decide ((m : Int) < 0) = false := by simp
  have hd1 : ((m : Int) % 2 != 0) = false := by simp; omega
  have hd2 : decide (((zs.length : Int) - 2) < (m : Int)) = false := by simp; omega
  go_enter Try.func26, Try.ntmps26
  go_wp2_with (with_reducible refine Kd.R_copy (o := ⟨some 27, _, _, _, _, _⟩) (enc := Value.int .u8) (h1 := fun _ => rfl) (d := (0 : Int)) (w0 := w) w.heap.size rfl (.tmp 25) (.tmp 26) 30 30 5 rfl rfl (by kernel_rfl) (.slice (some ⟨w.heap.size, 0, none⟩) zs.length zs.length) (List.replicate zs.length 0) zs A zs.length c (fun _ => True) rfl rfl ?c1 ?c2 ?c3 ?c4 ?_)
  case c1 => exact Kd.R_of_own (by rw [List.length_replicate]; exact own_made w w.heap.size 5 .u8 zs.length (Nat.le_refl _) (by omega)) (fun _ _ => trivial)
  case c2 => exact Kd.C_alloc hr _
  case c3 => exact (Below.refl _ _).alloc (Nat.le_refl _) _
  case c4 => simp
  intro w1 HR HB1 hg1
  clear hg1 hmk hd0 hd1 hd2
  replace HR : (Kd.int .u8).R 5 w1 w.heap.size (fun _ => True) (.slice (some ⟨w.heap.size, 0, none⟩) zs.length zs.length) zs := HR
  obtain ⟨k0, k1⟩ := Kd.R_celln (0 : Int) HR (m : Int) (by omega) (by omega)
  have HR2 := Kd.R_putn HR (m : Int) 0
  simp only [Int.toNat_natCast] at k0 k1 HR2
  obtain ⟨k2, k3⟩ := Kd.R_celln (0 : Int) HR2 ((m + 1 : Nat) : Int) (by omega) (by omega)
  have HR3 := Kd.R_putn HR2 ((m + 1 : Nat) : Int) 0
  simp only [Int.toNat_natCast] at k2 k3 HR3
  have HB3 : Below w.heap.size w ((w1.setCell ⟨w.heap.size, m, none⟩ (.int .u8 0)).setCell ⟨w.heap.size, m + 1, none⟩ (.int .u8 0)) := (HB1.setCell (p := ⟨w.heap.size, m, none⟩) (Nat.le_refl _) _).setCell (p := ⟨w.heap.size, m + 1, none⟩) (Nat.le_refl _) _
  go_wp2_with fail
  obtain ⟨w3, hw3⟩ : ∃ w3, ((w1.setCell ⟨w.heap.size, m, none⟩ (.int .u8 0)).setCell ⟨w.heap.size, m + 1, none⟩ (.int .u8 0)) = w3 := ⟨_, rfl⟩
  rw [hw3] at HB3 ⊢
  replace HR3 : (Kd.int .u8).R 5 w3 w.heap.size (fun _ => True) (.slice (some ⟨w.heap.size, 0, none⟩) zs.length zs.length) (zeroed zs m) := by rw [← hw3]; exact HR3
  clear k0 k1 k2 k3 HR2 HR HB1 hw3
  have hrd := Kd.reads_of_C (enc := Value.int .u8) (d := (0 : Int)) (h1 := fun _ => rfl) (Kd.R_reads' HR3).2.2
  have hof := of_calls (some ⟨w.heap.size, 0, none⟩) (zeroed zs m).length (zeroed zs m) w3 (by rw [zeroed_len]; exact hl) (Nat.le_refl _) (zeroed_byte zs m hz) hrd
  have hs := sumOf_range (zeroed zs m) (zeroed_byte zs m hz)
  have HP : Hid (putOf zs m = ((zeroed zs m).set m (sumOf (zeroed zs m) / 256)).set (m + 1) (sumOf (zeroed zs m) % 256)) := rfl
  rw [zeroed_len] at hof
  clear hrd
  generalize zeroed zs m = zz at *
  generalize sumOf zz = s at *
  obtain ⟨s0, s1⟩ := hs
  refine hof.mono ?_
  rintro e w4 ⟨rfl, HB4⟩
  have HR4 := Kd.R_below HR3 HB4
  have HB5 := HB3.trans (HB4.mono HB3.size)
  clear HB3 HB4 HR3 hof
  obtain ⟨k0, k1⟩ := Kd.R_celln (0 : Int) HR4 (m : Int) (by omega) (by omega)
  have HR5 := Kd.R_putn HR4 (m : Int) (s / 256)
  simp only [Int.toNat_natCast] at k0 k1 HR5
  obtain ⟨k2, k3⟩ := Kd.R_celln (0 : Int) HR5 ((m + 1 : Nat) : Int) (by omega) (by omega)
  have HR6 := Kd.R_putn HR5 ((m + 1 : Nat) : Int) (s % 256)
  simp only [Int.toNat_natCast] at k2 k3 HR6
  have HB6 : Below w.heap.size w ((w4.setCell ⟨w.heap.size, m, none⟩ (.int .u8 (s / 256))).setCell ⟨w.heap.size, m + 1, none⟩ (.int .u8 (s % 256))) := (HB5.setCell (p := ⟨w.heap.size, m, none⟩) (Nat.le_refl _) _).setCell (p := ⟨w.heap.size, m + 1, none⟩) (Nat.le_refl _) _
  go_wp2
  go_ret2
  exact ⟨_, rfl, by rw [HP.out]; exact HR6, HB6⟩

end Go.Proofs.Ytmmjmncchckbbaa
/-
  Package sum: contracts in the printer's form.
-/
namespace Go.Proofs.Ytmmjmncchckbbaa
open Go.RowKit Go.Shelf Go.Proofs.YtmmjmncchckbbaaW.PrintWords

/-- Are these bytes, and not too many? -/
def bytesOk (l : List Int) : Bool := l.all (fun z => decide (0 ≤ z) && decide (z < 256)) && decide (l.length ≤ 140737488351232)
theorem bytesOk_iff (l : List Int) : bytesOk l = true ↔ (∀ z ∈ l, 0 ≤ z ∧ z < 256) ∧ l.length ≤ 140737488351232 := by
  simp [bytesOk]

def sum_Of.f (l0 : List Int) : Option Int := if bytesOk l0 = true then some (sumOf l0) else none
theorem sum_Of.calls (A0 : Option Addr) (c0 : Nat) (l0 : List Int) (r : Int) (w : World) (hr0 : Kd.C (Kd.int .u8) w A0 l0.length l0) (hc0 : l0.length ≤ c0) (h : sum_Of.f l0 = some r) :
    Calls Try.prog 50 #[.slice A0 l0.length c0] w fun e w' => e = .returned (.int .u16 r) ∧ Below w.heap.size w w' := by
  unfold sum_Of.f at h
  split at h
  · rename_i hb
    obtain ⟨h1, h2⟩ := (bytesOk_iff _).1 hb
    cases h
    exact of_calls A0 c0 l0 w h2 hc0 h1 (Kd.reads_of_C (enc := Value.int .u8) (d := (0 : Int)) (h1 := fun _ => rfl) hr0)
  · cases h

end Go.Proofs.Ytmmjmncchckbbaa
/-
  A call of a function value that catches nothing, as an arm of a walk; a row of truths told by a number.
-/
namespace Go.Proofs.Ytmmjmncchckbbaa
open Go.RowKit Go.Proofs.YtmmjmncchckbbaaW.PrintWords Go.Proofs.YtmmjmncchckbbaaW.PrintLast Go.Proofs.YtmmjmncchckbbaaW.PrintMore

/-- n truths: the bits of m. -/
def bb (n m : Nat) : Array Bool := ((List.range n).map fun i => m.testBit i).toArray

theorem cf3 {w : World} {g t : Nat} {a0 a1 a2 : Value} (h : w.heap[g]? = some (.cells #[a0, a1, a2] t (0, 0))) : w.cell? ⟨g, 0, none⟩ = some a0 ∧ w.cell? ⟨g, 1, none⟩ = some a1 ∧ w.cell? ⟨g, 2, none⟩ = some a2 ∧ w.frozen? ⟨g, 0, none⟩ = false ∧ w.frozen? ⟨g, 1, none⟩ = false ∧ w.frozen? ⟨g, 2, none⟩ = false :=
  ⟨(blk_cell h 0).trans rfl, (blk_cell h 1).trans rfl, (blk_cell h 2).trans rfl, blk_frozen h 0, blk_frozen h 1, blk_frozen h 2⟩
theorem cf9 {w : World} {g t : Nat} {a0 a1 a2 a3 a4 a5 a6 a7 a8 : Value} (h : w.heap[g]? = some (.cells #[a0, a1, a2, a3, a4, a5, a6, a7, a8] t (0, 0))) : w.cell? ⟨g, 0, none⟩ = some a0 ∧ w.cell? ⟨g, 1, none⟩ = some a1 ∧ w.cell? ⟨g, 2, none⟩ = some a2 ∧ w.cell? ⟨g, 3, none⟩ = some a3 ∧ w.cell? ⟨g, 4, none⟩ = some a4 ∧ w.cell? ⟨g, 5, none⟩ = some a5 ∧ w.cell? ⟨g, 6, none⟩ = some a6 ∧ w.cell? ⟨g, 7, none⟩ = some a7 ∧ w.cell? ⟨g, 8, none⟩ = some a8 ∧ w.frozen? ⟨g, 0, none⟩ = false ∧ w.frozen? ⟨g, 1, none⟩ = false ∧ w.frozen? ⟨g, 2, none⟩ = false ∧ w.frozen? ⟨g, 3, none⟩ = false ∧ w.frozen? ⟨g, 4, none⟩ = false ∧ w.frozen? ⟨g, 5, none⟩ = false ∧ w.frozen? ⟨g, 6, none⟩ = false ∧ w.frozen? ⟨g, 7, none⟩ = false ∧ w.frozen? ⟨g, 8, none⟩ = false :=
  ⟨(blk_cell h 0).trans rfl, (blk_cell h 1).trans rfl, (blk_cell h 2).trans rfl, (blk_cell h 3).trans rfl, (blk_cell h 4).trans rfl, (blk_cell h 5).trans rfl, (blk_cell h 6).trans rfl, (blk_cell h 7).trans rfl, (blk_cell h 8).trans rfl, blk_frozen h 0, blk_frozen h 1, blk_frozen h 2, blk_frozen h 3, blk_frozen h 4, blk_frozen h 5, blk_frozen h 6, blk_frozen h 7, blk_frozen h 8⟩
theorem cf11 {w : World} {g t : Nat} {a0 a1 a2 a3 a4 a5 a6 a7 a8 a9 a10 : Value} (h : w.heap[g]? = some (.cells #[a0, a1, a2, a3, a4, a5, a6, a7, a8, a9, a10] t (0, 0))) : w.cell? ⟨g, 0, none⟩ = some a0 ∧ w.cell? ⟨g, 1, none⟩ = some a1 ∧ w.cell? ⟨g, 2, none⟩ = some a2 ∧ w.cell? ⟨g, 3, none⟩ = some a3 ∧ w.cell? ⟨g, 4, none⟩ = some a4 ∧ w.cell? ⟨g, 5, none⟩ = some a5 ∧ w.cell? ⟨g, 6, none⟩ = some a6 ∧ w.cell? ⟨g, 7, none⟩ = some a7 ∧ w.cell? ⟨g, 8, none⟩ = some a8 ∧ w.cell? ⟨g, 9, none⟩ = some a9 ∧ w.cell? ⟨g, 10, none⟩ = some a10 ∧ w.frozen? ⟨g, 0, none⟩ = false ∧ w.frozen? ⟨g, 1, none⟩ = false ∧ w.frozen? ⟨g, 2, none⟩ = false ∧ w.frozen? ⟨g, 3, none⟩ = false ∧ w.frozen? ⟨g, 4, none⟩ = false ∧ w.frozen? ⟨g, 5, none⟩ = false ∧ w.frozen? ⟨g, 6, none⟩ = false ∧ w.frozen? ⟨g, 7, none⟩ = false ∧ w.frozen? ⟨g, 8, none⟩ = false ∧ w.frozen? ⟨g, 9, none⟩ = false ∧ w.frozen? ⟨g, 10, none⟩ = false :=
  ⟨(blk_cell h 0).trans rfl, (blk_cell h 1).trans rfl, (blk_cell h 2).trans rfl, (blk_cell h 3).trans rfl, (blk_cell h 4).trans rfl, (blk_cell h 5).trans rfl, (blk_cell h 6).trans rfl, (blk_cell h 7).trans rfl, (blk_cell h 8).trans rfl, (blk_cell h 9).trans rfl, (blk_cell h 10).trans rfl, blk_frozen h 0, blk_frozen h 1, blk_frozen h 2, blk_frozen h 3, blk_frozen h 4, blk_frozen h 5, blk_frozen h 6, blk_frozen h 7, blk_frozen h 8, blk_frozen h 9, blk_frozen h 10⟩
section
variable {P : Program} {ops : Array Oper} {Q : Exit → Act → World → Prop}
theorem goesV_ {rest : List Oper} {oi : Oper} {a : Act} {w : World} (N : Option Tmp) (hd : oi.dst = N) (hg : oi.guard = none) {f : FuncId} {fn : Func} {xs : Array Operand} {ts : Array TypeId} {cv : Operand} (hf : P.funcs[f]? = some fn) (hname : (fn.name == "runtime.NumGoroutine") = false) (hb : fn.body.isSome = true) (args : Array Value)
    (hop : oi.op = .call { callee := .value cv, args := xs, argTypes := ts }) (hv : a.eval cv = a.eval (.func f)) (hargs : xs.map a.eval = args)
    (h : Calls P f args w fun e w' => ∃ v, e = .returned v ∧ wpList P ops Q rest (a.put N v) w') : wpList P ops Q (oi :: rest) a w := by
  refine wpList_plain hg fun K hK => ?_
  have he := enters_ hf hname hb args w
  have hrun : (execOp a.eval oi).run P w = .ok (.enter f args) w := by
    unfold execOp
    rw [hop]
    simp only [resolve, hv]
    simp [Deferred.ofValue, invoke, Act.eval, hargs, he]
  unfold Oper.wp
  rw [hrun, Oper.upon_enter]
  refine h.mono fun e w'' hh => ?_
  obtain ⟨v, rfl, hk⟩ := hh
  subst hd
  exact hK _ _ hk
end
section
variable {P : Program} {ops : Array Oper} {Q : Exit → Act → World → Prop} {md : Region.Mode} {S : World → Prop} {ds : List Nat}
/-- PrintLast's pure_, shorter. -/
theorem pu (i : Nat) (N : Tmp) {oi : Oper} {v : Value} {fuel : Nat} {l : Array Bool} {a : Act} {w : World} (l' : Array Bool) (hi : ops[i]? = some oi) (hN : oi.dst = some N) (hc : anyB md ops l l' i = true)
    (hQ : ∀ c a w, Q (.panic c) (a.put oi.dst v) w → Q (.panic c) a w) (hw : Region.wanted oi (yielded ops a.tmps) = true) (hy : ∀ w, (execOp a.eval oi).run P w = .ok (.value v) w) {a' : Act} (ha : a.put (some N) v = a')
    (h : wpAnyLast P md ops Q S ds fuel l' a' w) : wpAnyLast P md ops Q S ds (fuel + 1) l a w :=
  pure_ l' hi hN hc hQ (Or.inl ⟨hw, hy⟩) ha h
end
end Go.Proofs.Ytmmjmncchckbbaa
-- written by a program of this session (hprint.py), over the kit's printer






namespace Go.Proofs.Ytmmjmncchckbbaa.PIg
open Go.RowKit Go.Proofs.YtmmjmncchckbbaaW.PrintWords Go.Proofs.YtmmjmncchckbbaaW.PrintLast Go.Proofs.YtmmjmncchckbbaaW.PrintMore
attribute [local go_sem] max2_int min2_int max_two min_two max_three min_three max_four min_four   -- for this text's walks alone
set_option linter.unusedVariables false
set_option linter.unusedSimpArgs false



def errW : Option Int → Value
  | none => .nilIface
  | some c => .iface 0 (.int .i64 c)
theorem errW_none : errW none = .nilIface := rfl
theorem errW_some (c : Int) : errW (some c) = .iface 0 (.int .i64 c) := rfl

theorem info5 : (Try.prog.info? 5).map (fun i => (i.zero, i.size, i.bytes)) = some (some (.int .u8 0), 1, 1) := by kernel_rfl
theorem info23 : (Try.prog.info? 23).map (fun i => (i.zero, i.size, i.bytes)) = some (some (.int .u32 0), 1, 4) := by kernel_rfl
theorem info44 : (Try.prog.info? 44).map (fun i => (i.zero, i.size, i.bytes)) = some (some (.agg #[(.int .u8 0), (.int .u32 0), (.slice none 0 0)]), 3, 32) := by kernel_rfl
-- the values' own types
/-! #### struct type 44 -/
structure S44 where
  f0 : Int
  f1 : Int
  f2 : (List Int)
def z44 : S44 := ⟨(0 : Int), (0 : Int), ([] : List Int)⟩
def k44 : Kd S44 := Kd.iso (Kd.pair (Kd.int .u8) (Kd.pair (Kd.int .u32) (Kd.slice 23 (Kd.int .u32)))) (fun x : S44 => (x.f0, x.f1, x.f2))
theorem k44_open {w : World} {x : S44} {cs : List Value} (h : k44.K w x cs) : ∃ A2 c2, cs = [.int .u8 x.f0, .int .u32 x.f1, .slice A2 x.f2.length c2] ∧ x.f2.length ≤ c2 ∧ (Kd.int .u32).C w A2 x.f2.length x.f2 := by
  obtain ⟨_, _, rfl, rfl, ⟨_, _, rfl, rfl, ⟨A2, c2, rfl, l2, g2⟩⟩⟩ := h
  exact ⟨A2, c2, rfl, l2, g2⟩
theorem k44_mkM (w : World) (base : Nat) (ok : Nat → Prop) (x : S44) {v2 : Value} (g2 : (Kd.int .u32).R 23 w base ok v2 x.f2) : k44.M w base ok x [.int .u8 x.f0, .int .u32 x.f1, v2] := ⟨[.int .u8 x.f0], [.int .u32 x.f1, v2], rfl, rfl, ⟨[.int .u32 x.f1], [v2], rfl, rfl, ⟨v2, rfl, g2⟩⟩⟩
def rd_T44 (xs : List S44) (i : Int) : S44 := xs.getD i.toNat z44
theorem at_T44 {w : World} {A : Option Addr} {n : Nat} {xs : List S44} (h : Kd.C k44 w A n xs) (i : Int) (h0 : 0 ≤ i) (h1 : i < n) : ∃ ad A2 c2, A = some ad ∧ w.cell? (ad.add (i.toNat * 3)) = some (.int .u8 (rd_T44 xs i).f0) ∧ w.cell? ⟨(ad.add (i.toNat * 3)).block, (ad.add (i.toNat * 3)).off + 1, none⟩ = some (.int .u32 (rd_T44 xs i).f1) ∧ w.cell? ⟨(ad.add (i.toNat * 3)).block, (ad.add (i.toNat * 3)).off + 2, none⟩ = some (.slice A2 (rd_T44 xs i).f2.length c2) ∧ (rd_T44 xs i).f2.length ≤ c2 ∧ (Kd.int .u32).C w A2 (rd_T44 xs i).f2.length (rd_T44 xs i).f2 := by
  obtain ⟨ad, c, e, _, hK, hc0⟩ := Kd.C_get h z44 i h0 h1
  have hc : ∀ j u, c[j]? = some u → w.cell? (ad.add (i.toNat * 3 + j)) = some u := hc0
  obtain ⟨A2, c2, rfl, l2, g2⟩ := k44_open hK
  exact ⟨ad, A2, c2, e, hc 0 _ rfl, by rw [← add_field _ _ 1 (by omega)]; exact hc 1 _ rfl, by rw [← add_field _ _ 2 (by omega)]; exact hc 2 _ rfl, l2, g2⟩

end Go.Proofs.Ytmmjmncchckbbaa.PIg
