/-
  A region that draws its order: what only reads is walked in the order of the text, in every world that meets S; what writes comes behind it in one forced order.
-/
import Derived.OrdersHeld
import Derived.WalkKit
import Derived.Below
namespace Go.Proofs.Ytkhljamellgcfaa
open Go.RowKit

/-- The reading part: each operation yields one value in every world that meets S. -/
def wpHeld (P : Program) (ops : Array Oper) (S : World → Prop) (Q : Act → Prop) : List Oper → Act → Prop
  | [], a => Q a
  | o :: rest, a => (Region.wanted o (yielded ops a.tmps) = true ∧ ∃ v, (∀ w, S w → (execOp a.eval o).run P w = .ok (.value v) w) ∧ wpHeld P ops S Q rest (a.put o.dst v)) ∨
      (Region.wanted o (yielded ops a.tmps) = false ∧ wpHeld P ops S Q rest (a.put o.dst undef))

/-- The part that writes. -/
def wpTail (P : Program) (ops : Array Oper) (S : World → Prop) (Q : Exit → Act → World → Prop) : List Oper → Act → World → Prop
  | [], a, w => Q .normal a w
  | o :: rest, a, w => o.wp P a w (fun a' w' => S w' ∧ wpTail P ops S Q rest a' w') Q

def marks : Nat → Nat → Array Bool → Array Bool
  | 0, _, l => l
  | n + 1, k, l => marks n (k + 1) (l.setIfInBounds k true)
def lexPre (md : Region.Mode) (ops : Array Oper) : Nat → Nat → Array Bool → Bool
  | 0, _, _ => true
  | n + 1, k, l => (Region.ready md ops l).contains k && Region.free md ops l k && lexPre md ops n (k + 1) (l.setIfInBounds k true)
def tailB (md : Region.Mode) (ops : Array Oper) : Nat → Nat → Array Bool → Bool
  | 0, _, l => Region.ready md ops l == []
  | n + 1, k, l => Region.ready md ops l == [k] && ((ops[k]?).map (·.guard.isNone)).getD false && tailB md ops n (k + 1) (l.setIfInBounds k true)

variable {P : Program} {ops : Array Oper} {Q : Exit → Act → World → Prop} {md : Region.Mode} {S : World → Prop}

theorem wpAnyH_tail : ∀ (l : List Oper) (k : Nat) (listed : Array Bool) (a : Act) (w : World), (∀ j, j < l.length → l[j]? = ops[k + j]?) → tailB md ops l.length k listed = true →
    wpTail P ops S Q l a w → wpAnyH P md ops Q S l.length listed a w
  | [], _, _, _, _, _, hB, h => ⟨by simpa [tailB] using hB, h⟩
  | o :: l, k, listed, a, w, hl, hB, h => by
    have h0 : ops[k]? = some o := by simpa using (hl 0 (by simp)).symm
    simp only [List.length_cons, tailB, Bool.and_eq_true, h0, Option.map_some, Option.getD_some, beq_iff_eq] at hB
    obtain ⟨⟨hr, hg⟩, hB'⟩ := hB
    refine wpAnyH_all hr (by simp) (fun i hi => ?_)
    obtain rfl : i = k := by simpa using hi
    unfold wpOp
    simp only [h0]
    have hg' : o.guard = none := by simpa using hg
    rw [if_pos (by simp [Region.wanted, hg'])]
    refine .inl (Oper.wp_mono (fun a' w' h' => ⟨h'.1, ?_⟩) h)
    exact wpAnyH_tail l (i + 1) _ a' w' (fun j hj => by have := hl (j + 1) (by simp; omega); simpa [Nat.add_assoc, Nat.add_comm 1 j] using this) hB' h'.2

theorem wpAnyH_pre (hs : Region.noSelect ops = true) (hQ : ∀ c a d v w, Q (.panic c) (Act.put a d v) w → Q (.panic c) a w) {fuel : Nat} {w : World} (hS : S w) :
    ∀ (l : List Oper) (k : Nat) (listed : Array Bool) (a : Act), (∀ j, j < l.length → l[j]? = ops[k + j]?) → lexPre md ops l.length k listed = true →
    wpHeld P ops S (fun a' => wpAnyH P md ops Q S fuel (marks l.length k listed) a' w) l a → wpAnyH P md ops Q S (fuel + l.length) listed a w
  | [], _, _, _, _, _, h => h
  | o :: l, k, listed, a, hl, hB, h => by
    have h0 : ops[k]? = some o := by simpa using (hl 0 (by simp)).symm
    simp only [List.length_cons, lexPre, Bool.and_eq_true] at hB
    obtain ⟨⟨hr, hf⟩, hB'⟩ := hB
    have hl' : ∀ j, j < l.length → l[j]? = ops[k + 1 + j]? := fun j hj => by have := hl (j + 1) (by simp; omega); simpa [Nat.add_assoc, Nat.add_comm 1 j] using this
    rcases h with ⟨hw, v, hv, h⟩ | ⟨hw, h⟩
    · exact wpAnyH_take h0 hs hf hr (fun c a w => hQ c a _ _ w) (.inl ⟨hw, hv⟩) hS (wpAnyH_pre hs hQ hS l (k + 1) _ _ hl' hB' h)
    · exact wpAnyH_take h0 hs hf hr (fun c a w => hQ c a _ _ w) (.inr ⟨hw, rfl⟩) hS (wpAnyH_pre hs hQ hS l (k + 1) _ _ hl' hB' h)

theorem wpHeld_mono {Q1 Q2 : Act → Prop} (hQ : ∀ a, Q1 a → Q2 a) : ∀ {l : List Oper} {a : Act}, wpHeld P ops S Q1 l a → wpHeld P ops S Q2 l a
  | [], _, h => hQ _ h
  | _ :: _, _, .inl ⟨hw, v, hv, h⟩ => .inl ⟨hw, v, hv, wpHeld_mono hQ h⟩
  | _ :: _, _, .inr ⟨hw, h⟩ => .inr ⟨hw, wpHeld_mono hQ h⟩

/-- The whole region. n: how many operations only read. -/
def regB (ops : Array Oper) (n : Nat) : Bool :=
  Region.noSelect ops && lexPre .any ops n 0 (Array.replicate ops.size false) && tailB .any ops (ops.size - n) n (marks n 0 (Array.replicate ops.size false))

theorem wp_reg {id : Nat} {a : Act} {w : World} {l : List Oper} (n : Nat) (S : World → Prop) (hm : P.follows .mixedOrders = true) (hB : regB l.toArray n = true) (hn : n ≤ l.length)
    (hQ : ∀ c a d v w, Q (.panic c) (Act.put a d v) w → Q (.panic c) a w) (hS : S w.drew)
    (h : wpHeld P l.toArray S (fun a' => wpTail P l.toArray S Q (l.drop n) a' w.drew) (l.take n) a) : (Code.region id l.toArray true).wp P Q a w := by
  simp only [regB, Bool.and_eq_true] at hB
  obtain ⟨⟨hs, hp⟩, ht⟩ := hB
  refine wp_region_held (S := S) hm ?_
  have hlen : (l.take n).length = n := by simp; omega
  have hd : (l.drop n).length = l.toArray.size - n := by simp
  have e : l.toArray.size = (l.drop n).length + (l.take n).length := by simp; omega
  generalize Array.replicate l.toArray.size false = z at *
  rw [e]
  refine wpAnyH_pre hs hQ hS (l.take n) 0 z a (fun j hj => ?_) ?_ ?_
  · rw [hlen] at hj
    simp [hj]
  · rw [hlen]; exact hp
  · rw [hlen]
    refine wpHeld_mono (fun a' h' => ?_) h
    refine wpAnyH_tail (l.drop n) n _ a' _ (fun j hj => ?_) ?_ h'
    · simp
    · rw [hd]; exact ht

/-- One step of the reading part, each way. -/
theorem wpHeld_go {Q : Act → Prop} {o : Oper} {rest : List Oper} {a : Act} {v : Value} (hw : Region.wanted o (yielded ops a.tmps) = true) (hv : ∀ w, S w → (execOp a.eval o).run P w = .ok (.value v) w)
    (h : wpHeld P ops S Q rest (a.put o.dst v)) : wpHeld P ops S Q (o :: rest) a := .inl ⟨hw, v, hv, h⟩
theorem wpHeld_skip {Q : Act → Prop} {o : Oper} {rest : List Oper} {a : Act} (hw : Region.wanted o (yielded ops a.tmps) = false)
    (h : wpHeld P ops S Q rest (a.put o.dst undef)) : wpHeld P ops S Q (o :: rest) a := .inr ⟨hw, h⟩
theorem wpHeld_goK {Q : Act → Prop} {o : Oper} {rest : List Oper} {a : Act} {v : Value} (hw : Region.wanted o (yielded ops a.tmps) = true) (hv : ∀ w, S w → (execOp a.eval o).run P w = .ok (.value v) w)
    (h : ∀ K : Act → Prop, (∀ a', wpHeld P ops S Q rest a' → K a') → K (a.put o.dst v)) : wpHeld P ops S Q (o :: rest) a := .inl ⟨hw, v, hv, h _ fun _ h => h⟩
theorem wpHeld_skipK {Q : Act → Prop} {o : Oper} {rest : List Oper} {a : Act} (hw : Region.wanted o (yielded ops a.tmps) = false)
    (h : ∀ K : Act → Prop, (∀ a', wpHeld P ops S Q rest a' → K a') → K (a.put o.dst undef)) : wpHeld P ops S Q (o :: rest) a := .inr ⟨hw, h _ fun _ h => h⟩
theorem wpHeld_nil {Q : Act → Prop} {a : Act} (h : Q a) : wpHeld P ops S Q [] a := h
theorem wpTail_step {o : Oper} {rest : List Oper} {a : Act} {w : World} (h : ∀ K : Act → World → Prop, (∀ a' w', S w' → wpTail P ops S Q rest a' w' → K a' w') → o.wp P a w K Q) : wpTail P ops S Q (o :: rest) a w :=
  h _ fun _ _ h1 h2 => ⟨h1, h2⟩
theorem wpTail_nil {a : Act} {w : World} (h : Q .normal a w) : wpTail P ops S Q [] a w := h
end Go.Proofs.Ytkhljamellgcfaa
