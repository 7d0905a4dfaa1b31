/-
  Package set: two sets at once.
-/
import Derived.Test.YtjncmiclpaodhaaSoI
import Derived.Test.YtjncmiclpaodhaaProg
import Derived.Test.YtjncmiclpaodhaaVWords
import Derived.Test.YtjncmiclpaodhaaVMore
import Derived.Test.YtjncmiclpaodhaaReg
import Derived.RegionTactic
import Derived.RegionIn
import Derived.BigRegion
import Derived.BigRegionIn
import Derived.Lib.Hide
import Derived.RangeFuncBox
import Derived.Maps.AppendAt
namespace Go.Proofs.Ytjncmiclpaodhaa
open Go.RowKit Go.Shelf Go.Proofs.YtjncmiclpaodhaaW.PrintWords
attribute [local go_sem] Oper.semAt_some

theorem readsInt_of_block {w w' : World} {k : IntKind} {A : Option Addr} {n : Nat} {xs : List Int} (h : ReadsInt w k A n xs) (hb : ∀ ad, A = some ad → 0 < n → w'.heap[ad.block]? = w.heap[ad.block]?) : ReadsInt w' k A n xs :=
  ⟨h.1, h.2.1, fun hn => by
    obtain ⟨ad, e, hc⟩ := h.2.2 hn
    refine ⟨ad, e, fun j hj => ?_⟩
    rw [World.cell?_of_block (w := w) (by rw [show (ad.add j).block = ad.block from by unfold Addr.add; split <;> rfl]; exact hb ad e hn)]
    exact hc j hj⟩

/-- What is in two sets, rising, and which has it. -/
def bothOf : List Int → List Int → List (Int × Bool × Bool)
  | [], [] => []
  | x :: a, [] => (x, true, false) :: bothOf a []
  | [], y :: b => (y, false, true) :: bothOf [] b
  | x :: a, y :: b =>
    if x < y then (x, true, false) :: bothOf a (y :: b)
    else if y < x then (y, false, true) :: bothOf (x :: a) b
    else (x, true, true) :: bothOf a b
termination_by a b => a.length + b.length

/-- One row's state: its box, where it lies, what is left of it. -/
def SideOf (w : World) (dat : Nat → Prop) (Bx : Nat) (l : List Int) : Prop :=
  ∃ A c, Boxed w Bx 24 (.slice A l.length c) ∧ l.length ≤ c ∧ ReadsInt w .u32 A l.length l ∧ ∀ ad, A = some ad → 0 < l.length → dat ad.block

theorem SideOf.keep {w w' : World} {dat : Nat → Prop} {Bx : Nat} {l : List Int} (h : SideOf w dat Bx l) (hb : w'.heap[Bx]? = w.heap[Bx]?) (hd : ∀ k, dat k → w'.heap[k]? = w.heap[k]?) : SideOf w' dat Bx l := by
  obtain ⟨A, c, h1, h2, h3, h4⟩ := h
  exact ⟨A, c, hb.trans h1, h2, readsInt_of_block h3 (fun ad e hp => hd _ (h4 ad e hp)), h4⟩

theorem SideOf.tail {w w' : World} {dat : Nat → Prop} {Bx : Nat} {x : Int} {l : List Int} {ad : Addr} {c : Nat} (h3 : ReadsInt w .u32 (some ad) (l.length + 1) (x :: l)) (h2 : l.length + 1 ≤ c) (h4 : dat ad.block)
    (hb : Boxed w' Bx 24 (.slice (if c = 1 then some ad else some { block := ad.block, off := ad.off + 1 }) l.length (c - 1))) (hd : ∀ k, dat k → w'.heap[k]? = w.heap[k]?) : SideOf w' dat Bx l := by
  refine ⟨_, _, hb, by omega, ⟨rfl, by have := h3.2.1; omega, fun hp => ?_⟩, fun a e hp => ?_⟩
  · rw [if_neg (by omega)]
    refine ⟨_, rfl, fun j hj => ?_⟩
    obtain ⟨ad', e, hc⟩ := h3.2.2 (by omega)
    cases e
    have := hc (j + 1) (by omega)
    rw [List.getD_cons_succ] at this
    rw [← this, World.cell?_of_block (w := w) (by rw [show (Addr.add { block := ad.block, off := ad.off + 1 } j).block = ad.block from by unfold Addr.add; split <;> rfl]; exact hd _ h4)]
    congr 1
    unfold Addr.add
    simp only [Nat.add_eq_zero_iff, Nat.succ_ne_self, and_false, if_false]
    split
    · rename_i h; subst h; simp
    · simp only [Addr.mk.injEq, true_and, and_true]; omega
  · rw [if_neg (by omega)] at e
    cases e
    exact h4

theorem cell_of_block {w : World} {b i : Nat} {cs : Array Value} {t : TypeId} {fr : Nat × Nat} (h : w.heap[b]? = some (.cells cs t fr)) : w.cell? ⟨b, i, none⟩ = cs[i]? := by
  simp [World.cell?, h]

set_option maxRecDepth 100000 in
set_option maxHeartbeats 8000000 in
theorem both_iter (Ba Bb : Nat) (la lb : List Int) (hla : la.length ≤ 140737488351232) (hlb : lb.length ≤ 140737488351232) (hne : Ba ≠ Bb) (dat : Nat → Prop) (hd1 : ¬ dat Ba) (hd2 : ¬ dat Bb)
    (w : World) (hdw : ∀ k, dat k → k < w.heap.size) (h1 : SideOf w dat Ba la) (h2 : SideOf w dat Bb lb) :
    Iter Try.prog 78 #[.pointer (some ⟨Ba, 0, none⟩), .pointer (some ⟨Bb, 0, none⟩)] (fun x : Int × Bool × Bool => #[.int .u32 x.1, .agg #[.bool x.2.1, .bool x.2.2]]) (bothOf la lb) (fun k => k = Ba ∨ k = Bb ∨ dat k) (fun k => k = Ba ∨ k = Bb) w := by
  refine ⟨?_, ?_⟩
  · obtain ⟨A, c, h, _⟩ := h1
    obtain ⟨A', c', h', _⟩ := h2
    rintro k (rfl | rfl | h3)
    · exact h.lt
    · exact h'.lt
    · exact hdw k h3
  intro l J φ W hW hex hst hdis hround h0
  have h1' : SideOf W dat Ba la := h1.keep (hW.block _ (by obtain ⟨A, c, h, _⟩ := h1; exact h.lt) (fun h => h (.inl rfl))) (fun k hk => hW.block _ (hdw k hk) (fun h => h (.inr (.inr hk))))
  have h2' : SideOf W dat Bb lb := h2.keep (hW.block _ (by obtain ⟨A, c, h, _⟩ := h2; exact h.lt) (fun h => h (.inr (.inl rfl)))) (fun k hk => hW.block _ (hdw k hk) (fun h => h (.inr (.inr hk))))
  have h1lt : Ba < W.heap.size := by obtain ⟨A, c, hb, _⟩ := h1'; exact hb.lt
  have h2lt : Bb < W.heap.size := by obtain ⟨A, c, hb, _⟩ := h2'; exact hb.lt
  have hdW : ∀ k, dat k → k < W.heap.size := fun k hk => Nat.lt_of_lt_of_le (hdw k hk) hW.size
  clear h1 h2 hW hdw
  refine callsIn_of_wp Try.func78 rfl trivial ?_ rfl
  simp only [Try.ntmps78, List.size_toArray, List.length_cons, List.length_nil, Nat.reduceAdd, Nat.reduceSub, Array.replicate_succ, Array.replicate_zero, List.push_toArray, List.append_toArray, List.nil_append, List.cons_append]
  gi_wp2
  gi_loopw [] (fun wr => ∃ (pre : List (Int × Bool × Bool)) (ra rb : List Int) (ψ : Nat → Prop), bothOf la lb = pre ++ bothOf ra rb ∧ ra.length ≤ la.length ∧ rb.length ≤ lb.length ∧ J pre ψ wr ∧ (∀ k, ψ k → φ k ∨ W.heap.size ≤ k) ∧
      SideOf wr dat Ba ra ∧ SideOf wr dat Bb rb ∧ Off (fun k => φ k ∨ k = Ba ∨ k = Bb) W wr)
    (fun wr => match wr.cell? ⟨Ba, 0, none⟩, wr.cell? ⟨Bb, 0, none⟩ with | some (.slice _ n _), some (.slice _ m _) => n + m | _, _ => 0)
  case atStart => exact ⟨[], la, lb, φ, rfl, Nat.le_refl _, Nat.le_refl _, h0, fun _ => .inl, h1', h2', Off.refl _ _⟩
  case round =>
    obtain ⟨pre, ra, rb, ψ, hpre, hra, hrb, hJ, hψ, ⟨A, ca, b1, n1, r1, q1⟩, ⟨B, cb, b2, n2, r2, q2⟩, hO⟩ := hrel
    have c1 := b1.cell
    have c2 := b2.cell
    clear h1' h2'
    have v1 : ¬ ψ Ba := fun h => by rcases hψ _ h with h | h; exact hdis _ h (.inl rfl); omega
    have v2 : ¬ ψ Bb := fun h => by rcases hψ _ h with h | h; exact hdis _ h (.inr (.inl rfl)); omega
    have v3 : ∀ k, dat k → ¬ ψ k := fun k hk h => by rcases hψ _ h with h | h; exact hdis _ h (.inr (.inr hk)); have := hdW k hk; omega
    have zr := hO.size
    have fin : ∀ (W2 W4 : World) (ψ' : Nat → Prop), Off (fun k => k = Ba ∨ k = Bb) wr W2 → Off ψ W2 W4 → (∀ k, ψ' k → ψ k ∨ W2.heap.size ≤ k) →
        (∀ k, dat k → W4.heap[k]? = wr.heap[k]?) ∧ (∀ k, ψ' k → φ k ∨ W.heap.size ≤ k) ∧ Off (fun k => φ k ∨ k = Ba ∨ k = Bb) W W4 := by
      intro W2 W4 ψ' o1 o2 h3
      have z2 := o1.size
      refine ⟨fun k hk => ?_, fun k hk => ?_, ?_⟩
      · have := hdW k hk
        exact (o2.block k (by omega) (v3 k hk)).trans (o1.block k (by omega) (fun h => by rcases h with rfl | rfl; exact hd1 hk; exact hd2 hk))
      · rcases h3 k hk with h | h
        · exact hψ k h
        · exact .inr (by omega)
      · refine (hO.then_ o1 (fun i hi h => .inr h)).then_ o2 (fun i hi h => ?_)
        rcases hψ i h with h | h
        · exact .inl h
        · omega
    cases ra with
    | nil =>
      cases rb with
      | nil =>
        gi_wp2
        go_end0
        exact ⟨⟨_, rfl⟩, ψ, hψ, by rw [hpre, bothOf]; simpa using hJ, hO⟩
      | cons y rb =>
        obtain ⟨bd, rfl, hc2⟩ := r2.2.2 (by simp)
        have a1 := hc2 0 (by simp)
        simp [Addr.add] at a1
        have g2 : (((rb.length : Int) + 1) == 0) = false := by simp; omega
        clear hc2
        have m2 := q2 bd rfl (by simp)
        simp only [List.length_cons, List.length_nil] at hra hrb n1 n2 r1 r2 b1 b2 c1 c2
        gi_wp2
        rw [wpIn_wide]
        have HC : ∀ w', Below wr.heap.size wr w' → w'.cell? ⟨Ba, 0, none⟩ = some (.slice A 0 ca) ∧ w'.cell? ⟨Bb, 0, none⟩ = some (.slice (some bd) (rb.length + 1) cb) := fun w' h => ⟨pw_cell_below h c1, pw_cell_below h c2⟩
        refine wp_reg 35 (fun w' => Below wr.heap.size wr w') (by kernel_rfl) (by kernel_rfl) (by decide) (fun _ _ d _ _ h => by cases d <;> exact h) (Below.refl _ _).drew ?_
        simp only [List.take_succ_cons, List.take_zero, List.drop_succ_cons, List.drop_zero]
        repeat (first | (apply wpHeld_goK rfl; (focus (intro w' hw'; go_simp; try rfl)); intro K hK; go_simp; refine hK _ ?_; clear hK K) | (refine wpHeld_skipK rfl (fun K hK => ?_); go_simp; refine hK _ ?_; clear hK K))
        refine wpHeld_nil ?_
        refine wpTail_step (fun K hK => ?_)
        go_simp
        refine hK _ _ ?_ ?_
        · exact ((Below.refl _ _).alloc (Nat.le_refl _) _).drew
        clear hK K
        refine wpTail_step (fun K hK => ?_)
        go_simp
        refine hK _ _ ?_ ?_
        · exact ((Below.refl _ _).alloc (Nat.le_refl _) _).drew
        clear hK K
        refine wpTail_nil ?_
        clear HC
        obtain ⟨W1, hW1⟩ : ∃ W1, (wr.alloc (.cells #[.bool false, .bool true] 88)).drew = W1 := ⟨_, rfl⟩
        have O1 : ∀ χ, Off χ wr W1 := fun χ => by rw [← hW1]; exact ((Off.refl χ wr).alloc _).drew
        have z1 : W1.heap.size = wr.heap.size + 1 := by rw [← hW1]; simp
        have hb1 : W1.heap[wr.heap.size]? = some (.cells #[.bool false, .bool true] 88 (0, 0)) := by rw [← hW1]; exact World.alloc_heap_new wr _
        have t1 : W1.cell? ⟨wr.heap.size, 0, none⟩ = some (.bool false) := cell_of_block hb1
        have t2 : W1.cell? ⟨wr.heap.size, 1, none⟩ = some (.bool true) := cell_of_block hb1
        have d1 : Boxed W1 Ba 24 (.slice A 0 ca) := ((O1 (fun _ => False)).block _ b1.lt id).trans b1
        have d2 : Boxed W1 Bb 24 (.slice (some bd) (rb.length + 1) cb) := ((O1 (fun _ => False)).block _ b2.lt id).trans b2
        have k1 := d1.cell
        have k2 := d1.frozen
        have k3 := d2.cell
        have k4 := d2.frozen
        have k6 := ((O1 (fun _ => False)).cell (World.block_lt_of_cell? wr _ a1) id).trans a1
        rw [hW1]
        clear hW1 c1 c2
        gi_wp2
        rw [wpIn_wide]
        go_region
        obtain ⟨Bbd, hBbd⟩ : ∃ A_ : Option Addr, (if cb = 1 then some bd else some { block := bd.block, off := bd.off + 1 }) = A_ := ⟨_, rfl⟩
        rw [hBbd]
        have HBbd := Lib.hid hBbd
        clear hBbd
        obtain ⟨W3, hW3⟩ : ∃ W_, (W1.setCell ⟨Bb, 0, none⟩ (.slice Bbd rb.length (cb - 1))).drew = W_ := ⟨_, rfl⟩
        have d2' : Boxed W3 Bb 24 (.slice Bbd rb.length (cb - 1)) := by rw [← hW3]; exact Boxed.set _ d2
        have OW3 : Off (fun k => k = Bb) W1 W3 := by rw [← hW3]; exact ((Off.refl (fun k => k = Bb) W1).setCell (p := ⟨Bb, 0, none⟩) (fun _ => rfl) _).drew
        have zW3 : W3.heap.size = wr.heap.size + 1 := by rw [← hW3]; simpa [World.setCell] using z1
        have d1' : Boxed W3 Ba 24 (.slice A 0 ca) := (OW3.block _ (Boxed.lt d1) (fun h => hne h)).trans d1
        have hbW3 : W3.heap[wr.heap.size]? = some (.cells #[.bool false, .bool true] 88 (0, 0)) := (OW3.block _ (by omega) (fun h => by have := b1.lt; have := b2.lt; omega)).trans hb1
        rw [hW3]
        clear hW3 d1 d2 t1 t2 k1 k2 k3 k4
        clear k6
        have d1 := d1'
        have d2 := d2'
        clear d1' d2'
        have t1 : W3.cell? ⟨wr.heap.size, 0, none⟩ = some (.bool false) := cell_of_block hbW3
        have t2 : W3.cell? ⟨wr.heap.size, 1, none⟩ = some (.bool true) := cell_of_block hbW3
        have k1 := Boxed.cell d1
        have k2 := Boxed.frozen d1
        have k3 := Boxed.cell d2
        have k4 := Boxed.frozen d2
        have O3 : Off (fun k => k = Ba ∨ k = Bb) wr W3 := (O1 (fun k => k = Ba ∨ k = Bb)).then_ OW3 (fun _ _ h => .inr h)
        have hJ2 : J pre ψ W3 := hst _ _ _ _ hJ (O3.mono (fun k _ e h => by rcases e with rfl | rfl; exact v1 h; exact v2 h))
        obtain ⟨fn, tmps, assign, body, hy, hR⟩ := hround pre (y, false, true) ψ W3 hJ2 (by rw [hpre, bothOf]; simp)
        dsimp only at hy
        gi_wp2
        refine ⟨rfl, ?_⟩
        refine hR.mono ?_
        rintro e W4 ⟨rfl, ψ', hψ', hJ3, hO3⟩
        obtain ⟨f1, f2, f3⟩ := fin W3 W4 ψ' O3 hO3 hψ'
        have p1 : Boxed W4 Ba 24 (.slice A 0 ca) := (hO3.block _ (Boxed.lt d1) v1).trans d1
        have p2 : Boxed W4 Bb 24 (.slice Bbd rb.length (cb - 1)) := (hO3.block _ (Boxed.lt d2) v2).trans d2
        gi_wp2
        go_roundw
        case rel =>
          refine ⟨pre ++ [(y, false, true)], [], rb, ψ', by rw [hpre, bothOf]; simp, by first | omega | (simp; omega), by first | omega | (simp; omega), hJ3, f2, ?_, ?_, f3⟩
          · exact SideOf.keep ⟨_, _, b1, n1, r1, q1⟩ (p1.trans b1.symm) f1
          · exact SideOf.tail r2 n2 m2 (by rw [HBbd.out]; exact p2) f1
        case measure =>
          rw [p1.cell, p2.cell, b1.cell, b2.cell]
          simp only []
          omega
    | cons x ra =>
      cases rb with
      | nil =>
        obtain ⟨ad, rfl, hc1⟩ := r1.2.2 (by simp)
        have a0 := hc1 0 (by simp)
        simp [Addr.add] at a0
        have g1 : (((ra.length : Int) + 1) == 0) = false := by simp; omega
        clear hc1
        have m1 := q1 ad rfl (by simp)
        simp only [List.length_cons, List.length_nil] at hra hrb n1 n2 r1 r2 b1 b2 c1 c2
        gi_wp2
        rw [wpIn_wide]
        have HC : ∀ w', Below wr.heap.size wr w' → w'.cell? ⟨Ba, 0, none⟩ = some (.slice (some ad) (ra.length + 1) ca) ∧ w'.cell? ⟨Bb, 0, none⟩ = some (.slice B 0 cb) := fun w' h => ⟨pw_cell_below h c1, pw_cell_below h c2⟩
        refine wp_reg 35 (fun w' => Below wr.heap.size wr w') (by kernel_rfl) (by kernel_rfl) (by decide) (fun _ _ d _ _ h => by cases d <;> exact h) (Below.refl _ _).drew ?_
        simp only [List.take_succ_cons, List.take_zero, List.drop_succ_cons, List.drop_zero]
        repeat (first | (apply wpHeld_goK rfl; (focus (intro w' hw'; go_simp; try rfl)); intro K hK; go_simp; refine hK _ ?_; clear hK K) | (refine wpHeld_skipK rfl (fun K hK => ?_); go_simp; refine hK _ ?_; clear hK K))
        refine wpHeld_nil ?_
        refine wpTail_step (fun K hK => ?_)
        go_simp
        refine hK _ _ ?_ ?_
        · exact ((Below.refl _ _).alloc (Nat.le_refl _) _).drew
        clear hK K
        refine wpTail_step (fun K hK => ?_)
        go_simp
        refine hK _ _ ?_ ?_
        · exact ((Below.refl _ _).alloc (Nat.le_refl _) _).drew
        clear hK K
        refine wpTail_nil ?_
        clear HC
        obtain ⟨W1, hW1⟩ : ∃ W1, (wr.alloc (.cells #[.bool true, .bool false] 88)).drew = W1 := ⟨_, rfl⟩
        have O1 : ∀ χ, Off χ wr W1 := fun χ => by rw [← hW1]; exact ((Off.refl χ wr).alloc _).drew
        have z1 : W1.heap.size = wr.heap.size + 1 := by rw [← hW1]; simp
        have hb1 : W1.heap[wr.heap.size]? = some (.cells #[.bool true, .bool false] 88 (0, 0)) := by rw [← hW1]; exact World.alloc_heap_new wr _
        have t1 : W1.cell? ⟨wr.heap.size, 0, none⟩ = some (.bool true) := cell_of_block hb1
        have t2 : W1.cell? ⟨wr.heap.size, 1, none⟩ = some (.bool false) := cell_of_block hb1
        have d1 : Boxed W1 Ba 24 (.slice (some ad) (ra.length + 1) ca) := ((O1 (fun _ => False)).block _ b1.lt id).trans b1
        have d2 : Boxed W1 Bb 24 (.slice B 0 cb) := ((O1 (fun _ => False)).block _ b2.lt id).trans b2
        have k1 := d1.cell
        have k2 := d1.frozen
        have k3 := d2.cell
        have k4 := d2.frozen
        have k5 := ((O1 (fun _ => False)).cell (World.block_lt_of_cell? wr _ a0) id).trans a0
        rw [hW1]
        clear hW1 c1 c2
        gi_wp2
        rw [wpIn_wide]
        go_region
        obtain ⟨Aa, hAa⟩ : ∃ A_ : Option Addr, (if ca = 1 then some ad else some { block := ad.block, off := ad.off + 1 }) = A_ := ⟨_, rfl⟩
        rw [hAa]
        have HAa := Lib.hid hAa
        clear hAa
        obtain ⟨W2, hW2⟩ : ∃ W_, (W1.setCell ⟨Ba, 0, none⟩ (.slice Aa ra.length (ca - 1))).drew = W_ := ⟨_, rfl⟩
        have d1' : Boxed W2 Ba 24 (.slice Aa ra.length (ca - 1)) := by rw [← hW2]; exact Boxed.set _ d1
        have OW2 : Off (fun k => k = Ba) W1 W2 := by rw [← hW2]; exact ((Off.refl (fun k => k = Ba) W1).setCell (p := ⟨Ba, 0, none⟩) (fun _ => rfl) _).drew
        have zW2 : W2.heap.size = wr.heap.size + 1 := by rw [← hW2]; simpa [World.setCell] using z1
        have d2' : Boxed W2 Bb 24 (.slice B 0 cb) := (OW2.block _ (Boxed.lt d2) (fun h => hne h.symm)).trans d2
        have hbW2 : W2.heap[wr.heap.size]? = some (.cells #[.bool true, .bool false] 88 (0, 0)) := (OW2.block _ (by omega) (fun h => by have := b1.lt; have := b2.lt; omega)).trans hb1
        rw [hW2]
        clear hW2 d1 d2 t1 t2 k1 k2 k3 k4
        clear k5
        have d1 := d1'
        have d2 := d2'
        clear d1' d2'
        have t1 : W2.cell? ⟨wr.heap.size, 0, none⟩ = some (.bool true) := cell_of_block hbW2
        have t2 : W2.cell? ⟨wr.heap.size, 1, none⟩ = some (.bool false) := cell_of_block hbW2
        have k1 := Boxed.cell d1
        have k2 := Boxed.frozen d1
        have k3 := Boxed.cell d2
        have k4 := Boxed.frozen d2
        have O3 : Off (fun k => k = Ba ∨ k = Bb) wr W2 := (O1 (fun k => k = Ba ∨ k = Bb)).then_ OW2 (fun _ _ h => .inl h)
        have hJ2 : J pre ψ W2 := hst _ _ _ _ hJ (O3.mono (fun k _ e h => by rcases e with rfl | rfl; exact v1 h; exact v2 h))
        obtain ⟨fn, tmps, assign, body, hy, hR⟩ := hround pre (x, true, false) ψ W2 hJ2 (by rw [hpre, bothOf]; simp)
        dsimp only at hy
        gi_wp2
        refine ⟨rfl, ?_⟩
        refine hR.mono ?_
        rintro e W4 ⟨rfl, ψ', hψ', hJ3, hO3⟩
        obtain ⟨f1, f2, f3⟩ := fin W2 W4 ψ' O3 hO3 hψ'
        have p1 : Boxed W4 Ba 24 (.slice Aa ra.length (ca - 1)) := (hO3.block _ (Boxed.lt d1) v1).trans d1
        have p2 : Boxed W4 Bb 24 (.slice B 0 cb) := (hO3.block _ (Boxed.lt d2) v2).trans d2
        gi_wp2
        go_roundw
        case rel =>
          refine ⟨pre ++ [(x, true, false)], ra, [], ψ', by rw [hpre, bothOf]; simp, by first | omega | (simp; omega), by first | omega | (simp; omega), hJ3, f2, ?_, ?_, f3⟩
          · exact SideOf.tail r1 n1 m1 (by rw [HAa.out]; exact p1) f1
          · exact SideOf.keep ⟨_, _, b2, n2, r2, q2⟩ (p2.trans b2.symm) f1
        case measure =>
          rw [p1.cell, p2.cell, b1.cell, b2.cell]
          simp only []
          omega
      | cons y rb =>
        by_cases hxy : x < y
        · have e1 : decide (x ≤ y) = true := by simp; omega
          have e2 : decide (y ≤ x) = false := by simp; omega
          obtain ⟨ad, rfl, hc1⟩ := r1.2.2 (by simp)
          have a0 := hc1 0 (by simp)
          simp [Addr.add] at a0
          have g1 : (((ra.length : Int) + 1) == 0) = false := by simp; omega
          clear hc1
          have m1 := q1 ad rfl (by simp)
          obtain ⟨bd, rfl, hc2⟩ := r2.2.2 (by simp)
          have a1 := hc2 0 (by simp)
          simp [Addr.add] at a1
          have g2 : (((rb.length : Int) + 1) == 0) = false := by simp; omega
          clear hc2
          have m2 := q2 bd rfl (by simp)
          simp only [List.length_cons] at hra hrb n1 n2 r1 r2 b1 b2 c1 c2
          gi_wp2
          rw [wpIn_wide]
          have HC : ∀ w', Below wr.heap.size wr w' → w'.cell? ⟨Ba, 0, none⟩ = some (.slice (some ad) (ra.length + 1) ca) ∧ w'.cell? ⟨Bb, 0, none⟩ = some (.slice (some bd) (rb.length + 1) cb) ∧ w'.cell? ad = some (.int .u32 x) ∧ w'.cell? bd = some (.int .u32 y) := fun w' h => ⟨pw_cell_below h c1, pw_cell_below h c2, pw_cell_below h a0, pw_cell_below h a1⟩
          refine wp_reg 35 (fun w' => Below wr.heap.size wr w') (by kernel_rfl) (by kernel_rfl) (by decide) (fun _ _ d _ _ h => by cases d <;> exact h) (Below.refl _ _).drew ?_
          simp only [List.take_succ_cons, List.take_zero, List.drop_succ_cons, List.drop_zero]
          repeat (first | (apply wpHeld_goK rfl; (focus (intro w' hw'; go_simp; try rfl)); intro K hK; go_simp; refine hK _ ?_; clear hK K) | (refine wpHeld_skipK rfl (fun K hK => ?_); go_simp; refine hK _ ?_; clear hK K))
          refine wpHeld_nil ?_
          refine wpTail_step (fun K hK => ?_)
          go_simp
          refine hK _ _ ?_ ?_
          · exact ((Below.refl _ _).alloc (Nat.le_refl _) _).drew
          clear hK K
          refine wpTail_step (fun K hK => ?_)
          go_simp
          refine hK _ _ ?_ ?_
          · exact ((Below.refl _ _).alloc (Nat.le_refl _) _).drew
          clear hK K
          refine wpTail_nil ?_
          clear HC
          obtain ⟨W1, hW1⟩ : ∃ W1, (wr.alloc (.cells #[.bool true, .bool false] 88)).drew = W1 := ⟨_, rfl⟩
          have O1 : ∀ χ, Off χ wr W1 := fun χ => by rw [← hW1]; exact ((Off.refl χ wr).alloc _).drew
          have z1 : W1.heap.size = wr.heap.size + 1 := by rw [← hW1]; simp
          have hb1 : W1.heap[wr.heap.size]? = some (.cells #[.bool true, .bool false] 88 (0, 0)) := by rw [← hW1]; exact World.alloc_heap_new wr _
          have t1 : W1.cell? ⟨wr.heap.size, 0, none⟩ = some (.bool true) := cell_of_block hb1
          have t2 : W1.cell? ⟨wr.heap.size, 1, none⟩ = some (.bool false) := cell_of_block hb1
          have d1 : Boxed W1 Ba 24 (.slice (some ad) (ra.length + 1) ca) := ((O1 (fun _ => False)).block _ b1.lt id).trans b1
          have d2 : Boxed W1 Bb 24 (.slice (some bd) (rb.length + 1) cb) := ((O1 (fun _ => False)).block _ b2.lt id).trans b2
          have k1 := d1.cell
          have k2 := d1.frozen
          have k3 := d2.cell
          have k4 := d2.frozen
          have k5 := ((O1 (fun _ => False)).cell (World.block_lt_of_cell? wr _ a0) id).trans a0
          have k6 := ((O1 (fun _ => False)).cell (World.block_lt_of_cell? wr _ a1) id).trans a1
          rw [hW1]
          clear hW1 c1 c2
          gi_wp2
          rw [wpIn_wide]
          go_region
          obtain ⟨Aa, hAa⟩ : ∃ A_ : Option Addr, (if ca = 1 then some ad else some { block := ad.block, off := ad.off + 1 }) = A_ := ⟨_, rfl⟩
          rw [hAa]
          have HAa := Lib.hid hAa
          clear hAa
          obtain ⟨W2, hW2⟩ : ∃ W_, (W1.setCell ⟨Ba, 0, none⟩ (.slice Aa ra.length (ca - 1))).drew = W_ := ⟨_, rfl⟩
          have d1' : Boxed W2 Ba 24 (.slice Aa ra.length (ca - 1)) := by rw [← hW2]; exact Boxed.set _ d1
          have OW2 : Off (fun k => k = Ba) W1 W2 := by rw [← hW2]; exact ((Off.refl (fun k => k = Ba) W1).setCell (p := ⟨Ba, 0, none⟩) (fun _ => rfl) _).drew
          have zW2 : W2.heap.size = wr.heap.size + 1 := by rw [← hW2]; simpa [World.setCell] using z1
          have d2' : Boxed W2 Bb 24 (.slice (some bd) (rb.length + 1) cb) := (OW2.block _ (Boxed.lt d2) (fun h => hne h.symm)).trans d2
          have hbW2 : W2.heap[wr.heap.size]? = some (.cells #[.bool true, .bool false] 88 (0, 0)) := (OW2.block _ (by omega) (fun h => by have := b1.lt; have := b2.lt; omega)).trans hb1
          rw [hW2]
          clear hW2 d1 d2 t1 t2 k1 k2 k3 k4
          clear k5
          have d1 := d1'
          have d2 := d2'
          clear d1' d2'
          have t1 : W2.cell? ⟨wr.heap.size, 0, none⟩ = some (.bool true) := cell_of_block hbW2
          have t2 : W2.cell? ⟨wr.heap.size, 1, none⟩ = some (.bool false) := cell_of_block hbW2
          have k1 := Boxed.cell d1
          have k2 := Boxed.frozen d1
          have k3 := Boxed.cell d2
          have k4 := Boxed.frozen d2
          clear k6
          have O3 : Off (fun k => k = Ba ∨ k = Bb) wr W2 := (O1 (fun k => k = Ba ∨ k = Bb)).then_ OW2 (fun _ _ h => .inl h)
          have hJ2 : J pre ψ W2 := hst _ _ _ _ hJ (O3.mono (fun k _ e h => by rcases e with rfl | rfl; exact v1 h; exact v2 h))
          obtain ⟨fn, tmps, assign, body, hy, hR⟩ := hround pre (x, true, false) ψ W2 hJ2 (by rw [hpre, bothOf, if_pos (by omega)]; simp)
          dsimp only at hy
          gi_wp2
          refine ⟨rfl, ?_⟩
          refine hR.mono ?_
          rintro e W4 ⟨rfl, ψ', hψ', hJ3, hO3⟩
          obtain ⟨f1, f2, f3⟩ := fin W2 W4 ψ' O3 hO3 hψ'
          have p1 : Boxed W4 Ba 24 (.slice Aa ra.length (ca - 1)) := (hO3.block _ (Boxed.lt d1) v1).trans d1
          have p2 : Boxed W4 Bb 24 (.slice (some bd) (rb.length + 1) cb) := (hO3.block _ (Boxed.lt d2) v2).trans d2
          gi_wp2
          go_roundw
          case rel =>
            refine ⟨pre ++ [(x, true, false)], ra, (y :: rb), ψ', by rw [hpre, bothOf, if_pos (by omega)]; simp, by first | omega | (simp; omega), by first | omega | (simp; omega), hJ3, f2, ?_, ?_, f3⟩
            · exact SideOf.tail r1 n1 m1 (by rw [HAa.out]; exact p1) f1
            · exact SideOf.keep ⟨_, _, b2, n2, r2, q2⟩ (p2.trans b2.symm) f1
          case measure =>
            rw [p1.cell, p2.cell, b1.cell, b2.cell]
            simp only []
            omega
        · by_cases hyx : y < x
          · have e1 : decide (x ≤ y) = false := by simp; omega
            have e2 : decide (y ≤ x) = true := by simp; omega
            obtain ⟨ad, rfl, hc1⟩ := r1.2.2 (by simp)
            have a0 := hc1 0 (by simp)
            simp [Addr.add] at a0
            have g1 : (((ra.length : Int) + 1) == 0) = false := by simp; omega
            clear hc1
            have m1 := q1 ad rfl (by simp)
            obtain ⟨bd, rfl, hc2⟩ := r2.2.2 (by simp)
            have a1 := hc2 0 (by simp)
            simp [Addr.add] at a1
            have g2 : (((rb.length : Int) + 1) == 0) = false := by simp; omega
            clear hc2
            have m2 := q2 bd rfl (by simp)
            simp only [List.length_cons] at hra hrb n1 n2 r1 r2 b1 b2 c1 c2
            gi_wp2
            rw [wpIn_wide]
            have HC : ∀ w', Below wr.heap.size wr w' → w'.cell? ⟨Ba, 0, none⟩ = some (.slice (some ad) (ra.length + 1) ca) ∧ w'.cell? ⟨Bb, 0, none⟩ = some (.slice (some bd) (rb.length + 1) cb) ∧ w'.cell? ad = some (.int .u32 x) ∧ w'.cell? bd = some (.int .u32 y) := fun w' h => ⟨pw_cell_below h c1, pw_cell_below h c2, pw_cell_below h a0, pw_cell_below h a1⟩
            refine wp_reg 35 (fun w' => Below wr.heap.size wr w') (by kernel_rfl) (by kernel_rfl) (by decide) (fun _ _ d _ _ h => by cases d <;> exact h) (Below.refl _ _).drew ?_
            simp only [List.take_succ_cons, List.take_zero, List.drop_succ_cons, List.drop_zero]
            repeat (first | (apply wpHeld_goK rfl; (focus (intro w' hw'; go_simp; try rfl)); intro K hK; go_simp; refine hK _ ?_; clear hK K) | (refine wpHeld_skipK rfl (fun K hK => ?_); go_simp; refine hK _ ?_; clear hK K))
            refine wpHeld_nil ?_
            refine wpTail_step (fun K hK => ?_)
            go_simp
            refine hK _ _ ?_ ?_
            · exact ((Below.refl _ _).alloc (Nat.le_refl _) _).drew
            clear hK K
            refine wpTail_step (fun K hK => ?_)
            go_simp
            refine hK _ _ ?_ ?_
            · exact ((Below.refl _ _).alloc (Nat.le_refl _) _).drew
            clear hK K
            refine wpTail_nil ?_
            clear HC
            obtain ⟨W1, hW1⟩ : ∃ W1, (wr.alloc (.cells #[.bool false, .bool true] 88)).drew = W1 := ⟨_, rfl⟩
            have O1 : ∀ χ, Off χ wr W1 := fun χ => by rw [← hW1]; exact ((Off.refl χ wr).alloc _).drew
            have z1 : W1.heap.size = wr.heap.size + 1 := by rw [← hW1]; simp
            have hb1 : W1.heap[wr.heap.size]? = some (.cells #[.bool false, .bool true] 88 (0, 0)) := by rw [← hW1]; exact World.alloc_heap_new wr _
            have t1 : W1.cell? ⟨wr.heap.size, 0, none⟩ = some (.bool false) := cell_of_block hb1
            have t2 : W1.cell? ⟨wr.heap.size, 1, none⟩ = some (.bool true) := cell_of_block hb1
            have d1 : Boxed W1 Ba 24 (.slice (some ad) (ra.length + 1) ca) := ((O1 (fun _ => False)).block _ b1.lt id).trans b1
            have d2 : Boxed W1 Bb 24 (.slice (some bd) (rb.length + 1) cb) := ((O1 (fun _ => False)).block _ b2.lt id).trans b2
            have k1 := d1.cell
            have k2 := d1.frozen
            have k3 := d2.cell
            have k4 := d2.frozen
            have k5 := ((O1 (fun _ => False)).cell (World.block_lt_of_cell? wr _ a0) id).trans a0
            have k6 := ((O1 (fun _ => False)).cell (World.block_lt_of_cell? wr _ a1) id).trans a1
            rw [hW1]
            clear hW1 c1 c2
            gi_wp2
            rw [wpIn_wide]
            go_region
            obtain ⟨Bbd, hBbd⟩ : ∃ A_ : Option Addr, (if cb = 1 then some bd else some { block := bd.block, off := bd.off + 1 }) = A_ := ⟨_, rfl⟩
            rw [hBbd]
            have HBbd := Lib.hid hBbd
            clear hBbd
            obtain ⟨W3, hW3⟩ : ∃ W_, (W1.setCell ⟨Bb, 0, none⟩ (.slice Bbd rb.length (cb - 1))).drew = W_ := ⟨_, rfl⟩
            have d2' : Boxed W3 Bb 24 (.slice Bbd rb.length (cb - 1)) := by rw [← hW3]; exact Boxed.set _ d2
            have OW3 : Off (fun k => k = Bb) W1 W3 := by rw [← hW3]; exact ((Off.refl (fun k => k = Bb) W1).setCell (p := ⟨Bb, 0, none⟩) (fun _ => rfl) _).drew
            have zW3 : W3.heap.size = wr.heap.size + 1 := by rw [← hW3]; simpa [World.setCell] using z1
            have d1' : Boxed W3 Ba 24 (.slice (some ad) (ra.length + 1) ca) := (OW3.block _ (Boxed.lt d1) (fun h => hne h)).trans d1
            have hbW3 : W3.heap[wr.heap.size]? = some (.cells #[.bool false, .bool true] 88 (0, 0)) := (OW3.block _ (by omega) (fun h => by have := b1.lt; have := b2.lt; omega)).trans hb1
            rw [hW3]
            clear hW3 d1 d2 t1 t2 k1 k2 k3 k4
            clear k5
            clear k6
            have d1 := d1'
            have d2 := d2'
            clear d1' d2'
            have t1 : W3.cell? ⟨wr.heap.size, 0, none⟩ = some (.bool false) := cell_of_block hbW3
            have t2 : W3.cell? ⟨wr.heap.size, 1, none⟩ = some (.bool true) := cell_of_block hbW3
            have k1 := Boxed.cell d1
            have k2 := Boxed.frozen d1
            have k3 := Boxed.cell d2
            have k4 := Boxed.frozen d2
            have O3 : Off (fun k => k = Ba ∨ k = Bb) wr W3 := (O1 (fun k => k = Ba ∨ k = Bb)).then_ OW3 (fun _ _ h => .inr h)
            have hJ2 : J pre ψ W3 := hst _ _ _ _ hJ (O3.mono (fun k _ e h => by rcases e with rfl | rfl; exact v1 h; exact v2 h))
            obtain ⟨fn, tmps, assign, body, hy, hR⟩ := hround pre (y, false, true) ψ W3 hJ2 (by rw [hpre, bothOf, if_neg (by omega), if_pos (by omega)]; simp)
            dsimp only at hy
            gi_wp2
            refine ⟨rfl, ?_⟩
            refine hR.mono ?_
            rintro e W4 ⟨rfl, ψ', hψ', hJ3, hO3⟩
            obtain ⟨f1, f2, f3⟩ := fin W3 W4 ψ' O3 hO3 hψ'
            have p1 : Boxed W4 Ba 24 (.slice (some ad) (ra.length + 1) ca) := (hO3.block _ (Boxed.lt d1) v1).trans d1
            have p2 : Boxed W4 Bb 24 (.slice Bbd rb.length (cb - 1)) := (hO3.block _ (Boxed.lt d2) v2).trans d2
            gi_wp2
            go_roundw
            case rel =>
              refine ⟨pre ++ [(y, false, true)], (x :: ra), rb, ψ', by rw [hpre, bothOf, if_neg (by omega), if_pos (by omega)]; simp, by first | omega | (simp; omega), by first | omega | (simp; omega), hJ3, f2, ?_, ?_, f3⟩
              · exact SideOf.keep ⟨_, _, b1, n1, r1, q1⟩ (p1.trans b1.symm) f1
              · exact SideOf.tail r2 n2 m2 (by rw [HBbd.out]; exact p2) f1
            case measure =>
              rw [p1.cell, p2.cell, b1.cell, b2.cell]
              simp only []
              omega
          · obtain rfl : x = y := by omega
            have e1 : decide (x ≤ x) = true := by simp
            obtain ⟨ad, rfl, hc1⟩ := r1.2.2 (by simp)
            have a0 := hc1 0 (by simp)
            simp [Addr.add] at a0
            have g1 : (((ra.length : Int) + 1) == 0) = false := by simp; omega
            clear hc1
            have m1 := q1 ad rfl (by simp)
            obtain ⟨bd, rfl, hc2⟩ := r2.2.2 (by simp)
            have a1 := hc2 0 (by simp)
            simp [Addr.add] at a1
            have g2 : (((rb.length : Int) + 1) == 0) = false := by simp; omega
            clear hc2
            have m2 := q2 bd rfl (by simp)
            simp only [List.length_cons] at hra hrb n1 n2 r1 r2 b1 b2 c1 c2
            gi_wp2
            rw [wpIn_wide]
            have HC : ∀ w', Below wr.heap.size wr w' → w'.cell? ⟨Ba, 0, none⟩ = some (.slice (some ad) (ra.length + 1) ca) ∧ w'.cell? ⟨Bb, 0, none⟩ = some (.slice (some bd) (rb.length + 1) cb) ∧ w'.cell? ad = some (.int .u32 x) ∧ w'.cell? bd = some (.int .u32 x) := fun w' h => ⟨pw_cell_below h c1, pw_cell_below h c2, pw_cell_below h a0, pw_cell_below h a1⟩
            refine wp_reg 35 (fun w' => Below wr.heap.size wr w') (by kernel_rfl) (by kernel_rfl) (by decide) (fun _ _ d _ _ h => by cases d <;> exact h) (Below.refl _ _).drew ?_
            simp only [List.take_succ_cons, List.take_zero, List.drop_succ_cons, List.drop_zero]
            repeat (first | (apply wpHeld_goK rfl; (focus (intro w' hw'; go_simp; try rfl)); intro K hK; go_simp; refine hK _ ?_; clear hK K) | (refine wpHeld_skipK rfl (fun K hK => ?_); go_simp; refine hK _ ?_; clear hK K))
            refine wpHeld_nil ?_
            refine wpTail_step (fun K hK => ?_)
            go_simp
            refine hK _ _ ?_ ?_
            · exact ((Below.refl _ _).alloc (Nat.le_refl _) _).drew
            clear hK K
            refine wpTail_step (fun K hK => ?_)
            go_simp
            refine hK _ _ ?_ ?_
            · exact ((Below.refl _ _).alloc (Nat.le_refl _) _).drew
            clear hK K
            refine wpTail_nil ?_
            clear HC
            obtain ⟨W1, hW1⟩ : ∃ W1, (wr.alloc (.cells #[.bool true, .bool true] 88)).drew = W1 := ⟨_, rfl⟩
            have O1 : ∀ χ, Off χ wr W1 := fun χ => by rw [← hW1]; exact ((Off.refl χ wr).alloc _).drew
            have z1 : W1.heap.size = wr.heap.size + 1 := by rw [← hW1]; simp
            have hb1 : W1.heap[wr.heap.size]? = some (.cells #[.bool true, .bool true] 88 (0, 0)) := by rw [← hW1]; exact World.alloc_heap_new wr _
            have t1 : W1.cell? ⟨wr.heap.size, 0, none⟩ = some (.bool true) := cell_of_block hb1
            have t2 : W1.cell? ⟨wr.heap.size, 1, none⟩ = some (.bool true) := cell_of_block hb1
            have d1 : Boxed W1 Ba 24 (.slice (some ad) (ra.length + 1) ca) := ((O1 (fun _ => False)).block _ b1.lt id).trans b1
            have d2 : Boxed W1 Bb 24 (.slice (some bd) (rb.length + 1) cb) := ((O1 (fun _ => False)).block _ b2.lt id).trans b2
            have k1 := d1.cell
            have k2 := d1.frozen
            have k3 := d2.cell
            have k4 := d2.frozen
            have k5 := ((O1 (fun _ => False)).cell (World.block_lt_of_cell? wr _ a0) id).trans a0
            have k6 := ((O1 (fun _ => False)).cell (World.block_lt_of_cell? wr _ a1) id).trans a1
            rw [hW1]
            clear hW1 c1 c2
            gi_wp2
            rw [wpIn_wide]
            go_region
            obtain ⟨Aa, hAa⟩ : ∃ A_ : Option Addr, (if ca = 1 then some ad else some { block := ad.block, off := ad.off + 1 }) = A_ := ⟨_, rfl⟩
            rw [hAa]
            have HAa := Lib.hid hAa
            clear hAa
            obtain ⟨W2, hW2⟩ : ∃ W_, (W1.setCell ⟨Ba, 0, none⟩ (.slice Aa ra.length (ca - 1))).drew = W_ := ⟨_, rfl⟩
            have d1' : Boxed W2 Ba 24 (.slice Aa ra.length (ca - 1)) := by rw [← hW2]; exact Boxed.set _ d1
            have OW2 : Off (fun k => k = Ba) W1 W2 := by rw [← hW2]; exact ((Off.refl (fun k => k = Ba) W1).setCell (p := ⟨Ba, 0, none⟩) (fun _ => rfl) _).drew
            have zW2 : W2.heap.size = wr.heap.size + 1 := by rw [← hW2]; simpa [World.setCell] using z1
            have d2' : Boxed W2 Bb 24 (.slice (some bd) (rb.length + 1) cb) := (OW2.block _ (Boxed.lt d2) (fun h => hne h.symm)).trans d2
            have hbW2 : W2.heap[wr.heap.size]? = some (.cells #[.bool true, .bool true] 88 (0, 0)) := (OW2.block _ (by omega) (fun h => by have := b1.lt; have := b2.lt; omega)).trans hb1
            rw [hW2]
            clear hW2 d1 d2 t1 t2 k1 k2 k3 k4
            have d1 := d1'
            have d2 := d2'
            clear d1' d2'
            have t1 : W2.cell? ⟨wr.heap.size, 0, none⟩ = some (.bool true) := cell_of_block hbW2
            have t2 : W2.cell? ⟨wr.heap.size, 1, none⟩ = some (.bool true) := cell_of_block hbW2
            have k1 := Boxed.cell d1
            have k2 := Boxed.frozen d1
            have k3 := Boxed.cell d2
            have k4 := Boxed.frozen d2
            have k6' := (OW2.cell (World.block_lt_of_cell? W1 _ k6) (fun h => by change bd.block = Ba at h; rw [h] at m2; exact hd1 m2)).trans k6
            clear k6
            have k6 := k6'
            clear k6'
            gi_wp2
            rw [wpIn_wide]
            go_region
            obtain ⟨Bbd, hBbd⟩ : ∃ A_ : Option Addr, (if cb = 1 then some bd else some { block := bd.block, off := bd.off + 1 }) = A_ := ⟨_, rfl⟩
            rw [hBbd]
            have HBbd := Lib.hid hBbd
            clear hBbd
            obtain ⟨W3, hW3⟩ : ∃ W_, (W2.setCell ⟨Bb, 0, none⟩ (.slice Bbd rb.length (cb - 1))).drew = W_ := ⟨_, rfl⟩
            have d2' : Boxed W3 Bb 24 (.slice Bbd rb.length (cb - 1)) := by rw [← hW3]; exact Boxed.set _ d2
            have OW3 : Off (fun k => k = Bb) W2 W3 := by rw [← hW3]; exact ((Off.refl (fun k => k = Bb) W2).setCell (p := ⟨Bb, 0, none⟩) (fun _ => rfl) _).drew
            have zW3 : W3.heap.size = wr.heap.size + 1 := by rw [← hW3]; simpa [World.setCell] using zW2
            have d1' : Boxed W3 Ba 24 (.slice Aa ra.length (ca - 1)) := (OW3.block _ (Boxed.lt d1) (fun h => hne h)).trans d1
            have hbW3 : W3.heap[wr.heap.size]? = some (.cells #[.bool true, .bool true] 88 (0, 0)) := (OW3.block _ (by omega) (fun h => by have := b1.lt; have := b2.lt; omega)).trans hbW2
            rw [hW3]
            clear hW3 d1 d2 t1 t2 k1 k2 k3 k4
            clear k5
            clear k6
            have d1 := d1'
            have d2 := d2'
            clear d1' d2'
            have t1 : W3.cell? ⟨wr.heap.size, 0, none⟩ = some (.bool true) := cell_of_block hbW3
            have t2 : W3.cell? ⟨wr.heap.size, 1, none⟩ = some (.bool true) := cell_of_block hbW3
            have k1 := Boxed.cell d1
            have k2 := Boxed.frozen d1
            have k3 := Boxed.cell d2
            have k4 := Boxed.frozen d2
            have O3 : Off (fun k => k = Ba ∨ k = Bb) wr W3 := ((O1 (fun k => k = Ba ∨ k = Bb)).then_ OW2 (fun _ _ h => .inl h)).then_ OW3 (fun _ _ h => .inr h)
            have hJ2 : J pre ψ W3 := hst _ _ _ _ hJ (O3.mono (fun k _ e h => by rcases e with rfl | rfl; exact v1 h; exact v2 h))
            obtain ⟨fn, tmps, assign, body, hy, hR⟩ := hround pre (x, true, true) ψ W3 hJ2 (by rw [hpre, bothOf, if_neg (by omega), if_neg (by omega)]; simp)
            dsimp only at hy
            gi_wp2
            refine ⟨rfl, ?_⟩
            refine hR.mono ?_
            rintro e W4 ⟨rfl, ψ', hψ', hJ3, hO3⟩
            obtain ⟨f1, f2, f3⟩ := fin W3 W4 ψ' O3 hO3 hψ'
            have p1 : Boxed W4 Ba 24 (.slice Aa ra.length (ca - 1)) := (hO3.block _ (Boxed.lt d1) v1).trans d1
            have p2 : Boxed W4 Bb 24 (.slice Bbd rb.length (cb - 1)) := (hO3.block _ (Boxed.lt d2) v2).trans d2
            gi_wp2
            go_roundw
            case rel =>
              refine ⟨pre ++ [(x, true, true)], ra, rb, ψ', by rw [hpre, bothOf, if_neg (by omega), if_neg (by omega)]; simp, by first | omega | (simp; omega), by first | omega | (simp; omega), hJ3, f2, ?_, ?_, f3⟩
              · exact SideOf.tail r1 n1 m1 (by rw [HAa.out]; exact p1) f1
              · exact SideOf.tail r2 n2 m2 (by rw [HBbd.out]; exact p2) f1
            case measure =>
              rw [p1.cell, p2.cell, b1.cell, b2.cell]
              simp only []
              omega
end Go.Proofs.Ytjncmiclpaodhaa
/-
  Package set: those of two sets that stay: Union, Inter, Minus.
-/
namespace Go.Proofs.Ytjncmiclpaodhaa
open Go.RowKit Go.Shelf Go.Proofs.YtjncmiclpaodhaaW.PrintWords
attribute [local go_sem] Oper.semAt_some

theorem both_calls (A B : Option Addr) (m n c d : Nat) (w : World) :
    Calls Try.prog 65 #[.slice A m c, .slice B n d] w fun e w' => e = .returned (.func (.func 78) #[] #[.pointer (some ⟨w.heap.size, 0, none⟩), .pointer (some ⟨w.heap.size + 1, 0, none⟩)]) ∧
      w' = (w.alloc (.cells #[.slice A m c] 24)).alloc (.cells #[.slice B n d] 24) := by
  go_enter Try.func65, Try.ntmps65
  go_wp2
  go_ret
  exact ⟨rfl, rfl⟩

theorem stays33 (x y : Bool) (w : World) : Calls Try.prog 70 #[.agg #[.bool x, .bool y]] w fun e w' => e = .returned (.bool (x || y)) ∧ Below w.heap.size w w' := by
  go_enter Try.func70, Try.ntmps70
  cases x <;> cases y <;> go_wp2 <;> (try go_region) <;> (try go_wp2) <;> go_ret <;> exact ⟨rfl, by repeat (first | exact Below.refl _ _ | exact ((Below.refl _ _).alloc (Nat.le_refl _) _) | apply Below.drew)⟩
theorem stays34 (x y : Bool) (w : World) : Calls Try.prog 71 #[.agg #[.bool x, .bool y]] w fun e w' => e = .returned (.bool (x && y)) ∧ Below w.heap.size w w' := by
  go_enter Try.func71, Try.ntmps71
  cases x <;> cases y <;> go_wp2 <;> (try go_region) <;> (try go_wp2) <;> go_ret <;> exact ⟨rfl, by repeat (first | exact Below.refl _ _ | exact ((Below.refl _ _).alloc (Nat.le_refl _) _) | apply Below.drew)⟩
theorem stays35 (x y : Bool) (w : World) : Calls Try.prog 48 #[.agg #[.bool x, .bool y]] w fun e w' => e = .returned (.bool (x && !y)) ∧ Below w.heap.size w w' := by
  go_enter Try.func48, Try.ntmps48
  cases x <;> cases y <;> go_wp2 <;> (try go_region) <;> (try go_wp2) <;> go_ret <;> exact ⟨rfl, by repeat (first | exact Below.refl _ _ | exact ((Below.refl _ _).alloc (Nat.le_refl _) _) | apply Below.drew)⟩

/-- Those that stay. -/
def selOf (p : Bool → Bool → Bool) (l : List (Int × Bool × Bool)) : List Int := (l.filter fun x => p x.2.1 x.2.2).map (·.1)
theorem selOf_hit {p : Bool → Bool → Bool} (pre : List (Int × Bool × Bool)) {x : Int × Bool × Bool} (h : p x.2.1 x.2.2 = true) : selOf p (pre ++ [x]) = selOf p pre ++ [x.1] := by simp [selOf, h]
theorem selOf_miss {p : Bool → Bool → Bool} (pre : List (Int × Bool × Bool)) {x : Int × Bool × Bool} (h : p x.2.1 x.2.2 = false) : selOf p (pre ++ [x]) = selOf p pre := by simp [selOf, h]
theorem selOf_len (p : Bool → Bool → Bool) (l : List (Int × Bool × Bool)) : (selOf p l).length ≤ l.length := by
  unfold selOf; rw [List.length_map]; exact List.length_filter_le _ _
theorem bothOf_len (a b : List Int) : (bothOf a b).length ≤ a.length + b.length := by
  induction a, b using bothOf.induct with
  | case1 => simp [bothOf]
  | case2 x a ih => rw [bothOf]; simp only [List.length_cons, List.length_nil] at *; omega
  | case3 y b ih => rw [bothOf]; simp only [List.length_cons, List.length_nil] at *; omega
  | case4 x a y b h ih => rw [bothOf, if_pos h]; simp only [List.length_cons] at *; omega
  | case5 x a y b h h' ih => rw [bothOf, if_neg h, if_pos h']; simp only [List.length_cons] at *; omega
  | case6 x a y b h h' ih => rw [bothOf, if_neg h, if_neg h']; simp only [List.length_cons] at *; omega

theorem info24 : (Try.prog.info? 23).map (fun i => (i.zero, i.size, i.bytes)) = some (some (.int .u32 0), 1, 4) := by kernel_rfl

end Go.Proofs.Ytjncmiclpaodhaa
