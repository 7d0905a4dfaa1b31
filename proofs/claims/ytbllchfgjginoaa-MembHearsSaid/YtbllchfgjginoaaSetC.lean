/-
  Package set: two sets at once.
-/
import Derived.Test.YtbllchfgjginoaaSoJ
import Derived.Test.YtbllchfgjginoaaProg
import Derived.Test.YtbllchfgjginoaaVWords
import Derived.Test.YtbllchfgjginoaaVMore
import Derived.Test.YtbllchfgjginoaaReg
import Derived.RegionTactic
import Derived.RegionIn
import Derived.BigRegion
import Derived.BigRegionIn
import Derived.Lib.Hide
import Derived.RangeFuncBox
import Derived.Maps.AppendAt
import Derived.Maps.OwnIn
namespace Go.Proofs.Ytbllchfgjginoaa
open Go.RowKit Go.Shelf Go.Proofs.YtbllchfgjginoaaW.PrintWords
attribute [local go_sem] Oper.semAt_some

theorem readsInt_of_block {w w' : World} {k : IntKind} {A : Option Addr} {n : Nat} {xs : List Int} (h : ReadsInt w k A n xs) (hb : ∀ ad, A = some ad → 0 < n → w'.heap[ad.block]? = w.heap[ad.block]?) : ReadsInt w' k A n xs :=
  ⟨h.1, h.2.1, fun hn => by
    obtain ⟨ad, e, hc⟩ := h.2.2 hn
    refine ⟨ad, e, fun j hj => ?_⟩
    rw [World.cell?_of_block (w := w) (by rw [show (ad.add j).block = ad.block from by unfold Addr.add; split <;> rfl]; exact hb ad e hn)]
    exact hc j hj⟩

/-- What is in two sets, rising, and which has it. -/
def bothOf : List Int → List Int → List (Int × Bool × Bool)
  | [], [] => []
  | x :: a, [] => (x, true, false) :: bothOf a []
  | [], y :: b => (y, false, true) :: bothOf [] b
  | x :: a, y :: b =>
    if x < y then (x, true, false) :: bothOf a (y :: b)
    else if y < x then (y, false, true) :: bothOf (x :: a) b
    else (x, true, true) :: bothOf a b
termination_by a b => a.length + b.length

/-- One row's state: its box, where it lies, what is left of it. -/
def SideOf (w : World) (dat : Nat → Prop) (Bx : Nat) (l : List Int) : Prop :=
  ∃ A c, Boxed w Bx 29 (.slice A l.length c) ∧ l.length ≤ c ∧ ReadsInt w .u32 A l.length l ∧ ∀ ad, A = some ad → 0 < l.length → dat ad.block

theorem SideOf.keep {w w' : World} {dat : Nat → Prop} {Bx : Nat} {l : List Int} (h : SideOf w dat Bx l) (hb : w'.heap[Bx]? = w.heap[Bx]?) (hd : ∀ k, dat k → w'.heap[k]? = w.heap[k]?) : SideOf w' dat Bx l := by
  obtain ⟨A, c, h1, h2, h3, h4⟩ := h
  exact ⟨A, c, hb.trans h1, h2, readsInt_of_block h3 (fun ad e hp => hd _ (h4 ad e hp)), h4⟩

theorem SideOf.tail {w w' : World} {dat : Nat → Prop} {Bx : Nat} {x : Int} {l : List Int} {ad : Addr} {c : Nat} (h3 : ReadsInt w .u32 (some ad) (l.length + 1) (x :: l)) (h2 : l.length + 1 ≤ c) (h4 : dat ad.block)
    (hb : Boxed w' Bx 29 (.slice (if c = 1 then some ad else some { block := ad.block, off := ad.off + 1 }) l.length (c - 1))) (hd : ∀ k, dat k → w'.heap[k]? = w.heap[k]?) : SideOf w' dat Bx l := by
  refine ⟨_, _, hb, by omega, ⟨rfl, by have := h3.2.1; omega, fun hp => ?_⟩, fun a e hp => ?_⟩
  · rw [if_neg (by omega)]
    refine ⟨_, rfl, fun j hj => ?_⟩
    obtain ⟨ad', e, hc⟩ := h3.2.2 (by omega)
    cases e
    have := hc (j + 1) (by omega)
    rw [List.getD_cons_succ] at this
    rw [← this, World.cell?_of_block (w := w) (by rw [show (Addr.add { block := ad.block, off := ad.off + 1 } j).block = ad.block from by unfold Addr.add; split <;> rfl]; exact hd _ h4)]
    congr 1
    unfold Addr.add
    simp only [Nat.add_eq_zero_iff, Nat.succ_ne_self, and_false, if_false]
    split
    · rename_i h; subst h; simp
    · simp only [Addr.mk.injEq, true_and, and_true]; omega
  · rw [if_neg (by omega)] at e
    cases e
    exact h4

theorem cell_of_block {w : World} {b i : Nat} {cs : Array Value} {t : TypeId} {fr : Nat × Nat} (h : w.heap[b]? = some (.cells cs t fr)) : w.cell? ⟨b, i, none⟩ = cs[i]? := by
  simp [World.cell?, h]

set_option maxRecDepth 100000 in
set_option maxHeartbeats 8000000 in
theorem both_iter (Ba Bb : Nat) (la lb : List Int) (hla : la.length ≤ 140737488351232) (hlb : lb.length ≤ 140737488351232) (hne : Ba ≠ Bb) (dat : Nat → Prop) (hd1 : ¬ dat Ba) (hd2 : ¬ dat Bb)
    (w : World) (hdw : ∀ k, dat k → k < w.heap.size) (h1 : SideOf w dat Ba la) (h2 : SideOf w dat Bb lb) :
    Iter Try.prog 83 #[.pointer (some ⟨Ba, 0, none⟩), .pointer (some ⟨Bb, 0, none⟩)] (fun x : Int × Bool × Bool => #[.int .u32 x.1, .agg #[.bool x.2.1, .bool x.2.2]]) (bothOf la lb) (fun k => k = Ba ∨ k = Bb ∨ dat k) (fun k => k = Ba ∨ k = Bb) w := by
  refine ⟨?_, ?_⟩
  · obtain ⟨A, c, h, _⟩ := h1
    obtain ⟨A', c', h', _⟩ := h2
    rintro k (rfl | rfl | h3)
    · exact h.lt
    · exact h'.lt
    · exact hdw k h3
  intro l J φ W hW hex hst hdis hround h0
  have h1' : SideOf W dat Ba la := h1.keep (hW.block _ (by obtain ⟨A, c, h, _⟩ := h1; exact h.lt) (fun h => h (.inl rfl))) (fun k hk => hW.block _ (hdw k hk) (fun h => h (.inr (.inr hk))))
  have h2' : SideOf W dat Bb lb := h2.keep (hW.block _ (by obtain ⟨A, c, h, _⟩ := h2; exact h.lt) (fun h => h (.inr (.inl rfl)))) (fun k hk => hW.block _ (hdw k hk) (fun h => h (.inr (.inr hk))))
  have h1lt : Ba < W.heap.size := by obtain ⟨A, c, hb, _⟩ := h1'; exact hb.lt
  have h2lt : Bb < W.heap.size := by obtain ⟨A, c, hb, _⟩ := h2'; exact hb.lt
  have hdW : ∀ k, dat k → k < W.heap.size := fun k hk => Nat.lt_of_lt_of_le (hdw k hk) hW.size
  clear h1 h2 hW hdw
  refine callsIn_of_wp Try.func83 rfl trivial ?_ rfl
  simp only [Try.ntmps83, List.size_toArray, List.length_cons, List.length_nil, Nat.reduceAdd, Nat.reduceSub, Array.replicate_succ, Array.replicate_zero, List.push_toArray, List.append_toArray, List.nil_append, List.cons_append]
  gi_wp2
  gi_loopw [] (fun wr => ∃ (pre : List (Int × Bool × Bool)) (ra rb : List Int) (ψ : Nat → Prop), bothOf la lb = pre ++ bothOf ra rb ∧ ra.length ≤ la.length ∧ rb.length ≤ lb.length ∧ J pre ψ wr ∧ (∀ k, ψ k → φ k ∨ W.heap.size ≤ k) ∧
      SideOf wr dat Ba ra ∧ SideOf wr dat Bb rb ∧ Off (fun k => φ k ∨ k = Ba ∨ k = Bb) W wr)
    (fun wr => match wr.cell? ⟨Ba, 0, none⟩, wr.cell? ⟨Bb, 0, none⟩ with | some (.slice _ n _), some (.slice _ m _) => n + m | _, _ => 0)
  case atStart => exact ⟨[], la, lb, φ, rfl, Nat.le_refl _, Nat.le_refl _, h0, fun _ => .inl, h1', h2', Off.refl _ _⟩
  case round =>
    obtain ⟨pre, ra, rb, ψ, hpre, hra, hrb, hJ, hψ, ⟨A, ca, b1, n1, r1, q1⟩, ⟨B, cb, b2, n2, r2, q2⟩, hO⟩ := hrel
    have c1 := b1.cell
    have c2 := b2.cell
    clear h1' h2'
    have v1 : ¬ ψ Ba := fun h => by rcases hψ _ h with h | h; exact hdis _ h (.inl rfl); omega
    have v2 : ¬ ψ Bb := fun h => by rcases hψ _ h with h | h; exact hdis _ h (.inr (.inl rfl)); omega
    have v3 : ∀ k, dat k → ¬ ψ k := fun k hk h => by rcases hψ _ h with h | h; exact hdis _ h (.inr (.inr hk)); have := hdW k hk; omega
    have zr := hO.size
    have fin : ∀ (W2 W4 : World) (ψ' : Nat → Prop), Off (fun k => k = Ba ∨ k = Bb) wr W2 → Off ψ W2 W4 → (∀ k, ψ' k → ψ k ∨ W2.heap.size ≤ k) →
        (∀ k, dat k → W4.heap[k]? = wr.heap[k]?) ∧ (∀ k, ψ' k → φ k ∨ W.heap.size ≤ k) ∧ Off (fun k => φ k ∨ k = Ba ∨ k = Bb) W W4 := by
      intro W2 W4 ψ' o1 o2 h3
      have z2 := o1.size
      refine ⟨fun k hk => ?_, fun k hk => ?_, ?_⟩
      · have := hdW k hk
        exact (o2.block k (by omega) (v3 k hk)).trans (o1.block k (by omega) (fun h => by rcases h with rfl | rfl; exact hd1 hk; exact hd2 hk))
      · rcases h3 k hk with h | h
        · exact hψ k h
        · exact .inr (by omega)
      · refine (hO.then_ o1 (fun i hi h => .inr h)).then_ o2 (fun i hi h => ?_)
        rcases hψ i h with h | h
        · exact .inl h
        · omega
    cases ra with
    | nil =>
      cases rb with
      | nil =>
        gi_wp2
        go_end0
        exact ⟨⟨_, rfl⟩, ψ, hψ, by rw [hpre, bothOf]; simpa using hJ, hO⟩
      | cons y rb =>
        obtain ⟨bd, rfl, hc2⟩ := r2.2.2 (by simp)
        have a1 := hc2 0 (by simp)
        simp [Addr.add] at a1
        have g2 : (((rb.length : Int) + 1) == 0) = false := by simp; omega
        clear hc2
        have m2 := q2 bd rfl (by simp)
        simp only [List.length_cons, List.length_nil] at hra hrb n1 n2 r1 r2 b1 b2 c1 c2
        gi_wp2
        rw [wpIn_wide]
        have HC : ∀ w', Below wr.heap.size wr w' → w'.cell? ⟨Ba, 0, none⟩ = some (.slice A 0 ca) ∧ w'.cell? ⟨Bb, 0, none⟩ = some (.slice (some bd) (rb.length + 1) cb) := fun w' h => ⟨pw_cell_below h c1, pw_cell_below h c2⟩
        refine wp_reg 35 (fun w' => Below wr.heap.size wr w') (by kernel_rfl) (by kernel_rfl) (by decide) (fun _ _ d _ _ h => by cases d <;> exact h) (Below.refl _ _).drew ?_
        simp only [List.take_succ_cons, List.take_zero, List.drop_succ_cons, List.drop_zero]
        repeat (first | (apply wpHeld_goK rfl; (focus (intro w' hw'; go_simp; try rfl)); intro K hK; go_simp; refine hK _ ?_; clear hK K) | (refine wpHeld_skipK rfl (fun K hK => ?_); go_simp; refine hK _ ?_; clear hK K))
        refine wpHeld_nil ?_
        refine wpTail_step (fun K hK => ?_)
        go_simp
        refine hK _ _ ?_ ?_
        · exact ((Below.refl _ _).alloc (Nat.le_refl _) _).drew
        clear hK K
        refine wpTail_step (fun K hK => ?_)
        go_simp
        refine hK _ _ ?_ ?_
        · exact ((Below.refl _ _).alloc (Nat.le_refl _) _).drew
        clear hK K
        refine wpTail_nil ?_
        clear HC
        obtain ⟨W1, hW1⟩ : ∃ W1, (wr.alloc (.cells #[.bool false, .bool true] 100)).drew = W1 := ⟨_, rfl⟩
        have O1 : ∀ χ, Off χ wr W1 := fun χ => by rw [← hW1]; exact ((Off.refl χ wr).alloc _).drew
        have z1 : W1.heap.size = wr.heap.size + 1 := by rw [← hW1]; simp
        have hb1 : W1.heap[wr.heap.size]? = some (.cells #[.bool false, .bool true] 100 (0, 0)) := by rw [← hW1]; exact World.alloc_heap_new wr _
        have t1 : W1.cell? ⟨wr.heap.size, 0, none⟩ = some (.bool false) := cell_of_block hb1
        have t2 : W1.cell? ⟨wr.heap.size, 1, none⟩ = some (.bool true) := cell_of_block hb1
        have d1 : Boxed W1 Ba 29 (.slice A 0 ca) := ((O1 (fun _ => False)).block _ b1.lt id).trans b1
        have d2 : Boxed W1 Bb 29 (.slice (some bd) (rb.length + 1) cb) := ((O1 (fun _ => False)).block _ b2.lt id).trans b2
        have k1 := d1.cell
        have k2 := d1.frozen
        have k3 := d2.cell
        have k4 := d2.frozen
        have k6 := ((O1 (fun _ => False)).cell (World.block_lt_of_cell? wr _ a1) id).trans a1
        rw [hW1]
        clear hW1 c1 c2
        gi_wp2
        rw [wpIn_wide]
        go_region
        obtain ⟨Bbd, hBbd⟩ : ∃ A_ : Option Addr, (if cb = 1 then some bd else some { block := bd.block, off := bd.off + 1 }) = A_ := ⟨_, rfl⟩
        rw [hBbd]
        have HBbd := Lib.hid hBbd
        clear hBbd
        obtain ⟨W3, hW3⟩ : ∃ W_, (W1.setCell ⟨Bb, 0, none⟩ (.slice Bbd rb.length (cb - 1))).drew = W_ := ⟨_, rfl⟩
        have d2' : Boxed W3 Bb 29 (.slice Bbd rb.length (cb - 1)) := by rw [← hW3]; exact Boxed.set _ d2
        have OW3 : Off (fun k => k = Bb) W1 W3 := by rw [← hW3]; exact ((Off.refl (fun k => k = Bb) W1).setCell (p := ⟨Bb, 0, none⟩) (fun _ => rfl) _).drew
        have zW3 : W3.heap.size = wr.heap.size + 1 := by rw [← hW3]; simpa [World.setCell] using z1
        have d1' : Boxed W3 Ba 29 (.slice A 0 ca) := (OW3.block _ (Boxed.lt d1) (fun h => hne h)).trans d1
        have hbW3 : W3.heap[wr.heap.size]? = some (.cells #[.bool false, .bool true] 100 (0, 0)) := (OW3.block _ (by omega) (fun h => by have := b1.lt; have := b2.lt; omega)).trans hb1
        rw [hW3]
        clear hW3 d1 d2 t1 t2 k1 k2 k3 k4
        clear k6
        have d1 := d1'
        have d2 := d2'
        clear d1' d2'
        have t1 : W3.cell? ⟨wr.heap.size, 0, none⟩ = some (.bool false) := cell_of_block hbW3
        have t2 : W3.cell? ⟨wr.heap.size, 1, none⟩ = some (.bool true) := cell_of_block hbW3
        have k1 := Boxed.cell d1
        have k2 := Boxed.frozen d1
        have k3 := Boxed.cell d2
        have k4 := Boxed.frozen d2
        have O3 : Off (fun k => k = Ba ∨ k = Bb) wr W3 := (O1 (fun k => k = Ba ∨ k = Bb)).then_ OW3 (fun _ _ h => .inr h)
        have hJ2 : J pre ψ W3 := hst _ _ _ _ hJ (O3.mono (fun k _ e h => by rcases e with rfl | rfl; exact v1 h; exact v2 h))
        obtain ⟨fn, tmps, assign, body, hy, hR⟩ := hround pre (y, false, true) ψ W3 hJ2 (by rw [hpre, bothOf]; simp)
        dsimp only at hy
        gi_wp2
        refine ⟨rfl, ?_⟩
        refine hR.mono ?_
        rintro e W4 ⟨rfl, ψ', hψ', hJ3, hO3⟩
        obtain ⟨f1, f2, f3⟩ := fin W3 W4 ψ' O3 hO3 hψ'
        have p1 : Boxed W4 Ba 29 (.slice A 0 ca) := (hO3.block _ (Boxed.lt d1) v1).trans d1
        have p2 : Boxed W4 Bb 29 (.slice Bbd rb.length (cb - 1)) := (hO3.block _ (Boxed.lt d2) v2).trans d2
        gi_wp2
        go_roundw
        case rel =>
          refine ⟨pre ++ [(y, false, true)], [], rb, ψ', by rw [hpre, bothOf]; simp, by first | omega | (simp; omega), by first | omega | (simp; omega), hJ3, f2, ?_, ?_, f3⟩
          · exact SideOf.keep ⟨_, _, b1, n1, r1, q1⟩ (p1.trans b1.symm) f1
          · exact SideOf.tail r2 n2 m2 (by rw [HBbd.out]; exact p2) f1
        case measure =>
          rw [p1.cell, p2.cell, b1.cell, b2.cell]
          simp only []
          omega
    | cons x ra =>
      cases rb with
      | nil =>
        obtain ⟨ad, rfl, hc1⟩ := r1.2.2 (by simp)
        have a0 := hc1 0 (by simp)
        simp [Addr.add] at a0
        have g1 : (((ra.length : Int) + 1) == 0) = false := by simp; omega
        clear hc1
        have m1 := q1 ad rfl (by simp)
        simp only [List.length_cons, List.length_nil] at hra hrb n1 n2 r1 r2 b1 b2 c1 c2
        gi_wp2
        rw [wpIn_wide]
        have HC : ∀ w', Below wr.heap.size wr w' → w'.cell? ⟨Ba, 0, none⟩ = some (.slice (some ad) (ra.length + 1) ca) ∧ w'.cell? ⟨Bb, 0, none⟩ = some (.slice B 0 cb) := fun w' h => ⟨pw_cell_below h c1, pw_cell_below h c2⟩
        refine wp_reg 35 (fun w' => Below wr.heap.size wr w') (by kernel_rfl) (by kernel_rfl) (by decide) (fun _ _ d _ _ h => by cases d <;> exact h) (Below.refl _ _).drew ?_
        simp only [List.take_succ_cons, List.take_zero, List.drop_succ_cons, List.drop_zero]
        repeat (first | (apply wpHeld_goK rfl; (focus (intro w' hw'; go_simp; try rfl)); intro K hK; go_simp; refine hK _ ?_; clear hK K) | (refine wpHeld_skipK rfl (fun K hK => ?_); go_simp; refine hK _ ?_; clear hK K))
        refine wpHeld_nil ?_
        refine wpTail_step (fun K hK => ?_)
        go_simp
        refine hK _ _ ?_ ?_
        · exact ((Below.refl _ _).alloc (Nat.le_refl _) _).drew
        clear hK K
        refine wpTail_step (fun K hK => ?_)
        go_simp
        refine hK _ _ ?_ ?_
        · exact ((Below.refl _ _).alloc (Nat.le_refl _) _).drew
        clear hK K
        refine wpTail_nil ?_
        clear HC
        obtain ⟨W1, hW1⟩ : ∃ W1, (wr.alloc (.cells #[.bool true, .bool false] 100)).drew = W1 := ⟨_, rfl⟩
        have O1 : ∀ χ, Off χ wr W1 := fun χ => by rw [← hW1]; exact ((Off.refl χ wr).alloc _).drew
        have z1 : W1.heap.size = wr.heap.size + 1 := by rw [← hW1]; simp
        have hb1 : W1.heap[wr.heap.size]? = some (.cells #[.bool true, .bool false] 100 (0, 0)) := by rw [← hW1]; exact World.alloc_heap_new wr _
        have t1 : W1.cell? ⟨wr.heap.size, 0, none⟩ = some (.bool true) := cell_of_block hb1
        have t2 : W1.cell? ⟨wr.heap.size, 1, none⟩ = some (.bool false) := cell_of_block hb1
        have d1 : Boxed W1 Ba 29 (.slice (some ad) (ra.length + 1) ca) := ((O1 (fun _ => False)).block _ b1.lt id).trans b1
        have d2 : Boxed W1 Bb 29 (.slice B 0 cb) := ((O1 (fun _ => False)).block _ b2.lt id).trans b2
        have k1 := d1.cell
        have k2 := d1.frozen
        have k3 := d2.cell
        have k4 := d2.frozen
        have k5 := ((O1 (fun _ => False)).cell (World.block_lt_of_cell? wr _ a0) id).trans a0
        rw [hW1]
        clear hW1 c1 c2
        gi_wp2
        rw [wpIn_wide]
        go_region
        obtain ⟨Aa, hAa⟩ : ∃ A_ : Option Addr, (if ca = 1 then some ad else some { block := ad.block, off := ad.off + 1 }) = A_ := ⟨_, rfl⟩
        rw [hAa]
        have HAa := Lib.hid hAa
        clear hAa
        obtain ⟨W2, hW2⟩ : ∃ W_, (W1.setCell ⟨Ba, 0, none⟩ (.slice Aa ra.length (ca - 1))).drew = W_ := ⟨_, rfl⟩
        have d1' : Boxed W2 Ba 29 (.slice Aa ra.length (ca - 1)) := by rw [← hW2]; exact Boxed.set _ d1
        have OW2 : Off (fun k => k = Ba) W1 W2 := by rw [← hW2]; exact ((Off.refl (fun k => k = Ba) W1).setCell (p := ⟨Ba, 0, none⟩) (fun _ => rfl) _).drew
        have zW2 : W2.heap.size = wr.heap.size + 1 := by rw [← hW2]; simpa [World.setCell] using z1
        have d2' : Boxed W2 Bb 29 (.slice B 0 cb) := (OW2.block _ (Boxed.lt d2) (fun h => hne h.symm)).trans d2
        have hbW2 : W2.heap[wr.heap.size]? = some (.cells #[.bool true, .bool false] 100 (0, 0)) := (OW2.block _ (by omega) (fun h => by have := b1.lt; have := b2.lt; omega)).trans hb1
        rw [hW2]
        clear hW2 d1 d2 t1 t2 k1 k2 k3 k4
        clear k5
        have d1 := d1'
        have d2 := d2'
        clear d1' d2'
        have t1 : W2.cell? ⟨wr.heap.size, 0, none⟩ = some (.bool true) := cell_of_block hbW2
        have t2 : W2.cell? ⟨wr.heap.size, 1, none⟩ = some (.bool false) := cell_of_block hbW2
        have k1 := Boxed.cell d1
        have k2 := Boxed.frozen d1
        have k3 := Boxed.cell d2
        have k4 := Boxed.frozen d2
        have O3 : Off (fun k => k = Ba ∨ k = Bb) wr W2 := (O1 (fun k => k = Ba ∨ k = Bb)).then_ OW2 (fun _ _ h => .inl h)
        have hJ2 : J pre ψ W2 := hst _ _ _ _ hJ (O3.mono (fun k _ e h => by rcases e with rfl | rfl; exact v1 h; exact v2 h))
        obtain ⟨fn, tmps, assign, body, hy, hR⟩ := hround pre (x, true, false) ψ W2 hJ2 (by rw [hpre, bothOf]; simp)
        dsimp only at hy
        gi_wp2
        refine ⟨rfl, ?_⟩
        refine hR.mono ?_
        rintro e W4 ⟨rfl, ψ', hψ', hJ3, hO3⟩
        obtain ⟨f1, f2, f3⟩ := fin W2 W4 ψ' O3 hO3 hψ'
        have p1 : Boxed W4 Ba 29 (.slice Aa ra.length (ca - 1)) := (hO3.block _ (Boxed.lt d1) v1).trans d1
        have p2 : Boxed W4 Bb 29 (.slice B 0 cb) := (hO3.block _ (Boxed.lt d2) v2).trans d2
        gi_wp2
        go_roundw
        case rel =>
          refine ⟨pre ++ [(x, true, false)], ra, [], ψ', by rw [hpre, bothOf]; simp, by first | omega | (simp; omega), by first | omega | (simp; omega), hJ3, f2, ?_, ?_, f3⟩
          · exact SideOf.tail r1 n1 m1 (by rw [HAa.out]; exact p1) f1
          · exact SideOf.keep ⟨_, _, b2, n2, r2, q2⟩ (p2.trans b2.symm) f1
        case measure =>
          rw [p1.cell, p2.cell, b1.cell, b2.cell]
          simp only []
          omega
      | cons y rb =>
        by_cases hxy : x < y
        · have e1 : decide (x ≤ y) = true := by simp; omega
          have e2 : decide (y ≤ x) = false := by simp; omega
          obtain ⟨ad, rfl, hc1⟩ := r1.2.2 (by simp)
          have a0 := hc1 0 (by simp)
          simp [Addr.add] at a0
          have g1 : (((ra.length : Int) + 1) == 0) = false := by simp; omega
          clear hc1
          have m1 := q1 ad rfl (by simp)
          obtain ⟨bd, rfl, hc2⟩ := r2.2.2 (by simp)
          have a1 := hc2 0 (by simp)
          simp [Addr.add] at a1
          have g2 : (((rb.length : Int) + 1) == 0) = false := by simp; omega
          clear hc2
          have m2 := q2 bd rfl (by simp)
          simp only [List.length_cons] at hra hrb n1 n2 r1 r2 b1 b2 c1 c2
          gi_wp2
          rw [wpIn_wide]
          have HC : ∀ w', Below wr.heap.size wr w' → w'.cell? ⟨Ba, 0, none⟩ = some (.slice (some ad) (ra.length + 1) ca) ∧ w'.cell? ⟨Bb, 0, none⟩ = some (.slice (some bd) (rb.length + 1) cb) ∧ w'.cell? ad = some (.int .u32 x) ∧ w'.cell? bd = some (.int .u32 y) := fun w' h => ⟨pw_cell_below h c1, pw_cell_below h c2, pw_cell_below h a0, pw_cell_below h a1⟩
          refine wp_reg 35 (fun w' => Below wr.heap.size wr w') (by kernel_rfl) (by kernel_rfl) (by decide) (fun _ _ d _ _ h => by cases d <;> exact h) (Below.refl _ _).drew ?_
          simp only [List.take_succ_cons, List.take_zero, List.drop_succ_cons, List.drop_zero]
          repeat (first | (apply wpHeld_goK rfl; (focus (intro w' hw'; go_simp; try rfl)); intro K hK; go_simp; refine hK _ ?_; clear hK K) | (refine wpHeld_skipK rfl (fun K hK => ?_); go_simp; refine hK _ ?_; clear hK K))
          refine wpHeld_nil ?_
          refine wpTail_step (fun K hK => ?_)
          go_simp
          refine hK _ _ ?_ ?_
          · exact ((Below.refl _ _).alloc (Nat.le_refl _) _).drew
          clear hK K
          refine wpTail_step (fun K hK => ?_)
          go_simp
          refine hK _ _ ?_ ?_
          · exact ((Below.refl _ _).alloc (Nat.le_refl _) _).drew
          clear hK K
          refine wpTail_nil ?_
          clear HC
          obtain ⟨W1, hW1⟩ : ∃ W1, (wr.alloc (.cells #[.bool true, .bool false] 100)).drew = W1 := ⟨_, rfl⟩
          have O1 : ∀ χ, Off χ wr W1 := fun χ => by rw [← hW1]; exact ((Off.refl χ wr).alloc _).drew
          have z1 : W1.heap.size = wr.heap.size + 1 := by rw [← hW1]; simp
          have hb1 : W1.heap[wr.heap.size]? = some (.cells #[.bool true, .bool false] 100 (0, 0)) := by rw [← hW1]; exact World.alloc_heap_new wr _
          have t1 : W1.cell? ⟨wr.heap.size, 0, none⟩ = some (.bool true) := cell_of_block hb1
          have t2 : W1.cell? ⟨wr.heap.size, 1, none⟩ = some (.bool false) := cell_of_block hb1
          have d1 : Boxed W1 Ba 29 (.slice (some ad) (ra.length + 1) ca) := ((O1 (fun _ => False)).block _ b1.lt id).trans b1
          have d2 : Boxed W1 Bb 29 (.slice (some bd) (rb.length + 1) cb) := ((O1 (fun _ => False)).block _ b2.lt id).trans b2
          have k1 := d1.cell
          have k2 := d1.frozen
          have k3 := d2.cell
          have k4 := d2.frozen
          have k5 := ((O1 (fun _ => False)).cell (World.block_lt_of_cell? wr _ a0) id).trans a0
          have k6 := ((O1 (fun _ => False)).cell (World.block_lt_of_cell? wr _ a1) id).trans a1
          rw [hW1]
          clear hW1 c1 c2
          gi_wp2
          rw [wpIn_wide]
          go_region
          obtain ⟨Aa, hAa⟩ : ∃ A_ : Option Addr, (if ca = 1 then some ad else some { block := ad.block, off := ad.off + 1 }) = A_ := ⟨_, rfl⟩
          rw [hAa]
          have HAa := Lib.hid hAa
          clear hAa
          obtain ⟨W2, hW2⟩ : ∃ W_, (W1.setCell ⟨Ba, 0, none⟩ (.slice Aa ra.length (ca - 1))).drew = W_ := ⟨_, rfl⟩
          have d1' : Boxed W2 Ba 29 (.slice Aa ra.length (ca - 1)) := by rw [← hW2]; exact Boxed.set _ d1
          have OW2 : Off (fun k => k = Ba) W1 W2 := by rw [← hW2]; exact ((Off.refl (fun k => k = Ba) W1).setCell (p := ⟨Ba, 0, none⟩) (fun _ => rfl) _).drew
          have zW2 : W2.heap.size = wr.heap.size + 1 := by rw [← hW2]; simpa [World.setCell] using z1
          have d2' : Boxed W2 Bb 29 (.slice (some bd) (rb.length + 1) cb) := (OW2.block _ (Boxed.lt d2) (fun h => hne h.symm)).trans d2
          have hbW2 : W2.heap[wr.heap.size]? = some (.cells #[.bool true, .bool false] 100 (0, 0)) := (OW2.block _ (by omega) (fun h => by have := b1.lt; have := b2.lt; omega)).trans hb1
          rw [hW2]
          clear hW2 d1 d2 t1 t2 k1 k2 k3 k4
          clear k5
          have d1 := d1'
          have d2 := d2'
          clear d1' d2'
          have t1 : W2.cell? ⟨wr.heap.size, 0, none⟩ = some (.bool true) := cell_of_block hbW2
          have t2 : W2.cell? ⟨wr.heap.size, 1, none⟩ = some (.bool false) := cell_of_block hbW2
          have k1 := Boxed.cell d1
          have k2 := Boxed.frozen d1
          have k3 := Boxed.cell d2
          have k4 := Boxed.frozen d2
          clear k6
          have O3 : Off (fun k => k = Ba ∨ k = Bb) wr W2 := (O1 (fun k => k = Ba ∨ k = Bb)).then_ OW2 (fun _ _ h => .inl h)
          have hJ2 : J pre ψ W2 := hst _ _ _ _ hJ (O3.mono (fun k _ e h => by rcases e with rfl | rfl; exact v1 h; exact v2 h))
          obtain ⟨fn, tmps, assign, body, hy, hR⟩ := hround pre (x, true, false) ψ W2 hJ2 (by rw [hpre, bothOf, if_pos (by omega)]; simp)
          dsimp only at hy
          gi_wp2
          refine ⟨rfl, ?_⟩
          refine hR.mono ?_
          rintro e W4 ⟨rfl, ψ', hψ', hJ3, hO3⟩
          obtain ⟨f1, f2, f3⟩ := fin W2 W4 ψ' O3 hO3 hψ'
          have p1 : Boxed W4 Ba 29 (.slice Aa ra.length (ca - 1)) := (hO3.block _ (Boxed.lt d1) v1).trans d1
          have p2 : Boxed W4 Bb 29 (.slice (some bd) (rb.length + 1) cb) := (hO3.block _ (Boxed.lt d2) v2).trans d2
          gi_wp2
          go_roundw
          case rel =>
            refine ⟨pre ++ [(x, true, false)], ra, (y :: rb), ψ', by rw [hpre, bothOf, if_pos (by omega)]; simp, by first | omega | (simp; omega), by first | omega | (simp; omega), hJ3, f2, ?_, ?_, f3⟩
            · exact SideOf.tail r1 n1 m1 (by rw [HAa.out]; exact p1) f1
            · exact SideOf.keep ⟨_, _, b2, n2, r2, q2⟩ (p2.trans b2.symm) f1
          case measure =>
            rw [p1.cell, p2.cell, b1.cell, b2.cell]
            simp only []
            omega
        · by_cases hyx : y < x
          · have e1 : decide (x ≤ y) = false := by simp; omega
            have e2 : decide (y ≤ x) = true := by simp; omega
            obtain ⟨ad, rfl, hc1⟩ := r1.2.2 (by simp)
            have a0 := hc1 0 (by simp)
            simp [Addr.add] at a0
            have g1 : (((ra.length : Int) + 1) == 0) = false := by simp; omega
            clear hc1
            have m1 := q1 ad rfl (by simp)
            obtain ⟨bd, rfl, hc2⟩ := r2.2.2 (by simp)
            have a1 := hc2 0 (by simp)
            simp [Addr.add] at a1
            have g2 : (((rb.length : Int) + 1) == 0) = false := by simp; omega
            clear hc2
            have m2 := q2 bd rfl (by simp)
            simp only [List.length_cons] at hra hrb n1 n2 r1 r2 b1 b2 c1 c2
            gi_wp2
            rw [wpIn_wide]
            have HC : ∀ w', Below wr.heap.size wr w' → w'.cell? ⟨Ba, 0, none⟩ = some (.slice (some ad) (ra.length + 1) ca) ∧ w'.cell? ⟨Bb, 0, none⟩ = some (.slice (some bd) (rb.length + 1) cb) ∧ w'.cell? ad = some (.int .u32 x) ∧ w'.cell? bd = some (.int .u32 y) := fun w' h => ⟨pw_cell_below h c1, pw_cell_below h c2, pw_cell_below h a0, pw_cell_below h a1⟩
            refine wp_reg 35 (fun w' => Below wr.heap.size wr w') (by kernel_rfl) (by kernel_rfl) (by decide) (fun _ _ d _ _ h => by cases d <;> exact h) (Below.refl _ _).drew ?_
            simp only [List.take_succ_cons, List.take_zero, List.drop_succ_cons, List.drop_zero]
            repeat (first | (apply wpHeld_goK rfl; (focus (intro w' hw'; go_simp; try rfl)); intro K hK; go_simp; refine hK _ ?_; clear hK K) | (refine wpHeld_skipK rfl (fun K hK => ?_); go_simp; refine hK _ ?_; clear hK K))
            refine wpHeld_nil ?_
            refine wpTail_step (fun K hK => ?_)
            go_simp
            refine hK _ _ ?_ ?_
            · exact ((Below.refl _ _).alloc (Nat.le_refl _) _).drew
            clear hK K
            refine wpTail_step (fun K hK => ?_)
            go_simp
            refine hK _ _ ?_ ?_
            · exact ((Below.refl _ _).alloc (Nat.le_refl _) _).drew
            clear hK K
            refine wpTail_nil ?_
            clear HC
            obtain ⟨W1, hW1⟩ : ∃ W1, (wr.alloc (.cells #[.bool false, .bool true] 100)).drew = W1 := ⟨_, rfl⟩
            have O1 : ∀ χ, Off χ wr W1 := fun χ => by rw [← hW1]; exact ((Off.refl χ wr).alloc _).drew
            have z1 : W1.heap.size = wr.heap.size + 1 := by rw [← hW1]; simp
            have hb1 : W1.heap[wr.heap.size]? = some (.cells #[.bool false, .bool true] 100 (0, 0)) := by rw [← hW1]; exact World.alloc_heap_new wr _
            have t1 : W1.cell? ⟨wr.heap.size, 0, none⟩ = some (.bool false) := cell_of_block hb1
            have t2 : W1.cell? ⟨wr.heap.size, 1, none⟩ = some (.bool true) := cell_of_block hb1
            have d1 : Boxed W1 Ba 29 (.slice (some ad) (ra.length + 1) ca) := ((O1 (fun _ => False)).block _ b1.lt id).trans b1
            have d2 : Boxed W1 Bb 29 (.slice (some bd) (rb.length + 1) cb) := ((O1 (fun _ => False)).block _ b2.lt id).trans b2
            have k1 := d1.cell
            have k2 := d1.frozen
            have k3 := d2.cell
            have k4 := d2.frozen
            have k5 := ((O1 (fun _ => False)).cell (World.block_lt_of_cell? wr _ a0) id).trans a0
            have k6 := ((O1 (fun _ => False)).cell (World.block_lt_of_cell? wr _ a1) id).trans a1
            rw [hW1]
            clear hW1 c1 c2
            gi_wp2
            rw [wpIn_wide]
            go_region
            obtain ⟨Bbd, hBbd⟩ : ∃ A_ : Option Addr, (if cb = 1 then some bd else some { block := bd.block, off := bd.off + 1 }) = A_ := ⟨_, rfl⟩
            rw [hBbd]
            have HBbd := Lib.hid hBbd
            clear hBbd
            obtain ⟨W3, hW3⟩ : ∃ W_, (W1.setCell ⟨Bb, 0, none⟩ (.slice Bbd rb.length (cb - 1))).drew = W_ := ⟨_, rfl⟩
            have d2' : Boxed W3 Bb 29 (.slice Bbd rb.length (cb - 1)) := by rw [← hW3]; exact Boxed.set _ d2
            have OW3 : Off (fun k => k = Bb) W1 W3 := by rw [← hW3]; exact ((Off.refl (fun k => k = Bb) W1).setCell (p := ⟨Bb, 0, none⟩) (fun _ => rfl) _).drew
            have zW3 : W3.heap.size = wr.heap.size + 1 := by rw [← hW3]; simpa [World.setCell] using z1
            have d1' : Boxed W3 Ba 29 (.slice (some ad) (ra.length + 1) ca) := (OW3.block _ (Boxed.lt d1) (fun h => hne h)).trans d1
            have hbW3 : W3.heap[wr.heap.size]? = some (.cells #[.bool false, .bool true] 100 (0, 0)) := (OW3.block _ (by omega) (fun h => by have := b1.lt; have := b2.lt; omega)).trans hb1
            rw [hW3]
            clear hW3 d1 d2 t1 t2 k1 k2 k3 k4
            clear k5
            clear k6
            have d1 := d1'
            have d2 := d2'
            clear d1' d2'
            have t1 : W3.cell? ⟨wr.heap.size, 0, none⟩ = some (.bool false) := cell_of_block hbW3
            have t2 : W3.cell? ⟨wr.heap.size, 1, none⟩ = some (.bool true) := cell_of_block hbW3
            have k1 := Boxed.cell d1
            have k2 := Boxed.frozen d1
            have k3 := Boxed.cell d2
            have k4 := Boxed.frozen d2
            have O3 : Off (fun k => k = Ba ∨ k = Bb) wr W3 := (O1 (fun k => k = Ba ∨ k = Bb)).then_ OW3 (fun _ _ h => .inr h)
            have hJ2 : J pre ψ W3 := hst _ _ _ _ hJ (O3.mono (fun k _ e h => by rcases e with rfl | rfl; exact v1 h; exact v2 h))
            obtain ⟨fn, tmps, assign, body, hy, hR⟩ := hround pre (y, false, true) ψ W3 hJ2 (by rw [hpre, bothOf, if_neg (by omega), if_pos (by omega)]; simp)
            dsimp only at hy
            gi_wp2
            refine ⟨rfl, ?_⟩
            refine hR.mono ?_
            rintro e W4 ⟨rfl, ψ', hψ', hJ3, hO3⟩
            obtain ⟨f1, f2, f3⟩ := fin W3 W4 ψ' O3 hO3 hψ'
            have p1 : Boxed W4 Ba 29 (.slice (some ad) (ra.length + 1) ca) := (hO3.block _ (Boxed.lt d1) v1).trans d1
            have p2 : Boxed W4 Bb 29 (.slice Bbd rb.length (cb - 1)) := (hO3.block _ (Boxed.lt d2) v2).trans d2
            gi_wp2
            go_roundw
            case rel =>
              refine ⟨pre ++ [(y, false, true)], (x :: ra), rb, ψ', by rw [hpre, bothOf, if_neg (by omega), if_pos (by omega)]; simp, by first | omega | (simp; omega), by first | omega | (simp; omega), hJ3, f2, ?_, ?_, f3⟩
              · exact SideOf.keep ⟨_, _, b1, n1, r1, q1⟩ (p1.trans b1.symm) f1
              · exact SideOf.tail r2 n2 m2 (by rw [HBbd.out]; exact p2) f1
            case measure =>
              rw [p1.cell, p2.cell, b1.cell, b2.cell]
              simp only []
              omega
          · obtain rfl : x = y := by omega
            have e1 : decide (x ≤ x) = true := by simp
            obtain ⟨ad, rfl, hc1⟩ := r1.2.2 (by simp)
            have a0 := hc1 0 (by simp)
            simp [Addr.add] at a0
            have g1 : (((ra.length : Int) + 1) == 0) = false := by simp; omega
            clear hc1
            have m1 := q1 ad rfl (by simp)
            obtain ⟨bd, rfl, hc2⟩ := r2.2.2 (by simp)
            have a1 := hc2 0 (by simp)
            simp [Addr.add] at a1
            have g2 : (((rb.length : Int) + 1) == 0) = false := by simp; omega
            clear hc2
            have m2 := q2 bd rfl (by simp)
            simp only [List.length_cons] at hra hrb n1 n2 r1 r2 b1 b2 c1 c2
            gi_wp2
            rw [wpIn_wide]
            have HC : ∀ w', Below wr.heap.size wr w' → w'.cell? ⟨Ba, 0, none⟩ = some (.slice (some ad) (ra.length + 1) ca) ∧ w'.cell? ⟨Bb, 0, none⟩ = some (.slice (some bd) (rb.length + 1) cb) ∧ w'.cell? ad = some (.int .u32 x) ∧ w'.cell? bd = some (.int .u32 x) := fun w' h => ⟨pw_cell_below h c1, pw_cell_below h c2, pw_cell_below h a0, pw_cell_below h a1⟩
            refine wp_reg 35 (fun w' => Below wr.heap.size wr w') (by kernel_rfl) (by kernel_rfl) (by decide) (fun _ _ d _ _ h => by cases d <;> exact h) (Below.refl _ _).drew ?_
            simp only [List.take_succ_cons, List.take_zero, List.drop_succ_cons, List.drop_zero]
            repeat (first | (apply wpHeld_goK rfl; (focus (intro w' hw'; go_simp; try rfl)); intro K hK; go_simp; refine hK _ ?_; clear hK K) | (refine wpHeld_skipK rfl (fun K hK => ?_); go_simp; refine hK _ ?_; clear hK K))
            refine wpHeld_nil ?_
            refine wpTail_step (fun K hK => ?_)
            go_simp
            refine hK _ _ ?_ ?_
            · exact ((Below.refl _ _).alloc (Nat.le_refl _) _).drew
            clear hK K
            refine wpTail_step (fun K hK => ?_)
            go_simp
            refine hK _ _ ?_ ?_
            · exact ((Below.refl _ _).alloc (Nat.le_refl _) _).drew
            clear hK K
            refine wpTail_nil ?_
            clear HC
            obtain ⟨W1, hW1⟩ : ∃ W1, (wr.alloc (.cells #[.bool true, .bool true] 100)).drew = W1 := ⟨_, rfl⟩
            have O1 : ∀ χ, Off χ wr W1 := fun χ => by rw [← hW1]; exact ((Off.refl χ wr).alloc _).drew
            have z1 : W1.heap.size = wr.heap.size + 1 := by rw [← hW1]; simp
            have hb1 : W1.heap[wr.heap.size]? = some (.cells #[.bool true, .bool true] 100 (0, 0)) := by rw [← hW1]; exact World.alloc_heap_new wr _
            have t1 : W1.cell? ⟨wr.heap.size, 0, none⟩ = some (.bool true) := cell_of_block hb1
            have t2 : W1.cell? ⟨wr.heap.size, 1, none⟩ = some (.bool true) := cell_of_block hb1
            have d1 : Boxed W1 Ba 29 (.slice (some ad) (ra.length + 1) ca) := ((O1 (fun _ => False)).block _ b1.lt id).trans b1
            have d2 : Boxed W1 Bb 29 (.slice (some bd) (rb.length + 1) cb) := ((O1 (fun _ => False)).block _ b2.lt id).trans b2
            have k1 := d1.cell
            have k2 := d1.frozen
            have k3 := d2.cell
            have k4 := d2.frozen
            have k5 := ((O1 (fun _ => False)).cell (World.block_lt_of_cell? wr _ a0) id).trans a0
            have k6 := ((O1 (fun _ => False)).cell (World.block_lt_of_cell? wr _ a1) id).trans a1
            rw [hW1]
            clear hW1 c1 c2
            gi_wp2
            rw [wpIn_wide]
            go_region
            obtain ⟨Aa, hAa⟩ : ∃ A_ : Option Addr, (if ca = 1 then some ad else some { block := ad.block, off := ad.off + 1 }) = A_ := ⟨_, rfl⟩
            rw [hAa]
            have HAa := Lib.hid hAa
            clear hAa
            obtain ⟨W2, hW2⟩ : ∃ W_, (W1.setCell ⟨Ba, 0, none⟩ (.slice Aa ra.length (ca - 1))).drew = W_ := ⟨_, rfl⟩
            have d1' : Boxed W2 Ba 29 (.slice Aa ra.length (ca - 1)) := by rw [← hW2]; exact Boxed.set _ d1
            have OW2 : Off (fun k => k = Ba) W1 W2 := by rw [← hW2]; exact ((Off.refl (fun k => k = Ba) W1).setCell (p := ⟨Ba, 0, none⟩) (fun _ => rfl) _).drew
            have zW2 : W2.heap.size = wr.heap.size + 1 := by rw [← hW2]; simpa [World.setCell] using z1
            have d2' : Boxed W2 Bb 29 (.slice (some bd) (rb.length + 1) cb) := (OW2.block _ (Boxed.lt d2) (fun h => hne h.symm)).trans d2
            have hbW2 : W2.heap[wr.heap.size]? = some (.cells #[.bool true, .bool true] 100 (0, 0)) := (OW2.block _ (by omega) (fun h => by have := b1.lt; have := b2.lt; omega)).trans hb1
            rw [hW2]
            clear hW2 d1 d2 t1 t2 k1 k2 k3 k4
            have d1 := d1'
            have d2 := d2'
            clear d1' d2'
            have t1 : W2.cell? ⟨wr.heap.size, 0, none⟩ = some (.bool true) := cell_of_block hbW2
            have t2 : W2.cell? ⟨wr.heap.size, 1, none⟩ = some (.bool true) := cell_of_block hbW2
            have k1 := Boxed.cell d1
            have k2 := Boxed.frozen d1
            have k3 := Boxed.cell d2
            have k4 := Boxed.frozen d2
            have k6' := (OW2.cell (World.block_lt_of_cell? W1 _ k6) (fun h => by change bd.block = Ba at h; rw [h] at m2; exact hd1 m2)).trans k6
            clear k6
            have k6 := k6'
            clear k6'
            gi_wp2
            rw [wpIn_wide]
            go_region
            obtain ⟨Bbd, hBbd⟩ : ∃ A_ : Option Addr, (if cb = 1 then some bd else some { block := bd.block, off := bd.off + 1 }) = A_ := ⟨_, rfl⟩
            rw [hBbd]
            have HBbd := Lib.hid hBbd
            clear hBbd
            obtain ⟨W3, hW3⟩ : ∃ W_, (W2.setCell ⟨Bb, 0, none⟩ (.slice Bbd rb.length (cb - 1))).drew = W_ := ⟨_, rfl⟩
            have d2' : Boxed W3 Bb 29 (.slice Bbd rb.length (cb - 1)) := by rw [← hW3]; exact Boxed.set _ d2
            have OW3 : Off (fun k => k = Bb) W2 W3 := by rw [← hW3]; exact ((Off.refl (fun k => k = Bb) W2).setCell (p := ⟨Bb, 0, none⟩) (fun _ => rfl) _).drew
            have zW3 : W3.heap.size = wr.heap.size + 1 := by rw [← hW3]; simpa [World.setCell] using zW2
            have d1' : Boxed W3 Ba 29 (.slice Aa ra.length (ca - 1)) := (OW3.block _ (Boxed.lt d1) (fun h => hne h)).trans d1
            have hbW3 : W3.heap[wr.heap.size]? = some (.cells #[.bool true, .bool true] 100 (0, 0)) := (OW3.block _ (by omega) (fun h => by have := b1.lt; have := b2.lt; omega)).trans hbW2
            rw [hW3]
            clear hW3 d1 d2 t1 t2 k1 k2 k3 k4
            clear k5
            clear k6
            have d1 := d1'
            have d2 := d2'
            clear d1' d2'
            have t1 : W3.cell? ⟨wr.heap.size, 0, none⟩ = some (.bool true) := cell_of_block hbW3
            have t2 : W3.cell? ⟨wr.heap.size, 1, none⟩ = some (.bool true) := cell_of_block hbW3
            have k1 := Boxed.cell d1
            have k2 := Boxed.frozen d1
            have k3 := Boxed.cell d2
            have k4 := Boxed.frozen d2
            have O3 : Off (fun k => k = Ba ∨ k = Bb) wr W3 := ((O1 (fun k => k = Ba ∨ k = Bb)).then_ OW2 (fun _ _ h => .inl h)).then_ OW3 (fun _ _ h => .inr h)
            have hJ2 : J pre ψ W3 := hst _ _ _ _ hJ (O3.mono (fun k _ e h => by rcases e with rfl | rfl; exact v1 h; exact v2 h))
            obtain ⟨fn, tmps, assign, body, hy, hR⟩ := hround pre (x, true, true) ψ W3 hJ2 (by rw [hpre, bothOf, if_neg (by omega), if_neg (by omega)]; simp)
            dsimp only at hy
            gi_wp2
            refine ⟨rfl, ?_⟩
            refine hR.mono ?_
            rintro e W4 ⟨rfl, ψ', hψ', hJ3, hO3⟩
            obtain ⟨f1, f2, f3⟩ := fin W3 W4 ψ' O3 hO3 hψ'
            have p1 : Boxed W4 Ba 29 (.slice Aa ra.length (ca - 1)) := (hO3.block _ (Boxed.lt d1) v1).trans d1
            have p2 : Boxed W4 Bb 29 (.slice Bbd rb.length (cb - 1)) := (hO3.block _ (Boxed.lt d2) v2).trans d2
            gi_wp2
            go_roundw
            case rel =>
              refine ⟨pre ++ [(x, true, true)], ra, rb, ψ', by rw [hpre, bothOf, if_neg (by omega), if_neg (by omega)]; simp, by first | omega | (simp; omega), by first | omega | (simp; omega), hJ3, f2, ?_, ?_, f3⟩
              · exact SideOf.tail r1 n1 m1 (by rw [HAa.out]; exact p1) f1
              · exact SideOf.tail r2 n2 m2 (by rw [HBbd.out]; exact p2) f1
            case measure =>
              rw [p1.cell, p2.cell, b1.cell, b2.cell]
              simp only []
              omega
end Go.Proofs.Ytbllchfgjginoaa
/-
  Package set: those of two sets that stay: Union, Inter, Minus.
-/
namespace Go.Proofs.Ytbllchfgjginoaa
open Go.RowKit Go.Shelf Go.Proofs.YtbllchfgjginoaaW.PrintWords
attribute [local go_sem] Oper.semAt_some

theorem both_calls (A B : Option Addr) (m n c d : Nat) (w : World) :
    Calls Try.prog 75 #[.slice A m c, .slice B n d] w fun e w' => e = .returned (.func (.func 83) #[] #[.pointer (some ⟨w.heap.size, 0, none⟩), .pointer (some ⟨w.heap.size + 1, 0, none⟩)]) ∧
      w' = (w.alloc (.cells #[.slice A m c] 29)).alloc (.cells #[.slice B n d] 29) := by
  go_enter Try.func75, Try.ntmps75
  go_wp2
  go_ret
  exact ⟨rfl, rfl⟩

theorem stays34 (x y : Bool) (w : World) : Calls Try.prog 59 #[.agg #[.bool x, .bool y]] w fun e w' => e = .returned (.bool (x && y)) ∧ Below w.heap.size w w' := by
  go_enter Try.func59, Try.ntmps59
  cases x <;> cases y <;> go_wp2 <;> (try go_region) <;> (try go_wp2) <;> go_ret <;> exact ⟨rfl, by repeat (first | exact Below.refl _ _ | exact ((Below.refl _ _).alloc (Nat.le_refl _) _) | apply Below.drew)⟩
theorem stays35 (x y : Bool) (w : World) : Calls Try.prog 63 #[.agg #[.bool x, .bool y]] w fun e w' => e = .returned (.bool (x && !y)) ∧ Below w.heap.size w w' := by
  go_enter Try.func63, Try.ntmps63
  cases x <;> cases y <;> go_wp2 <;> (try go_region) <;> (try go_wp2) <;> go_ret <;> exact ⟨rfl, by repeat (first | exact Below.refl _ _ | exact ((Below.refl _ _).alloc (Nat.le_refl _) _) | apply Below.drew)⟩

/-- Those that stay. -/
def selOf (p : Bool → Bool → Bool) (l : List (Int × Bool × Bool)) : List Int := (l.filter fun x => p x.2.1 x.2.2).map (·.1)
theorem selOf_hit {p : Bool → Bool → Bool} (pre : List (Int × Bool × Bool)) {x : Int × Bool × Bool} (h : p x.2.1 x.2.2 = true) : selOf p (pre ++ [x]) = selOf p pre ++ [x.1] := by simp [selOf, h]
theorem selOf_miss {p : Bool → Bool → Bool} (pre : List (Int × Bool × Bool)) {x : Int × Bool × Bool} (h : p x.2.1 x.2.2 = false) : selOf p (pre ++ [x]) = selOf p pre := by simp [selOf, h]
theorem selOf_len (p : Bool → Bool → Bool) (l : List (Int × Bool × Bool)) : (selOf p l).length ≤ l.length := by
  unfold selOf; rw [List.length_map]; exact List.length_filter_le _ _
theorem bothOf_len (a b : List Int) : (bothOf a b).length ≤ a.length + b.length := by
  induction a, b using bothOf.induct with
  | case1 => simp [bothOf]
  | case2 x a ih => rw [bothOf]; simp only [List.length_cons, List.length_nil] at *; omega
  | case3 y b ih => rw [bothOf]; simp only [List.length_cons, List.length_nil] at *; omega
  | case4 x a y b h ih => rw [bothOf, if_pos h]; simp only [List.length_cons] at *; omega
  | case5 x a y b h h' ih => rw [bothOf, if_neg h, if_pos h']; simp only [List.length_cons] at *; omega
  | case6 x a y b h h' ih => rw [bothOf, if_neg h, if_neg h']; simp only [List.length_cons] at *; omega

theorem info24 : (Try.prog.info? 25).map (fun i => (i.zero, i.size, i.bytes)) = some (some (.int .u32 0), 1, 4) := by kernel_rfl

end Go.Proofs.Ytbllchfgjginoaa
/-
  Package set: those, walked.
-/
namespace Go.Proofs.Ytbllchfgjginoaa
open Go.RowKit Go.Shelf Go.Proofs.YtbllchfgjginoaaW.PrintWords
attribute [local go_sem] Oper.semAt_some

set_option maxRecDepth 100000 in
set_option maxHeartbeats 4000000 in
set_option maxRecDepth 100000 in
set_option maxHeartbeats 4000000 in
theorem those_calls34 (A B : Option Addr) (c d : Nat) (la lb : List Int) (w : World) (hla : la.length ≤ 1000000000) (hlb : lb.length ≤ 1000000000) (hca : la.length ≤ c) (hcb : lb.length ≤ d)
    (hra : ReadsInt w .u32 A la.length la) (hrb : ReadsInt w .u32 B lb.length lb) :
    Calls Try.prog 58 #[.slice A la.length c, .slice B lb.length d, .func (.func 59) #[] #[]] w fun e w' => ∃ v, e = .returned v ∧
      w'.ownsRow w.heap.size 25 1 v (selOf (fun x y => x && y) (bothOf la lb)).length (nums .u32 (selOf (fun x y => x && y) (bothOf la lb))) ∧ Below w.heap.size w w' := by
  obtain ⟨p, hp⟩ : ∃ p : Bool → Bool → Bool, (fun x y => x && y) = p := ⟨_, rfl⟩
  have hstay : ∀ (x y : Bool) (w : World), Calls Try.prog 59 #[.agg #[.bool x, .bool y]] w fun e w' => e = .returned (.bool (p x y)) ∧ Below w.heap.size w w' := by rw [← hp]; exact stays34
  have hbl := bothOf_len la lb
  obtain ⟨i0, hi, iz0, iz1, iz2⟩ := info_parts info24
  rw [hp]
  clear hp
  refine (callsIn_wide (n := 0)).1 ?_
  refine callsIn_of_wp_marks Try.func58 rfl trivial ?_ rfl
  simp only [Try.ntmps58, List.size_toArray, List.length_cons, List.length_nil, Nat.reduceAdd, Nat.reduceSub, Array.replicate_succ, Array.replicate_zero, List.push_toArray, List.append_toArray, List.nil_append, List.cons_append]
  gi_wp2_with (refine ⟨trivial, rfl, ?_⟩; gi_at_call 75; refine (callsIn_wide.2 (both_calls _ _ _ _ _ _ _)).mono ?_; rintro e w' ⟨rfl, rfl⟩)
  obtain ⟨W3, hW3⟩ : ∃ W3, ((((w.alloc (.cells #[.func (.func 59) #[] #[]] 101)).alloc (.cells #[.slice none 0 0] 29)).alloc (.cells #[.slice A la.length c] 29)).alloc (.cells #[.slice B lb.length d] 29)) = W3 := ⟨_, rfl⟩
  have s3 : W3.heap.size = w.heap.size + 4 := by rw [← hW3]; simp
  have hO3 : ∀ φ, Off φ w W3 := fun φ => by rw [← hW3]; exact ((((Off.refl φ w).alloc _).alloc _).alloc _).alloc _
  have x0 : Boxed W3 w.heap.size 101 (.func (.func 59) #[] #[]) := by rw [← hW3]; exact (((Boxed.new w _ _).alloc _).alloc _).alloc _
  have x1 : Boxed W3 (w.heap.size + 1) 29 (.slice none 0 0) := by
    rw [← hW3]; have := ((Boxed.new (w.alloc (.cells #[.func (.func 59) #[] #[]] 101)) 29 (.slice none 0 0)).alloc (.cells #[.slice A la.length c] 29)).alloc (.cells #[.slice B lb.length d] 29); rwa [World.size_alloc] at this
  have x2 : Boxed W3 (w.heap.size + 2) 29 (.slice A la.length c) := by
    rw [← hW3]; have := (Boxed.new ((w.alloc (.cells #[.func (.func 59) #[] #[]] 101)).alloc (.cells #[.slice none 0 0] 29)) 29 (.slice A la.length c)).alloc (.cells #[.slice B lb.length d] 29); rwa [World.size_alloc, World.size_alloc] at this
  have x3 : Boxed W3 (w.heap.size + 3) 29 (.slice B lb.length d) := by
    rw [← hW3]; have := Boxed.new (((w.alloc (.cells #[.func (.func 59) #[] #[]] 101)).alloc (.cells #[.slice none 0 0] 29)).alloc (.cells #[.slice A la.length c] 29)) 29 (.slice B lb.length d); rwa [World.size_alloc, World.size_alloc, World.size_alloc] at this
  have hdat : ∀ {A : Option Addr} {l : List Int}, ReadsInt w .u32 A l.length l → ∀ ad, A = some ad → 0 < l.length → ad.block < w.heap.size := fun hr ad e hp => by
    obtain ⟨ad', e', hc⟩ := hr.2.2 hp
    rw [e] at e'; cases e'
    have := World.block_lt_of_cell? w _ (hc 0 hp)
    unfold Addr.add at this
    simpa using this
  have hd1 := hdat hra
  have hd2 := hdat hrb
  have ra3 : ReadsInt W3 .u32 A la.length la := readsInt_of_block hra (fun ad e hp => (hO3 (fun _ => False)).block _ (hd1 ad e hp) id)
  have rb3 : ReadsInt W3 .u32 B lb.length lb := readsInt_of_block hrb (fun ad e hp => (hO3 (fun _ => False)).block _ (hd2 ad e hp) id)
  rw [hW3]
  refine wpIn_range (α := Int × Bool × Bool) (lb := #[.pointer (some ⟨w.heap.size + 2, 0, none⟩), .pointer (some ⟨w.heap.size + 3, 0, none⟩)]) rfl (enters_of Try.func83 (by kernel_rfl) rfl)
    (both_iter (w.heap.size + 2) (w.heap.size + 3) la lb (by omega) (by omega) (by omega) (fun k => k < w.heap.size) (by omega) (by omega) W3 (by intro k hk; omega)
      ⟨A, c, x2, hca, ra3, hd1⟩ ⟨B, d, x3, hcb, rb3, hd2⟩) (fun _ => rfl)
    (fun pre ψ V => ∃ v, ψ = (fun k => k = w.heap.size ∨ k = w.heap.size + 1 ∨ v.ownBlock = some k) ∧ Boxed V w.heap.size 101 (.func (.func 59) #[] #[]) ∧ Boxed V (w.heap.size + 1) 29 v ∧
      V.ownsRow w.heap.size 25 1 v (selOf p pre).length (nums .u32 (selOf p pre)) ∧ (∀ k, v.ownBlock = some k → w.heap.size + 4 ≤ k))
    (fun k => k = w.heap.size ∨ k = w.heap.size + 1) ?hex ?hst ?hdis ?h0 ?body ?done
  case hex =>
    rintro pre ψ V ⟨v, rfl, hb5, hb7, hrow, -⟩ k (rfl | rfl | h)
    · exact hb5.lt
    · exact hb7.lt
    · exact own_lt hrow k h
  case hst =>
    rintro pre ψ V V' ⟨v, rfl, hb5, hb7, hrow, hk⟩ hO
    exact ⟨v, rfl, (hO.block _ hb5.lt (fun h => h (.inl rfl))).trans hb5, (hO.block _ hb7.lt (fun h => h (.inr (.inl rfl)))).trans hb7, own_move hrow (fun k hk => hO.block _ (own_lt hrow k hk) (fun h => h (.inr (.inr hk)))), hk⟩
  case hdis =>
    rintro k (rfl | rfl) (h | h | h) <;> omega
  case h0 =>
    exact ⟨.slice none 0 0, by simp [Value.ownBlock], x0, x1, own_nil _ _ _ _, by simp [Value.ownBlock]⟩
  case body =>
    rintro l2 pre x ψ V K ⟨v, rfl, hb5, hb7, hrow, hvk⟩ hpre hl2 hnl hlt hK
    obtain ⟨x, s1, s2⟩ := x
    gi_wp2
    refine hK _ _ ((Off.refl _ _).alloc _) ?_
    rintro V2 hO2 hz2 ⟨v', hψ, hb5', hb7', hrow', hvk'⟩
    have hside : V2.heap[V.heap.size]? = some (.cells #[.bool s1, .bool s2] 100 (0, 0)) := (hO2.block _ (by simp) (by intro h; omega)).trans (World.alloc_heap_new V _)
    have t1 : V2.cell? ⟨V.heap.size, 0, none⟩ = some (.bool s1) := cell_of_block hside
    have t2 : V2.cell? ⟨V.heap.size, 1, none⟩ = some (.bool s2) := cell_of_block hside
    have zV2 : V2.heap.size = V.heap.size + 1 := by rw [hz2]; simp
    have hV : w.heap.size + 4 ≤ V.heap.size := by omega
    have hpl : (selOf p pre).length < 2000000000 := by
      have h1 := selOf_len p pre
      have h2 := hpre.length_le
      rw [List.length_append, List.length_singleton] at h2
      omega
    clear hb5 hb7 hrow hvk hK hW3 x0 x1 x2 x3 ra3 rb3 hd1 hd2 hdat
    have c5 := hb5'.cell
    have c7 := hb7'.cell
    have fin : ∀ (V4 : World) (ac : Act) (u : Value), (∀ k, u.ownBlock = some k → v'.ownBlock = some k ∨ V2.heap.size ≤ k) → Boxed V4 w.heap.size 101 (.func (.func 59) #[] #[]) → Boxed V4 (w.heap.size + 1) 29 u →
        V4.ownsRow w.heap.size 25 1 u (selOf p (pre ++ [(x, s1, s2)])).length (nums .u32 (selOf p (pre ++ [(x, s1, s2)]))) → Off (fun k => k = w.heap.size + 1 ∨ v'.ownBlock = some k) V2 V4 →
        RoundEnd (fun pre ψ V => ∃ v, ψ = (fun k => k = w.heap.size ∨ k = w.heap.size + 1 ∨ v.ownBlock = some k) ∧ Boxed V w.heap.size 101 (.func (.func 59) #[] #[]) ∧ Boxed V (w.heap.size + 1) 29 v ∧
      V.ownsRow w.heap.size 25 1 v (selOf p pre).length (nums .u32 (selOf p pre)) ∧ (∀ k, v.ownBlock = some k → w.heap.size + 4 ≤ k)) (pre ++ [(x, s1, s2)]) (fun k => k = w.heap.size ∨ k = w.heap.size + 1 ∨ v.ownBlock = some k) V.heap.size V2 .normal ac V4 := by
      intro V4 ac u hu hb5 hb7 hrow hO
      rw [hψ]
      refine ⟨rfl, (fun k => k = w.heap.size ∨ k = w.heap.size + 1 ∨ u.ownBlock = some k), ?_, ⟨u, rfl, hb5, hb7, hrow, ?_⟩, hO.mono ?_⟩
      · rintro k (h | h | h)
        · exact .inl (.inl h)
        · exact .inl (.inr (.inl h))
        · rcases hu k h with h | h
          · exact .inl (.inr (.inr h))
          · exact .inr (by omega)
      · intro k h
        rcases hu k h with h | h
        · exact hvk' k h
        · omega
      · rintro k - (h | h)
        · exact .inl (.inr (.inl h))
        · exact .inl (.inr (.inr h))
    have hs := hstay s1 s2
    cases hps : p s1 s2
    · rw [hps] at hs
      gi_wp2_with (refine ⟨trivial, rfl, ?_⟩; gi_at_call 59; refine (CallsIn.inRound l2 (callsIn_wide.2 (hs _))).mono ?_; rintro e V3 ⟨rfl, hB3⟩)
      refine fin _ _ v' (fun k h => .inl h) ((hB3.block _ hb5'.lt).trans hb5') ((hB3.block _ hb7'.lt).trans hb7') ?_ ((Off.of_below hB3).mono (fun k hk h => by omega))
      rw [selOf_miss pre (x := (x, s1, s2)) hps]
      exact pw_own_below hrow' hB3
    · rw [hps] at hs
      gi_wp2_with (first | (refine ⟨trivial, rfl, ?_⟩; gi_at_call 59; refine (CallsIn.inRound l2 (callsIn_wide.2 (hs _))).mono ?_; rintro e V3 ⟨rfl, hB3⟩; have b73 := (show Boxed V3 (w.heap.size + 1) 29 v' from (hB3.block _ hb7'.lt).trans hb7'); have c7 := b73.cell; have hrow3 := pw_own_below hrow' hB3; have z3 := hB3.size) | (gi_at_builtin; go_loud (refine wpListIn_append_own_at _ rfl _ _ 29 rfl w.heap.size 25 i0 (.int .u32 0) 1 4 Try.underlying29 hi iz0 iz1 iz2 rfl (by decide) _ _ _ rfl (hrow3.alloc _) ⟨V3.heap.size, 0, none⟩ 1 1 [.int .u32 x] rfl rfl (cell_one_new _ _ _) (by simp [Value.oneCell']) (by simp [maxLen]; omega) (by omega) (by simp; omega) ?_; intro v1 w1 hown' hgrow _ hat; obtain ⟨g', cap', rfl⟩ := ownsRow_succ hown'; obtain ⟨hv1, hv2, hr2, hk2, hb2⟩ := b73.appended (by decide) hrow3 (by omega) (by omega) hown' hgrow; have hc1 := hv1.cell; have hf1 := hv1.frozen)))
      have hO4 : Off (fun k => k = w.heap.size + 1 ∨ v'.ownBlock = some k) V2 (w1.setCell ⟨w.heap.size + 1, 0, none⟩ (.slice (some ⟨g', 0, none⟩) ((selOf p pre).length + 1) cap')) :=
        ((((Off.of_below hB3).mono (fun k hk h => by omega)).alloc _).grown hgrow (fun k e _ => .inr e)).setCell (fun _ => .inl rfl) _
      refine fin _ _ _ ?_ ?_ hv2 ?_ hO4
      · intro k h
        rcases hat with h' | h'
        · exact .inl (h'.symm.trans h)
        · rw [h'] at h
          simp at h
          exact .inr (by omega)
      · exact (hO4.block _ hb5'.lt (by rintro (h | h); omega; have := hvk' _ h; omega)).trans hb5'
      · rw [selOf_hit pre (x := (x, s1, s2)) hps]
        simpa [nums] using hr2
  case done =>
    rintro Dd ψ' V ⟨v, rfl, hb5, hb7, hrow, hvk⟩ hO hDd hnD hsub hK
    have c7 := hb7.cell
    gi_wp2
    refine ⟨by simp, .inl ⟨_, _, rfl, run_takeDeferred hK, ?_⟩⟩
    refine ⟨_, results_tmp rfl _ _ _, v, rfl, ?_, ?_⟩
    · exact ownsRow_putObj hrow _ hK rfl
    · refine Off.below' (φ := fun k => w.heap.size ≤ k) (((hO3 _).then_ hO ?_).putObj (fun h => by omega) _) (Nat.le_refl _) (fun _ h => h)
      rintro k hk ((h | h) | (h | h)) <;> omega
set_option maxRecDepth 100000 in
set_option maxHeartbeats 4000000 in
theorem those_calls35 (A B : Option Addr) (c d : Nat) (la lb : List Int) (w : World) (hla : la.length ≤ 1000000000) (hlb : lb.length ≤ 1000000000) (hca : la.length ≤ c) (hcb : lb.length ≤ d)
    (hra : ReadsInt w .u32 A la.length la) (hrb : ReadsInt w .u32 B lb.length lb) :
    Calls Try.prog 58 #[.slice A la.length c, .slice B lb.length d, .func (.func 63) #[] #[]] w fun e w' => ∃ v, e = .returned v ∧
      w'.ownsRow w.heap.size 25 1 v (selOf (fun x y => x && !y) (bothOf la lb)).length (nums .u32 (selOf (fun x y => x && !y) (bothOf la lb))) ∧ Below w.heap.size w w' := by
  obtain ⟨p, hp⟩ : ∃ p : Bool → Bool → Bool, (fun x y => x && !y) = p := ⟨_, rfl⟩
  have hstay : ∀ (x y : Bool) (w : World), Calls Try.prog 63 #[.agg #[.bool x, .bool y]] w fun e w' => e = .returned (.bool (p x y)) ∧ Below w.heap.size w w' := by rw [← hp]; exact stays35
  have hbl := bothOf_len la lb
  obtain ⟨i0, hi, iz0, iz1, iz2⟩ := info_parts info24
  rw [hp]
  clear hp
  refine (callsIn_wide (n := 0)).1 ?_
  refine callsIn_of_wp_marks Try.func58 rfl trivial ?_ rfl
  simp only [Try.ntmps58, List.size_toArray, List.length_cons, List.length_nil, Nat.reduceAdd, Nat.reduceSub, Array.replicate_succ, Array.replicate_zero, List.push_toArray, List.append_toArray, List.nil_append, List.cons_append]
  gi_wp2_with (refine ⟨trivial, rfl, ?_⟩; gi_at_call 75; refine (callsIn_wide.2 (both_calls _ _ _ _ _ _ _)).mono ?_; rintro e w' ⟨rfl, rfl⟩)
  obtain ⟨W3, hW3⟩ : ∃ W3, ((((w.alloc (.cells #[.func (.func 63) #[] #[]] 101)).alloc (.cells #[.slice none 0 0] 29)).alloc (.cells #[.slice A la.length c] 29)).alloc (.cells #[.slice B lb.length d] 29)) = W3 := ⟨_, rfl⟩
  have s3 : W3.heap.size = w.heap.size + 4 := by rw [← hW3]; simp
  have hO3 : ∀ φ, Off φ w W3 := fun φ => by rw [← hW3]; exact ((((Off.refl φ w).alloc _).alloc _).alloc _).alloc _
  have x0 : Boxed W3 w.heap.size 101 (.func (.func 63) #[] #[]) := by rw [← hW3]; exact (((Boxed.new w _ _).alloc _).alloc _).alloc _
  have x1 : Boxed W3 (w.heap.size + 1) 29 (.slice none 0 0) := by
    rw [← hW3]; have := ((Boxed.new (w.alloc (.cells #[.func (.func 63) #[] #[]] 101)) 29 (.slice none 0 0)).alloc (.cells #[.slice A la.length c] 29)).alloc (.cells #[.slice B lb.length d] 29); rwa [World.size_alloc] at this
  have x2 : Boxed W3 (w.heap.size + 2) 29 (.slice A la.length c) := by
    rw [← hW3]; have := (Boxed.new ((w.alloc (.cells #[.func (.func 63) #[] #[]] 101)).alloc (.cells #[.slice none 0 0] 29)) 29 (.slice A la.length c)).alloc (.cells #[.slice B lb.length d] 29); rwa [World.size_alloc, World.size_alloc] at this
  have x3 : Boxed W3 (w.heap.size + 3) 29 (.slice B lb.length d) := by
    rw [← hW3]; have := Boxed.new (((w.alloc (.cells #[.func (.func 63) #[] #[]] 101)).alloc (.cells #[.slice none 0 0] 29)).alloc (.cells #[.slice A la.length c] 29)) 29 (.slice B lb.length d); rwa [World.size_alloc, World.size_alloc, World.size_alloc] at this
  have hdat : ∀ {A : Option Addr} {l : List Int}, ReadsInt w .u32 A l.length l → ∀ ad, A = some ad → 0 < l.length → ad.block < w.heap.size := fun hr ad e hp => by
    obtain ⟨ad', e', hc⟩ := hr.2.2 hp
    rw [e] at e'; cases e'
    have := World.block_lt_of_cell? w _ (hc 0 hp)
    unfold Addr.add at this
    simpa using this
  have hd1 := hdat hra
  have hd2 := hdat hrb
  have ra3 : ReadsInt W3 .u32 A la.length la := readsInt_of_block hra (fun ad e hp => (hO3 (fun _ => False)).block _ (hd1 ad e hp) id)
  have rb3 : ReadsInt W3 .u32 B lb.length lb := readsInt_of_block hrb (fun ad e hp => (hO3 (fun _ => False)).block _ (hd2 ad e hp) id)
  rw [hW3]
  refine wpIn_range (α := Int × Bool × Bool) (lb := #[.pointer (some ⟨w.heap.size + 2, 0, none⟩), .pointer (some ⟨w.heap.size + 3, 0, none⟩)]) rfl (enters_of Try.func83 (by kernel_rfl) rfl)
    (both_iter (w.heap.size + 2) (w.heap.size + 3) la lb (by omega) (by omega) (by omega) (fun k => k < w.heap.size) (by omega) (by omega) W3 (by intro k hk; omega)
      ⟨A, c, x2, hca, ra3, hd1⟩ ⟨B, d, x3, hcb, rb3, hd2⟩) (fun _ => rfl)
    (fun pre ψ V => ∃ v, ψ = (fun k => k = w.heap.size ∨ k = w.heap.size + 1 ∨ v.ownBlock = some k) ∧ Boxed V w.heap.size 101 (.func (.func 63) #[] #[]) ∧ Boxed V (w.heap.size + 1) 29 v ∧
      V.ownsRow w.heap.size 25 1 v (selOf p pre).length (nums .u32 (selOf p pre)) ∧ (∀ k, v.ownBlock = some k → w.heap.size + 4 ≤ k))
    (fun k => k = w.heap.size ∨ k = w.heap.size + 1) ?hex ?hst ?hdis ?h0 ?body ?done
  case hex =>
    rintro pre ψ V ⟨v, rfl, hb5, hb7, hrow, -⟩ k (rfl | rfl | h)
    · exact hb5.lt
    · exact hb7.lt
    · exact own_lt hrow k h
  case hst =>
    rintro pre ψ V V' ⟨v, rfl, hb5, hb7, hrow, hk⟩ hO
    exact ⟨v, rfl, (hO.block _ hb5.lt (fun h => h (.inl rfl))).trans hb5, (hO.block _ hb7.lt (fun h => h (.inr (.inl rfl)))).trans hb7, own_move hrow (fun k hk => hO.block _ (own_lt hrow k hk) (fun h => h (.inr (.inr hk)))), hk⟩
  case hdis =>
    rintro k (rfl | rfl) (h | h | h) <;> omega
  case h0 =>
    exact ⟨.slice none 0 0, by simp [Value.ownBlock], x0, x1, own_nil _ _ _ _, by simp [Value.ownBlock]⟩
  case body =>
    rintro l2 pre x ψ V K ⟨v, rfl, hb5, hb7, hrow, hvk⟩ hpre hl2 hnl hlt hK
    obtain ⟨x, s1, s2⟩ := x
    gi_wp2
    refine hK _ _ ((Off.refl _ _).alloc _) ?_
    rintro V2 hO2 hz2 ⟨v', hψ, hb5', hb7', hrow', hvk'⟩
    have hside : V2.heap[V.heap.size]? = some (.cells #[.bool s1, .bool s2] 100 (0, 0)) := (hO2.block _ (by simp) (by intro h; omega)).trans (World.alloc_heap_new V _)
    have t1 : V2.cell? ⟨V.heap.size, 0, none⟩ = some (.bool s1) := cell_of_block hside
    have t2 : V2.cell? ⟨V.heap.size, 1, none⟩ = some (.bool s2) := cell_of_block hside
    have zV2 : V2.heap.size = V.heap.size + 1 := by rw [hz2]; simp
    have hV : w.heap.size + 4 ≤ V.heap.size := by omega
    have hpl : (selOf p pre).length < 2000000000 := by
      have h1 := selOf_len p pre
      have h2 := hpre.length_le
      rw [List.length_append, List.length_singleton] at h2
      omega
    clear hb5 hb7 hrow hvk hK hW3 x0 x1 x2 x3 ra3 rb3 hd1 hd2 hdat
    have c5 := hb5'.cell
    have c7 := hb7'.cell
    have fin : ∀ (V4 : World) (ac : Act) (u : Value), (∀ k, u.ownBlock = some k → v'.ownBlock = some k ∨ V2.heap.size ≤ k) → Boxed V4 w.heap.size 101 (.func (.func 63) #[] #[]) → Boxed V4 (w.heap.size + 1) 29 u →
        V4.ownsRow w.heap.size 25 1 u (selOf p (pre ++ [(x, s1, s2)])).length (nums .u32 (selOf p (pre ++ [(x, s1, s2)]))) → Off (fun k => k = w.heap.size + 1 ∨ v'.ownBlock = some k) V2 V4 →
        RoundEnd (fun pre ψ V => ∃ v, ψ = (fun k => k = w.heap.size ∨ k = w.heap.size + 1 ∨ v.ownBlock = some k) ∧ Boxed V w.heap.size 101 (.func (.func 63) #[] #[]) ∧ Boxed V (w.heap.size + 1) 29 v ∧
      V.ownsRow w.heap.size 25 1 v (selOf p pre).length (nums .u32 (selOf p pre)) ∧ (∀ k, v.ownBlock = some k → w.heap.size + 4 ≤ k)) (pre ++ [(x, s1, s2)]) (fun k => k = w.heap.size ∨ k = w.heap.size + 1 ∨ v.ownBlock = some k) V.heap.size V2 .normal ac V4 := by
      intro V4 ac u hu hb5 hb7 hrow hO
      rw [hψ]
      refine ⟨rfl, (fun k => k = w.heap.size ∨ k = w.heap.size + 1 ∨ u.ownBlock = some k), ?_, ⟨u, rfl, hb5, hb7, hrow, ?_⟩, hO.mono ?_⟩
      · rintro k (h | h | h)
        · exact .inl (.inl h)
        · exact .inl (.inr (.inl h))
        · rcases hu k h with h | h
          · exact .inl (.inr (.inr h))
          · exact .inr (by omega)
      · intro k h
        rcases hu k h with h | h
        · exact hvk' k h
        · omega
      · rintro k - (h | h)
        · exact .inl (.inr (.inl h))
        · exact .inl (.inr (.inr h))
    have hs := hstay s1 s2
    cases hps : p s1 s2
    · rw [hps] at hs
      gi_wp2_with (refine ⟨trivial, rfl, ?_⟩; gi_at_call 63; refine (CallsIn.inRound l2 (callsIn_wide.2 (hs _))).mono ?_; rintro e V3 ⟨rfl, hB3⟩)
      refine fin _ _ v' (fun k h => .inl h) ((hB3.block _ hb5'.lt).trans hb5') ((hB3.block _ hb7'.lt).trans hb7') ?_ ((Off.of_below hB3).mono (fun k hk h => by omega))
      rw [selOf_miss pre (x := (x, s1, s2)) hps]
      exact pw_own_below hrow' hB3
    · rw [hps] at hs
      gi_wp2_with (first | (refine ⟨trivial, rfl, ?_⟩; gi_at_call 63; refine (CallsIn.inRound l2 (callsIn_wide.2 (hs _))).mono ?_; rintro e V3 ⟨rfl, hB3⟩; have b73 := (show Boxed V3 (w.heap.size + 1) 29 v' from (hB3.block _ hb7'.lt).trans hb7'); have c7 := b73.cell; have hrow3 := pw_own_below hrow' hB3; have z3 := hB3.size) | (gi_at_builtin; go_loud (refine wpListIn_append_own_at _ rfl _ _ 29 rfl w.heap.size 25 i0 (.int .u32 0) 1 4 Try.underlying29 hi iz0 iz1 iz2 rfl (by decide) _ _ _ rfl (hrow3.alloc _) ⟨V3.heap.size, 0, none⟩ 1 1 [.int .u32 x] rfl rfl (cell_one_new _ _ _) (by simp [Value.oneCell']) (by simp [maxLen]; omega) (by omega) (by simp; omega) ?_; intro v1 w1 hown' hgrow _ hat; obtain ⟨g', cap', rfl⟩ := ownsRow_succ hown'; obtain ⟨hv1, hv2, hr2, hk2, hb2⟩ := b73.appended (by decide) hrow3 (by omega) (by omega) hown' hgrow; have hc1 := hv1.cell; have hf1 := hv1.frozen)))
      have hO4 : Off (fun k => k = w.heap.size + 1 ∨ v'.ownBlock = some k) V2 (w1.setCell ⟨w.heap.size + 1, 0, none⟩ (.slice (some ⟨g', 0, none⟩) ((selOf p pre).length + 1) cap')) :=
        ((((Off.of_below hB3).mono (fun k hk h => by omega)).alloc _).grown hgrow (fun k e _ => .inr e)).setCell (fun _ => .inl rfl) _
      refine fin _ _ _ ?_ ?_ hv2 ?_ hO4
      · intro k h
        rcases hat with h' | h'
        · exact .inl (h'.symm.trans h)
        · rw [h'] at h
          simp at h
          exact .inr (by omega)
      · exact (hO4.block _ hb5'.lt (by rintro (h | h); omega; have := hvk' _ h; omega)).trans hb5'
      · rw [selOf_hit pre (x := (x, s1, s2)) hps]
        simpa [nums] using hr2
  case done =>
    rintro Dd ψ' V ⟨v, rfl, hb5, hb7, hrow, hvk⟩ hO hDd hnD hsub hK
    have c7 := hb7.cell
    gi_wp2
    refine ⟨by simp, .inl ⟨_, _, rfl, run_takeDeferred hK, ?_⟩⟩
    refine ⟨_, results_tmp rfl _ _ _, v, rfl, ?_, ?_⟩
    · exact ownsRow_putObj hrow _ hK rfl
    · refine Off.below' (φ := fun k => w.heap.size ≤ k) (((hO3 _).then_ hO ?_).putObj (fun h => by omega) _) (Nat.le_refl _) (fun _ h => h)
      rintro k hk ((h | h) | (h | h)) <;> omega
theorem rdu {w : World} {k : IntKind} {A : Option Addr} {l : List Int} (h : Kd.C (Kd.int k) w A l.length l) : ReadsInt w k A l.length l := Kd.reads_of_C (enc := Value.int k) (d := (0 : Int)) (h1 := fun _ => rfl) h

def set_Inter.f (l0 : List Int) (l1 : List Int) : Option (List Int) := if l0.length ≤ 1000000000 ∧ l1.length ≤ 1000000000 then some (selOf (fun x y => x && y) (bothOf l0 l1)) else none
theorem set_Inter.calls (A0 : Option Addr) (c0 : Nat) (l0 : List Int) (A1 : Option Addr) (c1 : Nat) (l1 : List Int) (r : List Int) (w : World) (hr0 : Kd.C (Kd.int .u32) w A0 l0.length l0) (hc0 : l0.length ≤ c0) (hr1 : Kd.C (Kd.int .u32) w A1 l1.length l1) (hc1 : l1.length ≤ c1) (h : set_Inter.f l0 l1 = some r) :
    Calls Try.prog 38 #[.slice A0 l0.length c0, .slice A1 l1.length c1] w fun e w' => ∃ v0_ : Value, e = .returned (v0_) ∧ Kd.R (Kd.int .u32) 25 w' w.heap.size (fun _ => True) v0_ r ∧ Below w.heap.size w w' := by
  unfold set_Inter.f at h
  split at h
  next hl =>
    cases h
    go_enter Try.func38, Try.ntmps38
    go_wp2_with (go_at_call 58; refine (those_calls34 A0 A1 c0 c1 l0 l1 _ hl.1 hl.2 hc0 hc1 (rdu hr0) (rdu hr1)).mono ?_; rintro e w' ⟨v, rfl, hrow, hB⟩)
    go_ret
    exact ⟨v, rfl, Kd.R_of_own hrow (fun _ _ => trivial), hB⟩
  next => cases h

def set_Minus.f (l0 : List Int) (l1 : List Int) : Option (List Int) := if l0.length ≤ 1000000000 ∧ l1.length ≤ 1000000000 then some (selOf (fun x y => x && !y) (bothOf l0 l1)) else none
theorem set_Minus.calls (A0 : Option Addr) (c0 : Nat) (l0 : List Int) (A1 : Option Addr) (c1 : Nat) (l1 : List Int) (r : List Int) (w : World) (hr0 : Kd.C (Kd.int .u32) w A0 l0.length l0) (hc0 : l0.length ≤ c0) (hr1 : Kd.C (Kd.int .u32) w A1 l1.length l1) (hc1 : l1.length ≤ c1) (h : set_Minus.f l0 l1 = some r) :
    Calls Try.prog 41 #[.slice A0 l0.length c0, .slice A1 l1.length c1] w fun e w' => ∃ v0_ : Value, e = .returned (v0_) ∧ Kd.R (Kd.int .u32) 25 w' w.heap.size (fun _ => True) v0_ r ∧ Below w.heap.size w w' := by
  unfold set_Minus.f at h
  split at h
  next hl =>
    cases h
    go_enter Try.func41, Try.ntmps41
    go_wp2_with (go_at_call 58; refine (those_calls35 A0 A1 c0 c1 l0 l1 _ hl.1 hl.2 hc0 hc1 (rdu hr0) (rdu hr1)).mono ?_; rintro e w' ⟨v, rfl, hrow, hB⟩)
    go_ret
    exact ⟨v, rfl, Kd.R_of_own hrow (fun _ _ => trivial), hB⟩
  next => cases h
end Go.Proofs.Ytbllchfgjginoaa
