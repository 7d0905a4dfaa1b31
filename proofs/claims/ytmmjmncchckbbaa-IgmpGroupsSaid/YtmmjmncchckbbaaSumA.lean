/-
  slices.Chunk's iterator over bytes, two by two.
-/
import Derived.Test.YtmmjmncchckbbaaIter
import Derived.Test.YtmmjmncchckbbaaProg
import Derived.Test.YtmmjmncchckbbaaWWords
import Derived.Outline
import Derived.RegionTactic
import Derived.RegionIn
import Derived.BigRegionIn
namespace Go.Proofs.Ytmmjmncchckbbaa
open Go.RowKit Go.Proofs.YtmmjmncchckbbaaW.PrintWords
attribute [local go_sem] Oper.semAt_some

def chunkOf (A : Option Addr) (len k : Nat) : Value := .slice (A.map (·.add (2 * k))) (min 2 (len - 2 * k)) (min 2 (len - 2 * k))

theorem range_pre {n x : Nat} {pre : List Nat} (h : pre ++ [x] <+: List.range n) : pre = List.range x ∧ x < n := by
  obtain ⟨t, ht⟩ := h
  have h1 : pre ++ [x] = List.range (pre.length + 1) := by
    have := congrArg (List.take (pre.length + 1)) ht
    rw [List.take_left' (by simp)] at this
    rw [this, List.take_range]
    congr 1
    have := congrArg List.length ht
    simp at this
    omega
  rw [List.range_succ] at h1
  have h2 := List.append_inj h1 (by simp)
  have hx : x = pre.length := by simpa using h2.2
  have := congrArg List.length ht
  simp at this
  exact ⟨by rw [hx]; exact h2.1, by omega⟩

theorem range_pre' {n x : Nat} (h : x < n) : List.range x ++ [x] <+: List.range n := by
  rw [← List.range_succ]
  have : List.range (x + 1) = (List.range n).take (x + 1) := by rw [List.take_range]; congr 1; omega
  rw [this]
  exact List.take_prefix _ _

set_option maxRecDepth 100000 in
set_option maxHeartbeats 2000000 in
theorem chunk_iter (Bs Bn : Nat) (A : Option Addr) (len c : Nat) (hl : len ≤ 140737488351232) (hcap : len ≤ c) (hA : 0 < len → ∃ ad, A = some ad)
    (w : World) (h1 : Boxed w Bs 30 (.slice A len c)) (h2 : Boxed w Bn 3 (.int .i64 2)) :
    Iter Try.prog 66 #[.pointer (some ⟨Bs, 0, none⟩), .pointer (some ⟨Bn, 0, none⟩)] (fun k => #[chunkOf A len k]) (List.range ((len + 1) / 2)) (fun k => k = Bs ∨ k = Bn) (fun _ => False) w := by
  refine ⟨by rintro k (rfl | rfl); exact h1.lt; exact h2.lt, ?_⟩
  intro l J φ W hW hex hst hdis hround h0
  have b1 : Boxed W Bs 30 (.slice A len c) := (hW.block _ h1.lt (fun h => h (.inl rfl))).trans h1
  have b2 : Boxed W Bn 3 (.int .i64 2) := (hW.block _ h2.lt (fun h => h (.inr rfl))).trans h2
  refine callsIn_of_wp Try.func66 rfl trivial ?_ rfl
  simp only [Try.ntmps66, List.size_toArray, List.length_cons, List.length_nil, Nat.reduceAdd, Nat.reduceSub, Array.replicate_succ, Array.replicate_zero, List.push_toArray, List.append_toArray, List.nil_append, List.cons_append]
  gi_wp2
  gi_loopw [4] (fun i wr => ∃ k : Nat, ∃ ψ, k ≤ (len + 1) / 2 ∧ i = .int .i64 (2 * k) ∧ J (List.range k) ψ wr ∧ (∀ k, ψ k → φ k ∨ W.heap.size ≤ k) ∧ Off φ W wr)
    (fun i _ => len + 2 - (intOf i).toNat)
  case atStart => exact ⟨0, φ, by omega, by simp, h0, fun _ => .inl, Off.refl _ _⟩
  case round =>
    obtain ⟨k, ψ, hk, rfl, hJ, hψ, hO⟩ := hrel
    have d1 : ¬ ψ Bs := fun h => by rcases hψ _ h with h | h; exact hdis _ h (.inl rfl); have := b1.lt; omega
    have d2 : ¬ ψ Bn := fun h => by rcases hψ _ h with h | h; exact hdis _ h (.inr rfl); have := b2.lt; omega
    have e1 : Boxed wr Bs 30 (.slice A len c) := (hO.block _ b1.lt (fun h => hdis _ h (.inl rfl))).trans b1
    have e2 : Boxed wr Bn 3 (.int .i64 2) := (hO.block _ b2.lt (fun h => hdis _ h (.inr rfl))).trans b2
    have c1 := e1.cell
    have c2 := e2.cell
    by_cases hlt : 2 * k < len
    · obtain ⟨ad, rfl⟩ := hA (by omega)
      have hJ' : J (List.range k) ψ wr.drew := hst _ _ _ _ hJ (Off.refl _ wr).drew
      have hdis' : ∀ j, ψ j → j < wr.drew.heap.size := hex _ _ _ hJ'
      have hy := hround (List.range k) k ψ wr.drew hJ' (range_pre' (by omega))
      have key : ∀ (m : Nat) (rest : Nat), ∀ W3 ψ', (∀ k, ψ' k → ψ k ∨ wr.drew.heap.size ≤ k) → J (List.range k ++ [k]) ψ' W3 → Off ψ wr.drew W3 →
          W3.cell? ⟨Bn, 0, none⟩ = some (.int .i64 2) ∧ J (List.range (k + 1)) ψ' W3 ∧ (∀ k, ψ' k → φ k ∨ W.heap.size ≤ k) ∧ Off φ W W3 := by
        intro _ _ W3 ψ' hψ' hJ3 hO3
        have hz : wr.drew.heap.size = wr.heap.size := rfl
        refine ⟨((hO3.cell (p := ⟨Bn, 0, none⟩) e2.lt d2).trans c2), by rw [List.range_succ]; exact hJ3, ?_, ?_⟩
        · intro j hj
          rcases hψ' j hj with h | h
          · exact hψ j h
          · exact .inr (by have := hO.size; omega)
        · exact (hO.then_ ((Off.refl ψ wr).drew.trans hO3) (fun i hi h => by rcases hψ i h with h | h; exact h; omega))
      by_cases hlast : 2 * k + 1 < len
      · have hm : (¬ ((len - 2 * k : Nat) : Int) < 2) := by omega
        have hm2 : min 2 (len - 2 * k) = 2 := by omega
        simp only [chunkOf, Option.map_some, hm2] at hy
        obtain ⟨fn, tmps, assign, body, hy, hR⟩ := hy
        clear hm2
        gi_wp2
        gi_region
        gi_wp2
        refine ⟨rfl, ?_⟩
        refine hR.mono ?_
        rintro e W3 ⟨rfl, ψ', hψ', hJ3, hO3⟩
        obtain ⟨c3, hJ4, hψ4, hO4⟩ := key 0 0 W3 ψ' hψ' hJ3 hO3
        clear hJ3 hO3 hψ'
        gi_wp2
        go_roundw
        case rel => exact ⟨k + 1, ψ', by omega, by simp; omega, hJ4, hψ4, hO4⟩
        case measure => simp [intOf]; omega
      · have hm : (((len - 2 * k : Nat) : Int) < 2) := by omega
        have hq : len - 2 * k = 1 := by omega
        have hm2 : min 2 (len - 2 * k) = 1 := by omega
        simp only [chunkOf, Option.map_some, hm2] at hy
        obtain ⟨fn, tmps, assign, body, hy, hR⟩ := hy
        clear hm2
        gi_wp2
        gi_region
        gi_wp2
        refine ⟨rfl, ?_⟩
        refine hR.mono ?_
        rintro e W3 ⟨rfl, ψ', hψ', hJ3, hO3⟩
        obtain ⟨c3, hJ4, hψ4, hO4⟩ := key 0 0 W3 ψ' hψ' hJ3 hO3
        clear hJ3 hO3 hψ'
        gi_wp2
        go_roundw
        case rel => exact ⟨k + 1, ψ', by omega, by simp; omega, hJ4, hψ4, hO4⟩
        case measure => simp [intOf]; omega
    · obtain rfl : k = (len + 1) / 2 := by omega
      gi_wp2
      go_end0
      exact ⟨⟨_, rfl⟩, ψ, hψ, hJ, hO.mono (fun _ _ h => .inl h)⟩
end Go.Proofs.Ytmmjmncchckbbaa
