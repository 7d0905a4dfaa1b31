/-
  Package set: those, walked.
-/
import Derived.Test.YtkhljamellgcfaaSetB
import Derived.Maps.OwnIn
import Derived.Test.YtkhljamellgcfaaWMore
import Derived.Test.YtkhljamellgcfaaWGuard
import Derived.Test.YtkhljamellgcfaaProg
import Derived.Below
import Derived.Deep.Draws
import Derived.Deep.AppendLies
import Derived.Maps.AppendAt
import Derived.OwnWalk
import Derived.Laws.BytesArg
import Derived.Laws.MakeOwn
import Derived.Laws.OwnMore
import Derived.Deep.OwnRows
import Derived.Tactics
import Derived.Lib.ConvBytes
import Derived.Laws.Slices
import Derived.WalkKit
import Derived.KernelRfl
import Derived.RowKit3
import Derived.Deep.LoopGhost
import Derived.Deep.QuietTactic
import Derived.BigQuiet
import Derived.WideLaws
import Derived.Deep.DeepCutAuto
import Derived.Deep.CutBlock
import Derived.Deep.RegionHeld3
import Derived.Laws.Rows
import Derived.Lib.AppendStr
import Derived.ArgAppend
import Derived.Laws.IdiomCopy
import Derived.OrdersHeld
import Derived.Laws.BitsLemmas
import Derived.RowKit
import Derived.Test.YtkhljamellgcfaaWWords
import Derived.Test.YtkhljamellgcfaaWLast
import Derived.Test.YtkhljamellgcfaaWTab
import Derived.Test.YtkhljamellgcfaaWQPut
import Derived.Test.YtkhljamellgcfaaWApart
import Derived.Test.YtkhljamellgcfaaWArr
import Derived.Test.YtkhljamellgcfaaWZeros
import Derived.Test.YtkhljamellgcfaaWFoot
import Derived.Test.YtkhljamellgcfaaWKept
import Derived.Test.YtkhljamellgcfaaWShare
import Derived.Test.YtkhljamellgcfaaWN
import Derived.Test.YtkhljamellgcfaaWRepsOne
import Derived.Test.YtkhljamellgcfaaWInv
import Derived.Test.YtkhljamellgcfaaWNEv
namespace Go.Proofs.Ytkhljamellgcfaa
open Go.RowKit Go.Shelf Go.Proofs.YtkhljamellgcfaaW.PrintWords
attribute [local go_sem] Oper.semAt_some

set_option maxRecDepth 100000 in
set_option maxHeartbeats 4000000 in
theorem those_calls33 (A B : Option Addr) (c d : Nat) (la lb : List Int) (w : World) (hla : la.length ≤ 1000000000) (hlb : lb.length ≤ 1000000000) (hca : la.length ≤ c) (hcb : lb.length ≤ d)
    (hra : ReadsInt w .u32 A la.length la) (hrb : ReadsInt w .u32 B lb.length lb) :
    Calls Try.prog 32 #[.slice A la.length c, .slice B lb.length d, .func (.func 33) #[] #[]] w fun e w' => ∃ v, e = .returned v ∧
      w'.ownsRow w.heap.size 24 1 v (selOf (fun x y => x || y) (bothOf la lb)).length (nums .u32 (selOf (fun x y => x || y) (bothOf la lb))) ∧ Below w.heap.size w w' := by
  obtain ⟨p, hp⟩ : ∃ p : Bool → Bool → Bool, (fun x y => x || y) = p := ⟨_, rfl⟩
  have hstay : ∀ (x y : Bool) (w : World), Calls Try.prog 33 #[.agg #[.bool x, .bool y]] w fun e w' => e = .returned (.bool (p x y)) ∧ Below w.heap.size w w' := by rw [← hp]; exact stays33
  have hbl := bothOf_len la lb
  obtain ⟨i0, hi, iz0, iz1, iz2⟩ := info_parts info24
  rw [hp]
  clear hp
  refine (callsIn_wide (n := 0)).1 ?_
  refine callsIn_of_wp_marks Try.func32 rfl trivial ?_ rfl
  simp only [Try.ntmps32, List.size_toArray, List.length_cons, List.length_nil, Nat.reduceAdd, Nat.reduceSub, Array.replicate_succ, Array.replicate_zero, List.push_toArray, List.append_toArray, List.nil_append, List.cons_append]
  gi_wp2_with (refine ⟨trivial, rfl, ?_⟩; gi_at_call 41; refine (callsIn_wide.2 (both_calls _ _ _ _ _ _ _)).mono ?_; rintro e w' ⟨rfl, rfl⟩)
  obtain ⟨W3, hW3⟩ : ∃ W3, ((((w.alloc (.cells #[.func (.func 33) #[] #[]] 45)).alloc (.cells #[.slice none 0 0] 27)).alloc (.cells #[.slice A la.length c] 27)).alloc (.cells #[.slice B lb.length d] 27)) = W3 := ⟨_, rfl⟩
  have s3 : W3.heap.size = w.heap.size + 4 := by rw [← hW3]; simp
  have hO3 : ∀ φ, Off φ w W3 := fun φ => by rw [← hW3]; exact ((((Off.refl φ w).alloc _).alloc _).alloc _).alloc _
  have x0 : Boxed W3 w.heap.size 45 (.func (.func 33) #[] #[]) := by rw [← hW3]; exact (((Boxed.new w _ _).alloc _).alloc _).alloc _
  have x1 : Boxed W3 (w.heap.size + 1) 27 (.slice none 0 0) := by
    rw [← hW3]; have := ((Boxed.new (w.alloc (.cells #[.func (.func 33) #[] #[]] 45)) 27 (.slice none 0 0)).alloc (.cells #[.slice A la.length c] 27)).alloc (.cells #[.slice B lb.length d] 27); rwa [World.size_alloc] at this
  have x2 : Boxed W3 (w.heap.size + 2) 27 (.slice A la.length c) := by
    rw [← hW3]; have := (Boxed.new ((w.alloc (.cells #[.func (.func 33) #[] #[]] 45)).alloc (.cells #[.slice none 0 0] 27)) 27 (.slice A la.length c)).alloc (.cells #[.slice B lb.length d] 27); rwa [World.size_alloc, World.size_alloc] at this
  have x3 : Boxed W3 (w.heap.size + 3) 27 (.slice B lb.length d) := by
    rw [← hW3]; have := Boxed.new (((w.alloc (.cells #[.func (.func 33) #[] #[]] 45)).alloc (.cells #[.slice none 0 0] 27)).alloc (.cells #[.slice A la.length c] 27)) 27 (.slice B lb.length d); rwa [World.size_alloc, World.size_alloc, World.size_alloc] at this
  have hdat : ∀ {A : Option Addr} {l : List Int}, ReadsInt w .u32 A l.length l → ∀ ad, A = some ad → 0 < l.length → ad.block < w.heap.size := fun hr ad e hp => by
    obtain ⟨ad', e', hc⟩ := hr.2.2 hp
    rw [e] at e'; cases e'
    have := World.block_lt_of_cell? w _ (hc 0 hp)
    unfold Addr.add at this
    simpa using this
  have hd1 := hdat hra
  have hd2 := hdat hrb
  have ra3 : ReadsInt W3 .u32 A la.length la := readsInt_of_block hra (fun ad e hp => (hO3 (fun _ => False)).block _ (hd1 ad e hp) id)
  have rb3 : ReadsInt W3 .u32 B lb.length lb := readsInt_of_block hrb (fun ad e hp => (hO3 (fun _ => False)).block _ (hd2 ad e hp) id)
  rw [hW3]
  refine wpIn_range (α := Int × Bool × Bool) (lb := #[.pointer (some ⟨w.heap.size + 2, 0, none⟩), .pointer (some ⟨w.heap.size + 3, 0, none⟩)]) rfl (enters_of Try.func47 (by kernel_rfl) rfl)
    (both_iter (w.heap.size + 2) (w.heap.size + 3) la lb (by omega) (by omega) (by omega) (fun k => k < w.heap.size) (by omega) (by omega) W3 (by intro k hk; omega)
      ⟨A, c, x2, hca, ra3, hd1⟩ ⟨B, d, x3, hcb, rb3, hd2⟩) (fun _ => rfl)
    (fun pre ψ V => ∃ v, ψ = (fun k => k = w.heap.size ∨ k = w.heap.size + 1 ∨ v.ownBlock = some k) ∧ Boxed V w.heap.size 45 (.func (.func 33) #[] #[]) ∧ Boxed V (w.heap.size + 1) 27 v ∧
      V.ownsRow w.heap.size 24 1 v (selOf p pre).length (nums .u32 (selOf p pre)) ∧ (∀ k, v.ownBlock = some k → w.heap.size + 4 ≤ k))
    (fun k => k = w.heap.size ∨ k = w.heap.size + 1) ?hex ?hst ?hdis ?h0 ?body ?done
  case hex =>
    rintro pre ψ V ⟨v, rfl, hb5, hb7, hrow, -⟩ k (rfl | rfl | h)
    · exact hb5.lt
    · exact hb7.lt
    · exact own_lt hrow k h
  case hst =>
    rintro pre ψ V V' ⟨v, rfl, hb5, hb7, hrow, hk⟩ hO
    exact ⟨v, rfl, (hO.block _ hb5.lt (fun h => h (.inl rfl))).trans hb5, (hO.block _ hb7.lt (fun h => h (.inr (.inl rfl)))).trans hb7, own_move hrow (fun k hk => hO.block _ (own_lt hrow k hk) (fun h => h (.inr (.inr hk)))), hk⟩
  case hdis =>
    rintro k (rfl | rfl) (h | h | h) <;> omega
  case h0 =>
    exact ⟨.slice none 0 0, by simp [Value.ownBlock], x0, x1, own_nil _ _ _ _, by simp [Value.ownBlock]⟩
  case body =>
    rintro l2 pre x ψ V K ⟨v, rfl, hb5, hb7, hrow, hvk⟩ hpre hl2 hnl hlt hK
    obtain ⟨x, s1, s2⟩ := x
    gi_wp2
    refine hK _ _ ((Off.refl _ _).alloc _) ?_
    rintro V2 hO2 hz2 ⟨v', hψ, hb5', hb7', hrow', hvk'⟩
    have hside : V2.heap[V.heap.size]? = some (.cells #[.bool s1, .bool s2] 44 (0, 0)) := (hO2.block _ (by simp) (by intro h; omega)).trans (World.alloc_heap_new V _)
    have t1 : V2.cell? ⟨V.heap.size, 0, none⟩ = some (.bool s1) := cell_of_block hside
    have t2 : V2.cell? ⟨V.heap.size, 1, none⟩ = some (.bool s2) := cell_of_block hside
    have zV2 : V2.heap.size = V.heap.size + 1 := by rw [hz2]; simp
    have hV : w.heap.size + 4 ≤ V.heap.size := by omega
    have hpl : (selOf p pre).length < 2000000000 := by
      have h1 := selOf_len p pre
      have h2 := hpre.length_le
      rw [List.length_append, List.length_singleton] at h2
      omega
    clear hb5 hb7 hrow hvk hK hW3 x0 x1 x2 x3 ra3 rb3 hd1 hd2 hdat
    have c5 := hb5'.cell
    have c7 := hb7'.cell
    have fin : ∀ (V4 : World) (ac : Act) (u : Value), (∀ k, u.ownBlock = some k → v'.ownBlock = some k ∨ V2.heap.size ≤ k) → Boxed V4 w.heap.size 45 (.func (.func 33) #[] #[]) → Boxed V4 (w.heap.size + 1) 27 u →
        V4.ownsRow w.heap.size 24 1 u (selOf p (pre ++ [(x, s1, s2)])).length (nums .u32 (selOf p (pre ++ [(x, s1, s2)]))) → Off (fun k => k = w.heap.size + 1 ∨ v'.ownBlock = some k) V2 V4 →
        RoundEnd (fun pre ψ V => ∃ v, ψ = (fun k => k = w.heap.size ∨ k = w.heap.size + 1 ∨ v.ownBlock = some k) ∧ Boxed V w.heap.size 45 (.func (.func 33) #[] #[]) ∧ Boxed V (w.heap.size + 1) 27 v ∧
      V.ownsRow w.heap.size 24 1 v (selOf p pre).length (nums .u32 (selOf p pre)) ∧ (∀ k, v.ownBlock = some k → w.heap.size + 4 ≤ k)) (pre ++ [(x, s1, s2)]) (fun k => k = w.heap.size ∨ k = w.heap.size + 1 ∨ v.ownBlock = some k) V.heap.size V2 .normal ac V4 := by
      intro V4 ac u hu hb5 hb7 hrow hO
      rw [hψ]
      refine ⟨rfl, (fun k => k = w.heap.size ∨ k = w.heap.size + 1 ∨ u.ownBlock = some k), ?_, ⟨u, rfl, hb5, hb7, hrow, ?_⟩, hO.mono ?_⟩
      · rintro k (h | h | h)
        · exact .inl (.inl h)
        · exact .inl (.inr (.inl h))
        · rcases hu k h with h | h
          · exact .inl (.inr (.inr h))
          · exact .inr (by omega)
      · intro k h
        rcases hu k h with h | h
        · exact hvk' k h
        · omega
      · rintro k - (h | h)
        · exact .inl (.inr (.inl h))
        · exact .inl (.inr (.inr h))
    have hs := hstay s1 s2
    cases hps : p s1 s2
    · rw [hps] at hs
      gi_wp2_with (refine ⟨trivial, rfl, ?_⟩; gi_at_call 33; refine (CallsIn.inRound l2 (callsIn_wide.2 (hs _))).mono ?_; rintro e V3 ⟨rfl, hB3⟩)
      refine fin _ _ v' (fun k h => .inl h) ((hB3.block _ hb5'.lt).trans hb5') ((hB3.block _ hb7'.lt).trans hb7') ?_ ((Off.of_below hB3).mono (fun k hk h => by omega))
      rw [selOf_miss pre (x := (x, s1, s2)) hps]
      exact pw_own_below hrow' hB3
    · rw [hps] at hs
      gi_wp2_with (first | (refine ⟨trivial, rfl, ?_⟩; gi_at_call 33; refine (CallsIn.inRound l2 (callsIn_wide.2 (hs _))).mono ?_; rintro e V3 ⟨rfl, hB3⟩; have b73 := (show Boxed V3 (w.heap.size + 1) 27 v' from (hB3.block _ hb7'.lt).trans hb7'); have c7 := b73.cell; have hrow3 := pw_own_below hrow' hB3; have z3 := hB3.size) | (gi_at_builtin; go_loud (refine wpListIn_append_own_at _ rfl _ _ 27 rfl w.heap.size 24 i0 (.int .u32 0) 1 4 Try.underlying27 hi iz0 iz1 iz2 rfl (by decide) _ _ _ rfl (hrow3.alloc _) ⟨V3.heap.size, 0, none⟩ 1 1 [.int .u32 x] rfl rfl (cell_one_new _ _ _) (by simp [Value.oneCell']) (by simp [maxLen]; omega) (by omega) (by simp; omega) ?_; intro v1 w1 hown' hgrow _ hat; obtain ⟨g', cap', rfl⟩ := ownsRow_succ hown'; obtain ⟨hv1, hv2, hr2, hk2, hb2⟩ := b73.appended (by decide) hrow3 (by omega) (by omega) hown' hgrow; have hc1 := hv1.cell; have hf1 := hv1.frozen)))
      have hO4 : Off (fun k => k = w.heap.size + 1 ∨ v'.ownBlock = some k) V2 (w1.setCell ⟨w.heap.size + 1, 0, none⟩ (.slice (some ⟨g', 0, none⟩) ((selOf p pre).length + 1) cap')) :=
        ((((Off.of_below hB3).mono (fun k hk h => by omega)).alloc _).grown hgrow (fun k e _ => .inr e)).setCell (fun _ => .inl rfl) _
      refine fin _ _ _ ?_ ?_ hv2 ?_ hO4
      · intro k h
        rcases hat with h' | h'
        · exact .inl (h'.symm.trans h)
        · rw [h'] at h
          simp at h
          exact .inr (by omega)
      · exact (hO4.block _ hb5'.lt (by rintro (h | h); omega; have := hvk' _ h; omega)).trans hb5'
      · rw [selOf_hit pre (x := (x, s1, s2)) hps]
        simpa [nums] using hr2
  case done =>
    rintro Dd ψ' V ⟨v, rfl, hb5, hb7, hrow, hvk⟩ hO hDd hnD hsub hK
    have c7 := hb7.cell
    gi_wp2
    refine ⟨by simp, .inl ⟨_, _, rfl, run_takeDeferred hK, ?_⟩⟩
    refine ⟨_, results_tmp rfl _ _ _, v, rfl, ?_, ?_⟩
    · exact ownsRow_putObj hrow _ hK rfl
    · refine Off.below' (φ := fun k => w.heap.size ≤ k) (((hO3 _).then_ hO ?_).putObj (fun h => by omega) _) (Nat.le_refl _) (fun _ h => h)
      rintro k hk ((h | h) | (h | h)) <;> omega
set_option maxRecDepth 100000 in
set_option maxHeartbeats 4000000 in
theorem those_calls34 (A B : Option Addr) (c d : Nat) (la lb : List Int) (w : World) (hla : la.length ≤ 1000000000) (hlb : lb.length ≤ 1000000000) (hca : la.length ≤ c) (hcb : lb.length ≤ d)
    (hra : ReadsInt w .u32 A la.length la) (hrb : ReadsInt w .u32 B lb.length lb) :
    Calls Try.prog 32 #[.slice A la.length c, .slice B lb.length d, .func (.func 34) #[] #[]] w fun e w' => ∃ v, e = .returned v ∧
      w'.ownsRow w.heap.size 24 1 v (selOf (fun x y => x && y) (bothOf la lb)).length (nums .u32 (selOf (fun x y => x && y) (bothOf la lb))) ∧ Below w.heap.size w w' := by
  obtain ⟨p, hp⟩ : ∃ p : Bool → Bool → Bool, (fun x y => x && y) = p := ⟨_, rfl⟩
  have hstay : ∀ (x y : Bool) (w : World), Calls Try.prog 34 #[.agg #[.bool x, .bool y]] w fun e w' => e = .returned (.bool (p x y)) ∧ Below w.heap.size w w' := by rw [← hp]; exact stays34
  have hbl := bothOf_len la lb
  obtain ⟨i0, hi, iz0, iz1, iz2⟩ := info_parts info24
  rw [hp]
  clear hp
  refine (callsIn_wide (n := 0)).1 ?_
  refine callsIn_of_wp_marks Try.func32 rfl trivial ?_ rfl
  simp only [Try.ntmps32, List.size_toArray, List.length_cons, List.length_nil, Nat.reduceAdd, Nat.reduceSub, Array.replicate_succ, Array.replicate_zero, List.push_toArray, List.append_toArray, List.nil_append, List.cons_append]
  gi_wp2_with (refine ⟨trivial, rfl, ?_⟩; gi_at_call 41; refine (callsIn_wide.2 (both_calls _ _ _ _ _ _ _)).mono ?_; rintro e w' ⟨rfl, rfl⟩)
  obtain ⟨W3, hW3⟩ : ∃ W3, ((((w.alloc (.cells #[.func (.func 34) #[] #[]] 45)).alloc (.cells #[.slice none 0 0] 27)).alloc (.cells #[.slice A la.length c] 27)).alloc (.cells #[.slice B lb.length d] 27)) = W3 := ⟨_, rfl⟩
  have s3 : W3.heap.size = w.heap.size + 4 := by rw [← hW3]; simp
  have hO3 : ∀ φ, Off φ w W3 := fun φ => by rw [← hW3]; exact ((((Off.refl φ w).alloc _).alloc _).alloc _).alloc _
  have x0 : Boxed W3 w.heap.size 45 (.func (.func 34) #[] #[]) := by rw [← hW3]; exact (((Boxed.new w _ _).alloc _).alloc _).alloc _
  have x1 : Boxed W3 (w.heap.size + 1) 27 (.slice none 0 0) := by
    rw [← hW3]; have := ((Boxed.new (w.alloc (.cells #[.func (.func 34) #[] #[]] 45)) 27 (.slice none 0 0)).alloc (.cells #[.slice A la.length c] 27)).alloc (.cells #[.slice B lb.length d] 27); rwa [World.size_alloc] at this
  have x2 : Boxed W3 (w.heap.size + 2) 27 (.slice A la.length c) := by
    rw [← hW3]; have := (Boxed.new ((w.alloc (.cells #[.func (.func 34) #[] #[]] 45)).alloc (.cells #[.slice none 0 0] 27)) 27 (.slice A la.length c)).alloc (.cells #[.slice B lb.length d] 27); rwa [World.size_alloc, World.size_alloc] at this
  have x3 : Boxed W3 (w.heap.size + 3) 27 (.slice B lb.length d) := by
    rw [← hW3]; have := Boxed.new (((w.alloc (.cells #[.func (.func 34) #[] #[]] 45)).alloc (.cells #[.slice none 0 0] 27)).alloc (.cells #[.slice A la.length c] 27)) 27 (.slice B lb.length d); rwa [World.size_alloc, World.size_alloc, World.size_alloc] at this
  have hdat : ∀ {A : Option Addr} {l : List Int}, ReadsInt w .u32 A l.length l → ∀ ad, A = some ad → 0 < l.length → ad.block < w.heap.size := fun hr ad e hp => by
    obtain ⟨ad', e', hc⟩ := hr.2.2 hp
    rw [e] at e'; cases e'
    have := World.block_lt_of_cell? w _ (hc 0 hp)
    unfold Addr.add at this
    simpa using this
  have hd1 := hdat hra
  have hd2 := hdat hrb
  have ra3 : ReadsInt W3 .u32 A la.length la := readsInt_of_block hra (fun ad e hp => (hO3 (fun _ => False)).block _ (hd1 ad e hp) id)
  have rb3 : ReadsInt W3 .u32 B lb.length lb := readsInt_of_block hrb (fun ad e hp => (hO3 (fun _ => False)).block _ (hd2 ad e hp) id)
  rw [hW3]
  refine wpIn_range (α := Int × Bool × Bool) (lb := #[.pointer (some ⟨w.heap.size + 2, 0, none⟩), .pointer (some ⟨w.heap.size + 3, 0, none⟩)]) rfl (enters_of Try.func47 (by kernel_rfl) rfl)
    (both_iter (w.heap.size + 2) (w.heap.size + 3) la lb (by omega) (by omega) (by omega) (fun k => k < w.heap.size) (by omega) (by omega) W3 (by intro k hk; omega)
      ⟨A, c, x2, hca, ra3, hd1⟩ ⟨B, d, x3, hcb, rb3, hd2⟩) (fun _ => rfl)
    (fun pre ψ V => ∃ v, ψ = (fun k => k = w.heap.size ∨ k = w.heap.size + 1 ∨ v.ownBlock = some k) ∧ Boxed V w.heap.size 45 (.func (.func 34) #[] #[]) ∧ Boxed V (w.heap.size + 1) 27 v ∧
      V.ownsRow w.heap.size 24 1 v (selOf p pre).length (nums .u32 (selOf p pre)) ∧ (∀ k, v.ownBlock = some k → w.heap.size + 4 ≤ k))
    (fun k => k = w.heap.size ∨ k = w.heap.size + 1) ?hex ?hst ?hdis ?h0 ?body ?done
  case hex =>
    rintro pre ψ V ⟨v, rfl, hb5, hb7, hrow, -⟩ k (rfl | rfl | h)
    · exact hb5.lt
    · exact hb7.lt
    · exact own_lt hrow k h
  case hst =>
    rintro pre ψ V V' ⟨v, rfl, hb5, hb7, hrow, hk⟩ hO
    exact ⟨v, rfl, (hO.block _ hb5.lt (fun h => h (.inl rfl))).trans hb5, (hO.block _ hb7.lt (fun h => h (.inr (.inl rfl)))).trans hb7, own_move hrow (fun k hk => hO.block _ (own_lt hrow k hk) (fun h => h (.inr (.inr hk)))), hk⟩
  case hdis =>
    rintro k (rfl | rfl) (h | h | h) <;> omega
  case h0 =>
    exact ⟨.slice none 0 0, by simp [Value.ownBlock], x0, x1, own_nil _ _ _ _, by simp [Value.ownBlock]⟩
  case body =>
    rintro l2 pre x ψ V K ⟨v, rfl, hb5, hb7, hrow, hvk⟩ hpre hl2 hnl hlt hK
    obtain ⟨x, s1, s2⟩ := x
    gi_wp2
    refine hK _ _ ((Off.refl _ _).alloc _) ?_
    rintro V2 hO2 hz2 ⟨v', hψ, hb5', hb7', hrow', hvk'⟩
    have hside : V2.heap[V.heap.size]? = some (.cells #[.bool s1, .bool s2] 44 (0, 0)) := (hO2.block _ (by simp) (by intro h; omega)).trans (World.alloc_heap_new V _)
    have t1 : V2.cell? ⟨V.heap.size, 0, none⟩ = some (.bool s1) := cell_of_block hside
    have t2 : V2.cell? ⟨V.heap.size, 1, none⟩ = some (.bool s2) := cell_of_block hside
    have zV2 : V2.heap.size = V.heap.size + 1 := by rw [hz2]; simp
    have hV : w.heap.size + 4 ≤ V.heap.size := by omega
    have hpl : (selOf p pre).length < 2000000000 := by
      have h1 := selOf_len p pre
      have h2 := hpre.length_le
      rw [List.length_append, List.length_singleton] at h2
      omega
    clear hb5 hb7 hrow hvk hK hW3 x0 x1 x2 x3 ra3 rb3 hd1 hd2 hdat
    have c5 := hb5'.cell
    have c7 := hb7'.cell
    have fin : ∀ (V4 : World) (ac : Act) (u : Value), (∀ k, u.ownBlock = some k → v'.ownBlock = some k ∨ V2.heap.size ≤ k) → Boxed V4 w.heap.size 45 (.func (.func 34) #[] #[]) → Boxed V4 (w.heap.size + 1) 27 u →
        V4.ownsRow w.heap.size 24 1 u (selOf p (pre ++ [(x, s1, s2)])).length (nums .u32 (selOf p (pre ++ [(x, s1, s2)]))) → Off (fun k => k = w.heap.size + 1 ∨ v'.ownBlock = some k) V2 V4 →
        RoundEnd (fun pre ψ V => ∃ v, ψ = (fun k => k = w.heap.size ∨ k = w.heap.size + 1 ∨ v.ownBlock = some k) ∧ Boxed V w.heap.size 45 (.func (.func 34) #[] #[]) ∧ Boxed V (w.heap.size + 1) 27 v ∧
      V.ownsRow w.heap.size 24 1 v (selOf p pre).length (nums .u32 (selOf p pre)) ∧ (∀ k, v.ownBlock = some k → w.heap.size + 4 ≤ k)) (pre ++ [(x, s1, s2)]) (fun k => k = w.heap.size ∨ k = w.heap.size + 1 ∨ v.ownBlock = some k) V.heap.size V2 .normal ac V4 := by
      intro V4 ac u hu hb5 hb7 hrow hO
      rw [hψ]
      refine ⟨rfl, (fun k => k = w.heap.size ∨ k = w.heap.size + 1 ∨ u.ownBlock = some k), ?_, ⟨u, rfl, hb5, hb7, hrow, ?_⟩, hO.mono ?_⟩
      · rintro k (h | h | h)
        · exact .inl (.inl h)
        · exact .inl (.inr (.inl h))
        · rcases hu k h with h | h
          · exact .inl (.inr (.inr h))
          · exact .inr (by omega)
      · intro k h
        rcases hu k h with h | h
        · exact hvk' k h
        · omega
      · rintro k - (h | h)
        · exact .inl (.inr (.inl h))
        · exact .inl (.inr (.inr h))
    have hs := hstay s1 s2
    cases hps : p s1 s2
    · rw [hps] at hs
      gi_wp2_with (refine ⟨trivial, rfl, ?_⟩; gi_at_call 34; refine (CallsIn.inRound l2 (callsIn_wide.2 (hs _))).mono ?_; rintro e V3 ⟨rfl, hB3⟩)
      refine fin _ _ v' (fun k h => .inl h) ((hB3.block _ hb5'.lt).trans hb5') ((hB3.block _ hb7'.lt).trans hb7') ?_ ((Off.of_below hB3).mono (fun k hk h => by omega))
      rw [selOf_miss pre (x := (x, s1, s2)) hps]
      exact pw_own_below hrow' hB3
    · rw [hps] at hs
      gi_wp2_with (first | (refine ⟨trivial, rfl, ?_⟩; gi_at_call 34; refine (CallsIn.inRound l2 (callsIn_wide.2 (hs _))).mono ?_; rintro e V3 ⟨rfl, hB3⟩; have b73 := (show Boxed V3 (w.heap.size + 1) 27 v' from (hB3.block _ hb7'.lt).trans hb7'); have c7 := b73.cell; have hrow3 := pw_own_below hrow' hB3; have z3 := hB3.size) | (gi_at_builtin; go_loud (refine wpListIn_append_own_at _ rfl _ _ 27 rfl w.heap.size 24 i0 (.int .u32 0) 1 4 Try.underlying27 hi iz0 iz1 iz2 rfl (by decide) _ _ _ rfl (hrow3.alloc _) ⟨V3.heap.size, 0, none⟩ 1 1 [.int .u32 x] rfl rfl (cell_one_new _ _ _) (by simp [Value.oneCell']) (by simp [maxLen]; omega) (by omega) (by simp; omega) ?_; intro v1 w1 hown' hgrow _ hat; obtain ⟨g', cap', rfl⟩ := ownsRow_succ hown'; obtain ⟨hv1, hv2, hr2, hk2, hb2⟩ := b73.appended (by decide) hrow3 (by omega) (by omega) hown' hgrow; have hc1 := hv1.cell; have hf1 := hv1.frozen)))
      have hO4 : Off (fun k => k = w.heap.size + 1 ∨ v'.ownBlock = some k) V2 (w1.setCell ⟨w.heap.size + 1, 0, none⟩ (.slice (some ⟨g', 0, none⟩) ((selOf p pre).length + 1) cap')) :=
        ((((Off.of_below hB3).mono (fun k hk h => by omega)).alloc _).grown hgrow (fun k e _ => .inr e)).setCell (fun _ => .inl rfl) _
      refine fin _ _ _ ?_ ?_ hv2 ?_ hO4
      · intro k h
        rcases hat with h' | h'
        · exact .inl (h'.symm.trans h)
        · rw [h'] at h
          simp at h
          exact .inr (by omega)
      · exact (hO4.block _ hb5'.lt (by rintro (h | h); omega; have := hvk' _ h; omega)).trans hb5'
      · rw [selOf_hit pre (x := (x, s1, s2)) hps]
        simpa [nums] using hr2
  case done =>
    rintro Dd ψ' V ⟨v, rfl, hb5, hb7, hrow, hvk⟩ hO hDd hnD hsub hK
    have c7 := hb7.cell
    gi_wp2
    refine ⟨by simp, .inl ⟨_, _, rfl, run_takeDeferred hK, ?_⟩⟩
    refine ⟨_, results_tmp rfl _ _ _, v, rfl, ?_, ?_⟩
    · exact ownsRow_putObj hrow _ hK rfl
    · refine Off.below' (φ := fun k => w.heap.size ≤ k) (((hO3 _).then_ hO ?_).putObj (fun h => by omega) _) (Nat.le_refl _) (fun _ h => h)
      rintro k hk ((h | h) | (h | h)) <;> omega
set_option maxRecDepth 100000 in
set_option maxHeartbeats 4000000 in
theorem those_calls35 (A B : Option Addr) (c d : Nat) (la lb : List Int) (w : World) (hla : la.length ≤ 1000000000) (hlb : lb.length ≤ 1000000000) (hca : la.length ≤ c) (hcb : lb.length ≤ d)
    (hra : ReadsInt w .u32 A la.length la) (hrb : ReadsInt w .u32 B lb.length lb) :
    Calls Try.prog 32 #[.slice A la.length c, .slice B lb.length d, .func (.func 35) #[] #[]] w fun e w' => ∃ v, e = .returned v ∧
      w'.ownsRow w.heap.size 24 1 v (selOf (fun x y => x && !y) (bothOf la lb)).length (nums .u32 (selOf (fun x y => x && !y) (bothOf la lb))) ∧ Below w.heap.size w w' := by
  obtain ⟨p, hp⟩ : ∃ p : Bool → Bool → Bool, (fun x y => x && !y) = p := ⟨_, rfl⟩
  have hstay : ∀ (x y : Bool) (w : World), Calls Try.prog 35 #[.agg #[.bool x, .bool y]] w fun e w' => e = .returned (.bool (p x y)) ∧ Below w.heap.size w w' := by rw [← hp]; exact stays35
  have hbl := bothOf_len la lb
  obtain ⟨i0, hi, iz0, iz1, iz2⟩ := info_parts info24
  rw [hp]
  clear hp
  refine (callsIn_wide (n := 0)).1 ?_
  refine callsIn_of_wp_marks Try.func32 rfl trivial ?_ rfl
  simp only [Try.ntmps32, List.size_toArray, List.length_cons, List.length_nil, Nat.reduceAdd, Nat.reduceSub, Array.replicate_succ, Array.replicate_zero, List.push_toArray, List.append_toArray, List.nil_append, List.cons_append]
  gi_wp2_with (refine ⟨trivial, rfl, ?_⟩; gi_at_call 41; refine (callsIn_wide.2 (both_calls _ _ _ _ _ _ _)).mono ?_; rintro e w' ⟨rfl, rfl⟩)
  obtain ⟨W3, hW3⟩ : ∃ W3, ((((w.alloc (.cells #[.func (.func 35) #[] #[]] 45)).alloc (.cells #[.slice none 0 0] 27)).alloc (.cells #[.slice A la.length c] 27)).alloc (.cells #[.slice B lb.length d] 27)) = W3 := ⟨_, rfl⟩
  have s3 : W3.heap.size = w.heap.size + 4 := by rw [← hW3]; simp
  have hO3 : ∀ φ, Off φ w W3 := fun φ => by rw [← hW3]; exact ((((Off.refl φ w).alloc _).alloc _).alloc _).alloc _
  have x0 : Boxed W3 w.heap.size 45 (.func (.func 35) #[] #[]) := by rw [← hW3]; exact (((Boxed.new w _ _).alloc _).alloc _).alloc _
  have x1 : Boxed W3 (w.heap.size + 1) 27 (.slice none 0 0) := by
    rw [← hW3]; have := ((Boxed.new (w.alloc (.cells #[.func (.func 35) #[] #[]] 45)) 27 (.slice none 0 0)).alloc (.cells #[.slice A la.length c] 27)).alloc (.cells #[.slice B lb.length d] 27); rwa [World.size_alloc] at this
  have x2 : Boxed W3 (w.heap.size + 2) 27 (.slice A la.length c) := by
    rw [← hW3]; have := (Boxed.new ((w.alloc (.cells #[.func (.func 35) #[] #[]] 45)).alloc (.cells #[.slice none 0 0] 27)) 27 (.slice A la.length c)).alloc (.cells #[.slice B lb.length d] 27); rwa [World.size_alloc, World.size_alloc] at this
  have x3 : Boxed W3 (w.heap.size + 3) 27 (.slice B lb.length d) := by
    rw [← hW3]; have := Boxed.new (((w.alloc (.cells #[.func (.func 35) #[] #[]] 45)).alloc (.cells #[.slice none 0 0] 27)).alloc (.cells #[.slice A la.length c] 27)) 27 (.slice B lb.length d); rwa [World.size_alloc, World.size_alloc, World.size_alloc] at this
  have hdat : ∀ {A : Option Addr} {l : List Int}, ReadsInt w .u32 A l.length l → ∀ ad, A = some ad → 0 < l.length → ad.block < w.heap.size := fun hr ad e hp => by
    obtain ⟨ad', e', hc⟩ := hr.2.2 hp
    rw [e] at e'; cases e'
    have := World.block_lt_of_cell? w _ (hc 0 hp)
    unfold Addr.add at this
    simpa using this
  have hd1 := hdat hra
  have hd2 := hdat hrb
  have ra3 : ReadsInt W3 .u32 A la.length la := readsInt_of_block hra (fun ad e hp => (hO3 (fun _ => False)).block _ (hd1 ad e hp) id)
  have rb3 : ReadsInt W3 .u32 B lb.length lb := readsInt_of_block hrb (fun ad e hp => (hO3 (fun _ => False)).block _ (hd2 ad e hp) id)
  rw [hW3]
  refine wpIn_range (α := Int × Bool × Bool) (lb := #[.pointer (some ⟨w.heap.size + 2, 0, none⟩), .pointer (some ⟨w.heap.size + 3, 0, none⟩)]) rfl (enters_of Try.func47 (by kernel_rfl) rfl)
    (both_iter (w.heap.size + 2) (w.heap.size + 3) la lb (by omega) (by omega) (by omega) (fun k => k < w.heap.size) (by omega) (by omega) W3 (by intro k hk; omega)
      ⟨A, c, x2, hca, ra3, hd1⟩ ⟨B, d, x3, hcb, rb3, hd2⟩) (fun _ => rfl)
    (fun pre ψ V => ∃ v, ψ = (fun k => k = w.heap.size ∨ k = w.heap.size + 1 ∨ v.ownBlock = some k) ∧ Boxed V w.heap.size 45 (.func (.func 35) #[] #[]) ∧ Boxed V (w.heap.size + 1) 27 v ∧
      V.ownsRow w.heap.size 24 1 v (selOf p pre).length (nums .u32 (selOf p pre)) ∧ (∀ k, v.ownBlock = some k → w.heap.size + 4 ≤ k))
    (fun k => k = w.heap.size ∨ k = w.heap.size + 1) ?hex ?hst ?hdis ?h0 ?body ?done
  case hex =>
    rintro pre ψ V ⟨v, rfl, hb5, hb7, hrow, -⟩ k (rfl | rfl | h)
    · exact hb5.lt
    · exact hb7.lt
    · exact own_lt hrow k h
  case hst =>
    rintro pre ψ V V' ⟨v, rfl, hb5, hb7, hrow, hk⟩ hO
    exact ⟨v, rfl, (hO.block _ hb5.lt (fun h => h (.inl rfl))).trans hb5, (hO.block _ hb7.lt (fun h => h (.inr (.inl rfl)))).trans hb7, own_move hrow (fun k hk => hO.block _ (own_lt hrow k hk) (fun h => h (.inr (.inr hk)))), hk⟩
  case hdis =>
    rintro k (rfl | rfl) (h | h | h) <;> omega
  case h0 =>
    exact ⟨.slice none 0 0, by simp [Value.ownBlock], x0, x1, own_nil _ _ _ _, by simp [Value.ownBlock]⟩
  case body =>
    rintro l2 pre x ψ V K ⟨v, rfl, hb5, hb7, hrow, hvk⟩ hpre hl2 hnl hlt hK
    obtain ⟨x, s1, s2⟩ := x
    gi_wp2
    refine hK _ _ ((Off.refl _ _).alloc _) ?_
    rintro V2 hO2 hz2 ⟨v', hψ, hb5', hb7', hrow', hvk'⟩
    have hside : V2.heap[V.heap.size]? = some (.cells #[.bool s1, .bool s2] 44 (0, 0)) := (hO2.block _ (by simp) (by intro h; omega)).trans (World.alloc_heap_new V _)
    have t1 : V2.cell? ⟨V.heap.size, 0, none⟩ = some (.bool s1) := cell_of_block hside
    have t2 : V2.cell? ⟨V.heap.size, 1, none⟩ = some (.bool s2) := cell_of_block hside
    have zV2 : V2.heap.size = V.heap.size + 1 := by rw [hz2]; simp
    have hV : w.heap.size + 4 ≤ V.heap.size := by omega
    have hpl : (selOf p pre).length < 2000000000 := by
      have h1 := selOf_len p pre
      have h2 := hpre.length_le
      rw [List.length_append, List.length_singleton] at h2
      omega
    clear hb5 hb7 hrow hvk hK hW3 x0 x1 x2 x3 ra3 rb3 hd1 hd2 hdat
    have c5 := hb5'.cell
    have c7 := hb7'.cell
    have fin : ∀ (V4 : World) (ac : Act) (u : Value), (∀ k, u.ownBlock = some k → v'.ownBlock = some k ∨ V2.heap.size ≤ k) → Boxed V4 w.heap.size 45 (.func (.func 35) #[] #[]) → Boxed V4 (w.heap.size + 1) 27 u →
        V4.ownsRow w.heap.size 24 1 u (selOf p (pre ++ [(x, s1, s2)])).length (nums .u32 (selOf p (pre ++ [(x, s1, s2)]))) → Off (fun k => k = w.heap.size + 1 ∨ v'.ownBlock = some k) V2 V4 →
        RoundEnd (fun pre ψ V => ∃ v, ψ = (fun k => k = w.heap.size ∨ k = w.heap.size + 1 ∨ v.ownBlock = some k) ∧ Boxed V w.heap.size 45 (.func (.func 35) #[] #[]) ∧ Boxed V (w.heap.size + 1) 27 v ∧
      V.ownsRow w.heap.size 24 1 v (selOf p pre).length (nums .u32 (selOf p pre)) ∧ (∀ k, v.ownBlock = some k → w.heap.size + 4 ≤ k)) (pre ++ [(x, s1, s2)]) (fun k => k = w.heap.size ∨ k = w.heap.size + 1 ∨ v.ownBlock = some k) V.heap.size V2 .normal ac V4 := by
      intro V4 ac u hu hb5 hb7 hrow hO
      rw [hψ]
      refine ⟨rfl, (fun k => k = w.heap.size ∨ k = w.heap.size + 1 ∨ u.ownBlock = some k), ?_, ⟨u, rfl, hb5, hb7, hrow, ?_⟩, hO.mono ?_⟩
      · rintro k (h | h | h)
        · exact .inl (.inl h)
        · exact .inl (.inr (.inl h))
        · rcases hu k h with h | h
          · exact .inl (.inr (.inr h))
          · exact .inr (by omega)
      · intro k h
        rcases hu k h with h | h
        · exact hvk' k h
        · omega
      · rintro k - (h | h)
        · exact .inl (.inr (.inl h))
        · exact .inl (.inr (.inr h))
    have hs := hstay s1 s2
    cases hps : p s1 s2
    · rw [hps] at hs
      gi_wp2_with (refine ⟨trivial, rfl, ?_⟩; gi_at_call 35; refine (CallsIn.inRound l2 (callsIn_wide.2 (hs _))).mono ?_; rintro e V3 ⟨rfl, hB3⟩)
      refine fin _ _ v' (fun k h => .inl h) ((hB3.block _ hb5'.lt).trans hb5') ((hB3.block _ hb7'.lt).trans hb7') ?_ ((Off.of_below hB3).mono (fun k hk h => by omega))
      rw [selOf_miss pre (x := (x, s1, s2)) hps]
      exact pw_own_below hrow' hB3
    · rw [hps] at hs
      gi_wp2_with (first | (refine ⟨trivial, rfl, ?_⟩; gi_at_call 35; refine (CallsIn.inRound l2 (callsIn_wide.2 (hs _))).mono ?_; rintro e V3 ⟨rfl, hB3⟩; have b73 := (show Boxed V3 (w.heap.size + 1) 27 v' from (hB3.block _ hb7'.lt).trans hb7'); have c7 := b73.cell; have hrow3 := pw_own_below hrow' hB3; have z3 := hB3.size) | (gi_at_builtin; go_loud (refine wpListIn_append_own_at _ rfl _ _ 27 rfl w.heap.size 24 i0 (.int .u32 0) 1 4 Try.underlying27 hi iz0 iz1 iz2 rfl (by decide) _ _ _ rfl (hrow3.alloc _) ⟨V3.heap.size, 0, none⟩ 1 1 [.int .u32 x] rfl rfl (cell_one_new _ _ _) (by simp [Value.oneCell']) (by simp [maxLen]; omega) (by omega) (by simp; omega) ?_; intro v1 w1 hown' hgrow _ hat; obtain ⟨g', cap', rfl⟩ := ownsRow_succ hown'; obtain ⟨hv1, hv2, hr2, hk2, hb2⟩ := b73.appended (by decide) hrow3 (by omega) (by omega) hown' hgrow; have hc1 := hv1.cell; have hf1 := hv1.frozen)))
      have hO4 : Off (fun k => k = w.heap.size + 1 ∨ v'.ownBlock = some k) V2 (w1.setCell ⟨w.heap.size + 1, 0, none⟩ (.slice (some ⟨g', 0, none⟩) ((selOf p pre).length + 1) cap')) :=
        ((((Off.of_below hB3).mono (fun k hk h => by omega)).alloc _).grown hgrow (fun k e _ => .inr e)).setCell (fun _ => .inl rfl) _
      refine fin _ _ _ ?_ ?_ hv2 ?_ hO4
      · intro k h
        rcases hat with h' | h'
        · exact .inl (h'.symm.trans h)
        · rw [h'] at h
          simp at h
          exact .inr (by omega)
      · exact (hO4.block _ hb5'.lt (by rintro (h | h); omega; have := hvk' _ h; omega)).trans hb5'
      · rw [selOf_hit pre (x := (x, s1, s2)) hps]
        simpa [nums] using hr2
  case done =>
    rintro Dd ψ' V ⟨v, rfl, hb5, hb7, hrow, hvk⟩ hO hDd hnD hsub hK
    have c7 := hb7.cell
    gi_wp2
    refine ⟨by simp, .inl ⟨_, _, rfl, run_takeDeferred hK, ?_⟩⟩
    refine ⟨_, results_tmp rfl _ _ _, v, rfl, ?_, ?_⟩
    · exact ownsRow_putObj hrow _ hK rfl
    · refine Off.below' (φ := fun k => w.heap.size ≤ k) (((hO3 _).then_ hO ?_).putObj (fun h => by omega) _) (Nat.le_refl _) (fun _ h => h)
      rintro k hk ((h | h) | (h | h)) <;> omega
theorem rdu {w : World} {k : IntKind} {A : Option Addr} {l : List Int} (h : Kd.C (Kd.int k) w A l.length l) : ReadsInt w k A l.length l := Kd.reads_of_C (enc := Value.int k) (d := (0 : Int)) (h1 := fun _ => rfl) h

def set_Union.f (l0 : List Int) (l1 : List Int) : Option (List Int) := if l0.length ≤ 1000000000 ∧ l1.length ≤ 1000000000 then some (selOf (fun x y => x || y) (bothOf l0 l1)) else none
theorem set_Union.calls (A0 : Option Addr) (c0 : Nat) (l0 : List Int) (A1 : Option Addr) (c1 : Nat) (l1 : List Int) (r : List Int) (w : World) (hr0 : Kd.C (Kd.int .u32) w A0 l0.length l0) (hc0 : l0.length ≤ c0) (hr1 : Kd.C (Kd.int .u32) w A1 l1.length l1) (hc1 : l1.length ≤ c1) (h : set_Union.f l0 l1 = some r) :
    Calls Try.prog 19 #[.slice A0 l0.length c0, .slice A1 l1.length c1] w fun e w' => ∃ v0_ : Value, e = .returned (v0_) ∧ Kd.R (Kd.int .u32) 24 w' w.heap.size (fun _ => True) v0_ r ∧ Below w.heap.size w w' := by
  unfold set_Union.f at h
  split at h
  next hl =>
    cases h
    go_enter Try.func19, Try.ntmps19
    go_wp2_with (go_at_call 32; refine (those_calls33 A0 A1 c0 c1 l0 l1 _ hl.1 hl.2 hc0 hc1 (rdu hr0) (rdu hr1)).mono ?_; rintro e w' ⟨v, rfl, hrow, hB⟩)
    go_ret
    exact ⟨v, rfl, Kd.R_of_own hrow (fun _ _ => trivial), hB⟩
  next => cases h

def set_Inter.f (l0 : List Int) (l1 : List Int) : Option (List Int) := if l0.length ≤ 1000000000 ∧ l1.length ≤ 1000000000 then some (selOf (fun x y => x && y) (bothOf l0 l1)) else none
theorem set_Inter.calls (A0 : Option Addr) (c0 : Nat) (l0 : List Int) (A1 : Option Addr) (c1 : Nat) (l1 : List Int) (r : List Int) (w : World) (hr0 : Kd.C (Kd.int .u32) w A0 l0.length l0) (hc0 : l0.length ≤ c0) (hr1 : Kd.C (Kd.int .u32) w A1 l1.length l1) (hc1 : l1.length ≤ c1) (h : set_Inter.f l0 l1 = some r) :
    Calls Try.prog 20 #[.slice A0 l0.length c0, .slice A1 l1.length c1] w fun e w' => ∃ v0_ : Value, e = .returned (v0_) ∧ Kd.R (Kd.int .u32) 24 w' w.heap.size (fun _ => True) v0_ r ∧ Below w.heap.size w w' := by
  unfold set_Inter.f at h
  split at h
  next hl =>
    cases h
    go_enter Try.func20, Try.ntmps20
    go_wp2_with (go_at_call 32; refine (those_calls34 A0 A1 c0 c1 l0 l1 _ hl.1 hl.2 hc0 hc1 (rdu hr0) (rdu hr1)).mono ?_; rintro e w' ⟨v, rfl, hrow, hB⟩)
    go_ret
    exact ⟨v, rfl, Kd.R_of_own hrow (fun _ _ => trivial), hB⟩
  next => cases h

def set_Minus.f (l0 : List Int) (l1 : List Int) : Option (List Int) := if l0.length ≤ 1000000000 ∧ l1.length ≤ 1000000000 then some (selOf (fun x y => x && !y) (bothOf l0 l1)) else none
theorem set_Minus.calls (A0 : Option Addr) (c0 : Nat) (l0 : List Int) (A1 : Option Addr) (c1 : Nat) (l1 : List Int) (r : List Int) (w : World) (hr0 : Kd.C (Kd.int .u32) w A0 l0.length l0) (hc0 : l0.length ≤ c0) (hr1 : Kd.C (Kd.int .u32) w A1 l1.length l1) (hc1 : l1.length ≤ c1) (h : set_Minus.f l0 l1 = some r) :
    Calls Try.prog 21 #[.slice A0 l0.length c0, .slice A1 l1.length c1] w fun e w' => ∃ v0_ : Value, e = .returned (v0_) ∧ Kd.R (Kd.int .u32) 24 w' w.heap.size (fun _ => True) v0_ r ∧ Below w.heap.size w w' := by
  unfold set_Minus.f at h
  split at h
  next hl =>
    cases h
    go_enter Try.func21, Try.ntmps21
    go_wp2_with (go_at_call 32; refine (those_calls35 A0 A1 c0 c1 l0 l1 _ hl.1 hl.2 hc0 hc1 (rdu hr0) (rdu hr1)).mono ?_; rintro e w' ⟨v, rfl, hrow, hB⟩)
    go_ret
    exact ⟨v, rfl, Kd.R_of_own hrow (fun _ _ => trivial), hB⟩
  next => cases h
end Go.Proofs.Ytkhljamellgcfaa
/-
  A call of a function value that catches nothing, as an arm of a walk; a row of truths told by a number.
-/
namespace Go.Proofs.Ytkhljamellgcfaa
open Go.RowKit Go.Proofs.YtkhljamellgcfaaW.PrintWords Go.Proofs.YtkhljamellgcfaaW.PrintLast Go.Proofs.YtkhljamellgcfaaW.PrintMore

/-! what is known of a block's cells -/
theorem cf2 {w : World} {g t : Nat} {a0 a1 : Value} (h : w.heap[g]? = some (.cells #[a0, a1] t (0, 0))) : w.cell? ⟨g, 0, none⟩ = some a0 ∧ w.cell? ⟨g, 1, none⟩ = some a1 ∧ w.frozen? ⟨g, 0, none⟩ = false ∧ w.frozen? ⟨g, 1, none⟩ = false :=
  ⟨(blk_cell h 0).trans rfl, (blk_cell h 1).trans rfl, blk_frozen h 0, blk_frozen h 1⟩
section
variable {P : Program} {ops : Array Oper} {Q : Exit → Act → World → Prop}
end
section
variable {P : Program} {ops : Array Oper} {Q : Exit → Act → World → Prop} {md : Region.Mode} {S : World → Prop} {ds : List Nat}
end
end Go.Proofs.Ytkhljamellgcfaa
-- written by a program of this session (hprint.py), over the kit's printer





namespace Go.Proofs.Ytkhljamellgcfaa.PSet
open Go.RowKit Go.Proofs.YtkhljamellgcfaaW.PrintWords Go.Proofs.YtkhljamellgcfaaW.PrintLast Go.Proofs.YtkhljamellgcfaaW.PrintMore
attribute [local go_sem] max2_int min2_int max_two min_two max_three min_three max_four min_four   -- for this text's walks alone
set_option linter.unusedVariables false
set_option linter.unusedSimpArgs false



def errW : Option Int → Value
  | none => .nilIface
  | some c => .iface 0 (.int .i64 c)
theorem errW_none : errW none = .nilIface := rfl
theorem errW_some (c : Int) : errW (some c) = .iface 0 (.int .i64 c) := rfl

theorem info24 : (Try.prog.info? 24).map (fun i => (i.zero, i.size, i.bytes)) = some (some (.int .u32 0), 1, 4) := by kernel_rfl
-- the values' own types
/-! #### struct type 29 -/
structure S29 where
  f0 : Bool
  f1 : (List Int)
def z29 : S29 := ⟨false, ([] : List Int)⟩
def k29 : Kd S29 := Kd.iso (Kd.pair Kd.bool (Kd.slice 24 (Kd.int .u32))) (fun x : S29 => (x.f0, x.f1))
theorem k29_open {w : World} {x : S29} {cs : List Value} (h : k29.K w x cs) : ∃ A1 c1, cs = [.bool x.f0, .slice A1 x.f1.length c1] ∧ x.f1.length ≤ c1 ∧ (Kd.int .u32).C w A1 x.f1.length x.f1 := by
  obtain ⟨_, _, rfl, rfl, ⟨A1, c1, rfl, l1, g1⟩⟩ := h
  exact ⟨A1, c1, rfl, l1, g1⟩
theorem k29_mk (w : World) (x : S29) {A1 : Option Addr} {c1 : Nat} (l1 : x.f1.length ≤ c1) (g1 : (Kd.int .u32).C w A1 x.f1.length x.f1) : k29.K w x [.bool x.f0, .slice A1 x.f1.length c1] := ⟨[.bool x.f0], [.slice A1 x.f1.length c1], rfl, rfl, ⟨A1, c1, rfl, l1, g1⟩⟩
theorem k29_openF {W : World} {ok : Nat → Prop} {x : S29} {cs : List Value} (h : Kd.FK k29 W ok x cs) : ∃ A1 c1, cs = [.bool x.f0, .slice A1 x.f1.length c1] ∧ x.f1.length ≤ c1 ∧ Kd.F (Kd.int .u32) W ok A1 x.f1.length x.f1 := by
  obtain ⟨A1, c1, rfl, l1, _⟩ := k29_open (Kd.FK_now h)
  exact ⟨A1, c1, rfl, l1, (fun W' hW => by obtain ⟨A1_, c1_, he, l1_, g1_⟩ := k29_open (h W' hW); injection (Option.some.inj (show some (Value.slice A1 x.f1.length c1) = some (Value.slice A1_ x.f1.length c1_) from congrArg (fun l => l[1]?) he)) with ha_ _ _; rw [ha_]; exact g1_)⟩
theorem k29_mkF (W : World) (ok : Nat → Prop) (x : S29) {A1 : Option Addr} {c1 : Nat} (l1 : x.f1.length ≤ c1) (g1 : Kd.F (Kd.int .u32) W ok A1 x.f1.length x.f1) : Kd.FK k29 W ok x [.bool x.f0, .slice A1 x.f1.length c1] := fun W2 hW => k29_mk W2 x l1 (g1 W2 hW)
def rd_T29 (xs : List S29) (i : Int) : S29 := xs.getD i.toNat z29
theorem at_T29 {w : World} {A : Option Addr} {n : Nat} {xs : List S29} (h : Kd.C k29 w A n xs) (i : Int) (h0 : 0 ≤ i) (h1 : i < n) : ∃ ad A1 c1, A = some ad ∧ w.cell? (ad.add (i.toNat * 2)) = some (.bool (rd_T29 xs i).f0) ∧ w.cell? ⟨(ad.add (i.toNat * 2)).block, (ad.add (i.toNat * 2)).off + 1, none⟩ = some (.slice A1 (rd_T29 xs i).f1.length c1) ∧ (rd_T29 xs i).f1.length ≤ c1 ∧ (Kd.int .u32).C w A1 (rd_T29 xs i).f1.length (rd_T29 xs i).f1 := by
  obtain ⟨ad, c, e, _, hK, hc0⟩ := Kd.C_get h z29 i h0 h1
  have hc : ∀ j u, c[j]? = some u → w.cell? (ad.add (i.toNat * 2 + j)) = some u := hc0
  obtain ⟨A1, c1, rfl, l1, g1⟩ := k29_open hK
  exact ⟨ad, A1, c1, e, hc 0 _ rfl, by rw [← add_field _ _ 1 (by omega)]; exact hc 1 _ rfl, l1, g1⟩

end Go.Proofs.Ytkhljamellgcfaa.PSet
