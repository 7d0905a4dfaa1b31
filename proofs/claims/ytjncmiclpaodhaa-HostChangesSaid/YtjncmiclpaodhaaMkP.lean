/-
  Package set: those, walked.
-/
import Derived.Test.YtjncmiclpaodhaaSetB
import Derived.Maps.OwnIn
import Derived.Test.YtjncmiclpaodhaaSoI
import Derived.Deep.LoopGhost
import Derived.Lib.SliceRun
import Derived.Lib.SlicesCompact
import Derived.Sort.AssemblyPlain
namespace Go.Proofs.Ytjncmiclpaodhaa
open Go.RowKit Go.Shelf Go.Proofs.YtjncmiclpaodhaaW.PrintWords
attribute [local go_sem] Oper.semAt_some

set_option maxRecDepth 100000 in
set_option maxHeartbeats 4000000 in
theorem those_calls33 (A B : Option Addr) (c d : Nat) (la lb : List Int) (w : World) (hla : la.length ≤ 1000000000) (hlb : lb.length ≤ 1000000000) (hca : la.length ≤ c) (hcb : lb.length ≤ d)
    (hra : ReadsInt w .u32 A la.length la) (hrb : ReadsInt w .u32 B lb.length lb) :
    Calls Try.prog 47 #[.slice A la.length c, .slice B lb.length d, .func (.func 70) #[] #[]] w fun e w' => ∃ v, e = .returned v ∧
      w'.ownsRow w.heap.size 23 1 v (selOf (fun x y => x || y) (bothOf la lb)).length (nums .u32 (selOf (fun x y => x || y) (bothOf la lb))) ∧ Below w.heap.size w w' := by
  obtain ⟨p, hp⟩ : ∃ p : Bool → Bool → Bool, (fun x y => x || y) = p := ⟨_, rfl⟩
  have hstay : ∀ (x y : Bool) (w : World), Calls Try.prog 70 #[.agg #[.bool x, .bool y]] w fun e w' => e = .returned (.bool (p x y)) ∧ Below w.heap.size w w' := by rw [← hp]; exact stays33
  have hbl := bothOf_len la lb
  obtain ⟨i0, hi, iz0, iz1, iz2⟩ := info_parts info24
  rw [hp]
  clear hp
  refine (callsIn_wide (n := 0)).1 ?_
  refine callsIn_of_wp_marks Try.func47 rfl trivial ?_ rfl
  simp only [Try.ntmps47, List.size_toArray, List.length_cons, List.length_nil, Nat.reduceAdd, Nat.reduceSub, Array.replicate_succ, Array.replicate_zero, List.push_toArray, List.append_toArray, List.nil_append, List.cons_append]
  gi_wp2_with (refine ⟨trivial, rfl, ?_⟩; gi_at_call 65; refine (callsIn_wide.2 (both_calls _ _ _ _ _ _ _)).mono ?_; rintro e w' ⟨rfl, rfl⟩)
  obtain ⟨W3, hW3⟩ : ∃ W3, ((((w.alloc (.cells #[.func (.func 70) #[] #[]] 89)).alloc (.cells #[.slice none 0 0] 24)).alloc (.cells #[.slice A la.length c] 24)).alloc (.cells #[.slice B lb.length d] 24)) = W3 := ⟨_, rfl⟩
  have s3 : W3.heap.size = w.heap.size + 4 := by rw [← hW3]; simp
  have hO3 : ∀ φ, Off φ w W3 := fun φ => by rw [← hW3]; exact ((((Off.refl φ w).alloc _).alloc _).alloc _).alloc _
  have x0 : Boxed W3 w.heap.size 89 (.func (.func 70) #[] #[]) := by rw [← hW3]; exact (((Boxed.new w _ _).alloc _).alloc _).alloc _
  have x1 : Boxed W3 (w.heap.size + 1) 24 (.slice none 0 0) := by
    rw [← hW3]; have := ((Boxed.new (w.alloc (.cells #[.func (.func 70) #[] #[]] 89)) 24 (.slice none 0 0)).alloc (.cells #[.slice A la.length c] 24)).alloc (.cells #[.slice B lb.length d] 24); rwa [World.size_alloc] at this
  have x2 : Boxed W3 (w.heap.size + 2) 24 (.slice A la.length c) := by
    rw [← hW3]; have := (Boxed.new ((w.alloc (.cells #[.func (.func 70) #[] #[]] 89)).alloc (.cells #[.slice none 0 0] 24)) 24 (.slice A la.length c)).alloc (.cells #[.slice B lb.length d] 24); rwa [World.size_alloc, World.size_alloc] at this
  have x3 : Boxed W3 (w.heap.size + 3) 24 (.slice B lb.length d) := by
    rw [← hW3]; have := Boxed.new (((w.alloc (.cells #[.func (.func 70) #[] #[]] 89)).alloc (.cells #[.slice none 0 0] 24)).alloc (.cells #[.slice A la.length c] 24)) 24 (.slice B lb.length d); rwa [World.size_alloc, World.size_alloc, World.size_alloc] at this
  have hdat : ∀ {A : Option Addr} {l : List Int}, ReadsInt w .u32 A l.length l → ∀ ad, A = some ad → 0 < l.length → ad.block < w.heap.size := fun hr ad e hp => by
    obtain ⟨ad', e', hc⟩ := hr.2.2 hp
    rw [e] at e'; cases e'
    have := World.block_lt_of_cell? w _ (hc 0 hp)
    unfold Addr.add at this
    simpa using this
  have hd1 := hdat hra
  have hd2 := hdat hrb
  have ra3 : ReadsInt W3 .u32 A la.length la := readsInt_of_block hra (fun ad e hp => (hO3 (fun _ => False)).block _ (hd1 ad e hp) id)
  have rb3 : ReadsInt W3 .u32 B lb.length lb := readsInt_of_block hrb (fun ad e hp => (hO3 (fun _ => False)).block _ (hd2 ad e hp) id)
  rw [hW3]
  refine wpIn_range (α := Int × Bool × Bool) (lb := #[.pointer (some ⟨w.heap.size + 2, 0, none⟩), .pointer (some ⟨w.heap.size + 3, 0, none⟩)]) rfl (enters_of Try.func78 (by kernel_rfl) rfl)
    (both_iter (w.heap.size + 2) (w.heap.size + 3) la lb (by omega) (by omega) (by omega) (fun k => k < w.heap.size) (by omega) (by omega) W3 (by intro k hk; omega)
      ⟨A, c, x2, hca, ra3, hd1⟩ ⟨B, d, x3, hcb, rb3, hd2⟩) (fun _ => rfl)
    (fun pre ψ V => ∃ v, ψ = (fun k => k = w.heap.size ∨ k = w.heap.size + 1 ∨ v.ownBlock = some k) ∧ Boxed V w.heap.size 89 (.func (.func 70) #[] #[]) ∧ Boxed V (w.heap.size + 1) 24 v ∧
      V.ownsRow w.heap.size 23 1 v (selOf p pre).length (nums .u32 (selOf p pre)) ∧ (∀ k, v.ownBlock = some k → w.heap.size + 4 ≤ k))
    (fun k => k = w.heap.size ∨ k = w.heap.size + 1) ?hex ?hst ?hdis ?h0 ?body ?done
  case hex =>
    rintro pre ψ V ⟨v, rfl, hb5, hb7, hrow, -⟩ k (rfl | rfl | h)
    · exact hb5.lt
    · exact hb7.lt
    · exact own_lt hrow k h
  case hst =>
    rintro pre ψ V V' ⟨v, rfl, hb5, hb7, hrow, hk⟩ hO
    exact ⟨v, rfl, (hO.block _ hb5.lt (fun h => h (.inl rfl))).trans hb5, (hO.block _ hb7.lt (fun h => h (.inr (.inl rfl)))).trans hb7, own_move hrow (fun k hk => hO.block _ (own_lt hrow k hk) (fun h => h (.inr (.inr hk)))), hk⟩
  case hdis =>
    rintro k (rfl | rfl) (h | h | h) <;> omega
  case h0 =>
    exact ⟨.slice none 0 0, by simp [Value.ownBlock], x0, x1, own_nil _ _ _ _, by simp [Value.ownBlock]⟩
  case body =>
    rintro l2 pre x ψ V K ⟨v, rfl, hb5, hb7, hrow, hvk⟩ hpre hl2 hnl hlt hK
    obtain ⟨x, s1, s2⟩ := x
    gi_wp2
    refine hK _ _ ((Off.refl _ _).alloc _) ?_
    rintro V2 hO2 hz2 ⟨v', hψ, hb5', hb7', hrow', hvk'⟩
    have hside : V2.heap[V.heap.size]? = some (.cells #[.bool s1, .bool s2] 88 (0, 0)) := (hO2.block _ (by simp) (by intro h; omega)).trans (World.alloc_heap_new V _)
    have t1 : V2.cell? ⟨V.heap.size, 0, none⟩ = some (.bool s1) := cell_of_block hside
    have t2 : V2.cell? ⟨V.heap.size, 1, none⟩ = some (.bool s2) := cell_of_block hside
    have zV2 : V2.heap.size = V.heap.size + 1 := by rw [hz2]; simp
    have hV : w.heap.size + 4 ≤ V.heap.size := by omega
    have hpl : (selOf p pre).length < 2000000000 := by
      have h1 := selOf_len p pre
      have h2 := hpre.length_le
      rw [List.length_append, List.length_singleton] at h2
      omega
    clear hb5 hb7 hrow hvk hK hW3 x0 x1 x2 x3 ra3 rb3 hd1 hd2 hdat
    have c5 := hb5'.cell
    have c7 := hb7'.cell
    have fin : ∀ (V4 : World) (ac : Act) (u : Value), (∀ k, u.ownBlock = some k → v'.ownBlock = some k ∨ V2.heap.size ≤ k) → Boxed V4 w.heap.size 89 (.func (.func 70) #[] #[]) → Boxed V4 (w.heap.size + 1) 24 u →
        V4.ownsRow w.heap.size 23 1 u (selOf p (pre ++ [(x, s1, s2)])).length (nums .u32 (selOf p (pre ++ [(x, s1, s2)]))) → Off (fun k => k = w.heap.size + 1 ∨ v'.ownBlock = some k) V2 V4 →
        RoundEnd (fun pre ψ V => ∃ v, ψ = (fun k => k = w.heap.size ∨ k = w.heap.size + 1 ∨ v.ownBlock = some k) ∧ Boxed V w.heap.size 89 (.func (.func 70) #[] #[]) ∧ Boxed V (w.heap.size + 1) 24 v ∧
      V.ownsRow w.heap.size 23 1 v (selOf p pre).length (nums .u32 (selOf p pre)) ∧ (∀ k, v.ownBlock = some k → w.heap.size + 4 ≤ k)) (pre ++ [(x, s1, s2)]) (fun k => k = w.heap.size ∨ k = w.heap.size + 1 ∨ v.ownBlock = some k) V.heap.size V2 .normal ac V4 := by
      intro V4 ac u hu hb5 hb7 hrow hO
      rw [hψ]
      refine ⟨rfl, (fun k => k = w.heap.size ∨ k = w.heap.size + 1 ∨ u.ownBlock = some k), ?_, ⟨u, rfl, hb5, hb7, hrow, ?_⟩, hO.mono ?_⟩
      · rintro k (h | h | h)
        · exact .inl (.inl h)
        · exact .inl (.inr (.inl h))
        · rcases hu k h with h | h
          · exact .inl (.inr (.inr h))
          · exact .inr (by omega)
      · intro k h
        rcases hu k h with h | h
        · exact hvk' k h
        · omega
      · rintro k - (h | h)
        · exact .inl (.inr (.inl h))
        · exact .inl (.inr (.inr h))
    have hs := hstay s1 s2
    cases hps : p s1 s2
    · rw [hps] at hs
      gi_wp2_with (refine ⟨trivial, rfl, ?_⟩; gi_at_call 70; refine (CallsIn.inRound l2 (callsIn_wide.2 (hs _))).mono ?_; rintro e V3 ⟨rfl, hB3⟩)
      refine fin _ _ v' (fun k h => .inl h) ((hB3.block _ hb5'.lt).trans hb5') ((hB3.block _ hb7'.lt).trans hb7') ?_ ((Off.of_below hB3).mono (fun k hk h => by omega))
      rw [selOf_miss pre (x := (x, s1, s2)) hps]
      exact pw_own_below hrow' hB3
    · rw [hps] at hs
      gi_wp2_with (first | (refine ⟨trivial, rfl, ?_⟩; gi_at_call 70; refine (CallsIn.inRound l2 (callsIn_wide.2 (hs _))).mono ?_; rintro e V3 ⟨rfl, hB3⟩; have b73 := (show Boxed V3 (w.heap.size + 1) 24 v' from (hB3.block _ hb7'.lt).trans hb7'); have c7 := b73.cell; have hrow3 := pw_own_below hrow' hB3; have z3 := hB3.size) | (gi_at_builtin; go_loud (refine wpListIn_append_own_at _ rfl _ _ 24 rfl w.heap.size 23 i0 (.int .u32 0) 1 4 Try.underlying24 hi iz0 iz1 iz2 rfl (by decide) _ _ _ rfl (hrow3.alloc _) ⟨V3.heap.size, 0, none⟩ 1 1 [.int .u32 x] rfl rfl (cell_one_new _ _ _) (by simp [Value.oneCell']) (by simp [maxLen]; omega) (by omega) (by simp; omega) ?_; intro v1 w1 hown' hgrow _ hat; obtain ⟨g', cap', rfl⟩ := ownsRow_succ hown'; obtain ⟨hv1, hv2, hr2, hk2, hb2⟩ := b73.appended (by decide) hrow3 (by omega) (by omega) hown' hgrow; have hc1 := hv1.cell; have hf1 := hv1.frozen)))
      have hO4 : Off (fun k => k = w.heap.size + 1 ∨ v'.ownBlock = some k) V2 (w1.setCell ⟨w.heap.size + 1, 0, none⟩ (.slice (some ⟨g', 0, none⟩) ((selOf p pre).length + 1) cap')) :=
        ((((Off.of_below hB3).mono (fun k hk h => by omega)).alloc _).grown hgrow (fun k e _ => .inr e)).setCell (fun _ => .inl rfl) _
      refine fin _ _ _ ?_ ?_ hv2 ?_ hO4
      · intro k h
        rcases hat with h' | h'
        · exact .inl (h'.symm.trans h)
        · rw [h'] at h
          simp at h
          exact .inr (by omega)
      · exact (hO4.block _ hb5'.lt (by rintro (h | h); omega; have := hvk' _ h; omega)).trans hb5'
      · rw [selOf_hit pre (x := (x, s1, s2)) hps]
        simpa [nums] using hr2
  case done =>
    rintro Dd ψ' V ⟨v, rfl, hb5, hb7, hrow, hvk⟩ hO hDd hnD hsub hK
    have c7 := hb7.cell
    gi_wp2
    refine ⟨by simp, .inl ⟨_, _, rfl, run_takeDeferred hK, ?_⟩⟩
    refine ⟨_, results_tmp rfl _ _ _, v, rfl, ?_, ?_⟩
    · exact ownsRow_putObj hrow _ hK rfl
    · refine Off.below' (φ := fun k => w.heap.size ≤ k) (((hO3 _).then_ hO ?_).putObj (fun h => by omega) _) (Nat.le_refl _) (fun _ h => h)
      rintro k hk ((h | h) | (h | h)) <;> omega
set_option maxRecDepth 100000 in
set_option maxHeartbeats 4000000 in
theorem those_calls34 (A B : Option Addr) (c d : Nat) (la lb : List Int) (w : World) (hla : la.length ≤ 1000000000) (hlb : lb.length ≤ 1000000000) (hca : la.length ≤ c) (hcb : lb.length ≤ d)
    (hra : ReadsInt w .u32 A la.length la) (hrb : ReadsInt w .u32 B lb.length lb) :
    Calls Try.prog 47 #[.slice A la.length c, .slice B lb.length d, .func (.func 71) #[] #[]] w fun e w' => ∃ v, e = .returned v ∧
      w'.ownsRow w.heap.size 23 1 v (selOf (fun x y => x && y) (bothOf la lb)).length (nums .u32 (selOf (fun x y => x && y) (bothOf la lb))) ∧ Below w.heap.size w w' := by
  obtain ⟨p, hp⟩ : ∃ p : Bool → Bool → Bool, (fun x y => x && y) = p := ⟨_, rfl⟩
  have hstay : ∀ (x y : Bool) (w : World), Calls Try.prog 71 #[.agg #[.bool x, .bool y]] w fun e w' => e = .returned (.bool (p x y)) ∧ Below w.heap.size w w' := by rw [← hp]; exact stays34
  have hbl := bothOf_len la lb
  obtain ⟨i0, hi, iz0, iz1, iz2⟩ := info_parts info24
  rw [hp]
  clear hp
  refine (callsIn_wide (n := 0)).1 ?_
  refine callsIn_of_wp_marks Try.func47 rfl trivial ?_ rfl
  simp only [Try.ntmps47, List.size_toArray, List.length_cons, List.length_nil, Nat.reduceAdd, Nat.reduceSub, Array.replicate_succ, Array.replicate_zero, List.push_toArray, List.append_toArray, List.nil_append, List.cons_append]
  gi_wp2_with (refine ⟨trivial, rfl, ?_⟩; gi_at_call 65; refine (callsIn_wide.2 (both_calls _ _ _ _ _ _ _)).mono ?_; rintro e w' ⟨rfl, rfl⟩)
  obtain ⟨W3, hW3⟩ : ∃ W3, ((((w.alloc (.cells #[.func (.func 71) #[] #[]] 89)).alloc (.cells #[.slice none 0 0] 24)).alloc (.cells #[.slice A la.length c] 24)).alloc (.cells #[.slice B lb.length d] 24)) = W3 := ⟨_, rfl⟩
  have s3 : W3.heap.size = w.heap.size + 4 := by rw [← hW3]; simp
  have hO3 : ∀ φ, Off φ w W3 := fun φ => by rw [← hW3]; exact ((((Off.refl φ w).alloc _).alloc _).alloc _).alloc _
  have x0 : Boxed W3 w.heap.size 89 (.func (.func 71) #[] #[]) := by rw [← hW3]; exact (((Boxed.new w _ _).alloc _).alloc _).alloc _
  have x1 : Boxed W3 (w.heap.size + 1) 24 (.slice none 0 0) := by
    rw [← hW3]; have := ((Boxed.new (w.alloc (.cells #[.func (.func 71) #[] #[]] 89)) 24 (.slice none 0 0)).alloc (.cells #[.slice A la.length c] 24)).alloc (.cells #[.slice B lb.length d] 24); rwa [World.size_alloc] at this
  have x2 : Boxed W3 (w.heap.size + 2) 24 (.slice A la.length c) := by
    rw [← hW3]; have := (Boxed.new ((w.alloc (.cells #[.func (.func 71) #[] #[]] 89)).alloc (.cells #[.slice none 0 0] 24)) 24 (.slice A la.length c)).alloc (.cells #[.slice B lb.length d] 24); rwa [World.size_alloc, World.size_alloc] at this
  have x3 : Boxed W3 (w.heap.size + 3) 24 (.slice B lb.length d) := by
    rw [← hW3]; have := Boxed.new (((w.alloc (.cells #[.func (.func 71) #[] #[]] 89)).alloc (.cells #[.slice none 0 0] 24)).alloc (.cells #[.slice A la.length c] 24)) 24 (.slice B lb.length d); rwa [World.size_alloc, World.size_alloc, World.size_alloc] at this
  have hdat : ∀ {A : Option Addr} {l : List Int}, ReadsInt w .u32 A l.length l → ∀ ad, A = some ad → 0 < l.length → ad.block < w.heap.size := fun hr ad e hp => by
    obtain ⟨ad', e', hc⟩ := hr.2.2 hp
    rw [e] at e'; cases e'
    have := World.block_lt_of_cell? w _ (hc 0 hp)
    unfold Addr.add at this
    simpa using this
  have hd1 := hdat hra
  have hd2 := hdat hrb
  have ra3 : ReadsInt W3 .u32 A la.length la := readsInt_of_block hra (fun ad e hp => (hO3 (fun _ => False)).block _ (hd1 ad e hp) id)
  have rb3 : ReadsInt W3 .u32 B lb.length lb := readsInt_of_block hrb (fun ad e hp => (hO3 (fun _ => False)).block _ (hd2 ad e hp) id)
  rw [hW3]
  refine wpIn_range (α := Int × Bool × Bool) (lb := #[.pointer (some ⟨w.heap.size + 2, 0, none⟩), .pointer (some ⟨w.heap.size + 3, 0, none⟩)]) rfl (enters_of Try.func78 (by kernel_rfl) rfl)
    (both_iter (w.heap.size + 2) (w.heap.size + 3) la lb (by omega) (by omega) (by omega) (fun k => k < w.heap.size) (by omega) (by omega) W3 (by intro k hk; omega)
      ⟨A, c, x2, hca, ra3, hd1⟩ ⟨B, d, x3, hcb, rb3, hd2⟩) (fun _ => rfl)
    (fun pre ψ V => ∃ v, ψ = (fun k => k = w.heap.size ∨ k = w.heap.size + 1 ∨ v.ownBlock = some k) ∧ Boxed V w.heap.size 89 (.func (.func 71) #[] #[]) ∧ Boxed V (w.heap.size + 1) 24 v ∧
      V.ownsRow w.heap.size 23 1 v (selOf p pre).length (nums .u32 (selOf p pre)) ∧ (∀ k, v.ownBlock = some k → w.heap.size + 4 ≤ k))
    (fun k => k = w.heap.size ∨ k = w.heap.size + 1) ?hex ?hst ?hdis ?h0 ?body ?done
  case hex =>
    rintro pre ψ V ⟨v, rfl, hb5, hb7, hrow, -⟩ k (rfl | rfl | h)
    · exact hb5.lt
    · exact hb7.lt
    · exact own_lt hrow k h
  case hst =>
    rintro pre ψ V V' ⟨v, rfl, hb5, hb7, hrow, hk⟩ hO
    exact ⟨v, rfl, (hO.block _ hb5.lt (fun h => h (.inl rfl))).trans hb5, (hO.block _ hb7.lt (fun h => h (.inr (.inl rfl)))).trans hb7, own_move hrow (fun k hk => hO.block _ (own_lt hrow k hk) (fun h => h (.inr (.inr hk)))), hk⟩
  case hdis =>
    rintro k (rfl | rfl) (h | h | h) <;> omega
  case h0 =>
    exact ⟨.slice none 0 0, by simp [Value.ownBlock], x0, x1, own_nil _ _ _ _, by simp [Value.ownBlock]⟩
  case body =>
    rintro l2 pre x ψ V K ⟨v, rfl, hb5, hb7, hrow, hvk⟩ hpre hl2 hnl hlt hK
    obtain ⟨x, s1, s2⟩ := x
    gi_wp2
    refine hK _ _ ((Off.refl _ _).alloc _) ?_
    rintro V2 hO2 hz2 ⟨v', hψ, hb5', hb7', hrow', hvk'⟩
    have hside : V2.heap[V.heap.size]? = some (.cells #[.bool s1, .bool s2] 88 (0, 0)) := (hO2.block _ (by simp) (by intro h; omega)).trans (World.alloc_heap_new V _)
    have t1 : V2.cell? ⟨V.heap.size, 0, none⟩ = some (.bool s1) := cell_of_block hside
    have t2 : V2.cell? ⟨V.heap.size, 1, none⟩ = some (.bool s2) := cell_of_block hside
    have zV2 : V2.heap.size = V.heap.size + 1 := by rw [hz2]; simp
    have hV : w.heap.size + 4 ≤ V.heap.size := by omega
    have hpl : (selOf p pre).length < 2000000000 := by
      have h1 := selOf_len p pre
      have h2 := hpre.length_le
      rw [List.length_append, List.length_singleton] at h2
      omega
    clear hb5 hb7 hrow hvk hK hW3 x0 x1 x2 x3 ra3 rb3 hd1 hd2 hdat
    have c5 := hb5'.cell
    have c7 := hb7'.cell
    have fin : ∀ (V4 : World) (ac : Act) (u : Value), (∀ k, u.ownBlock = some k → v'.ownBlock = some k ∨ V2.heap.size ≤ k) → Boxed V4 w.heap.size 89 (.func (.func 71) #[] #[]) → Boxed V4 (w.heap.size + 1) 24 u →
        V4.ownsRow w.heap.size 23 1 u (selOf p (pre ++ [(x, s1, s2)])).length (nums .u32 (selOf p (pre ++ [(x, s1, s2)]))) → Off (fun k => k = w.heap.size + 1 ∨ v'.ownBlock = some k) V2 V4 →
        RoundEnd (fun pre ψ V => ∃ v, ψ = (fun k => k = w.heap.size ∨ k = w.heap.size + 1 ∨ v.ownBlock = some k) ∧ Boxed V w.heap.size 89 (.func (.func 71) #[] #[]) ∧ Boxed V (w.heap.size + 1) 24 v ∧
      V.ownsRow w.heap.size 23 1 v (selOf p pre).length (nums .u32 (selOf p pre)) ∧ (∀ k, v.ownBlock = some k → w.heap.size + 4 ≤ k)) (pre ++ [(x, s1, s2)]) (fun k => k = w.heap.size ∨ k = w.heap.size + 1 ∨ v.ownBlock = some k) V.heap.size V2 .normal ac V4 := by
      intro V4 ac u hu hb5 hb7 hrow hO
      rw [hψ]
      refine ⟨rfl, (fun k => k = w.heap.size ∨ k = w.heap.size + 1 ∨ u.ownBlock = some k), ?_, ⟨u, rfl, hb5, hb7, hrow, ?_⟩, hO.mono ?_⟩
      · rintro k (h | h | h)
        · exact .inl (.inl h)
        · exact .inl (.inr (.inl h))
        · rcases hu k h with h | h
          · exact .inl (.inr (.inr h))
          · exact .inr (by omega)
      · intro k h
        rcases hu k h with h | h
        · exact hvk' k h
        · omega
      · rintro k - (h | h)
        · exact .inl (.inr (.inl h))
        · exact .inl (.inr (.inr h))
    have hs := hstay s1 s2
    cases hps : p s1 s2
    · rw [hps] at hs
      gi_wp2_with (refine ⟨trivial, rfl, ?_⟩; gi_at_call 71; refine (CallsIn.inRound l2 (callsIn_wide.2 (hs _))).mono ?_; rintro e V3 ⟨rfl, hB3⟩)
      refine fin _ _ v' (fun k h => .inl h) ((hB3.block _ hb5'.lt).trans hb5') ((hB3.block _ hb7'.lt).trans hb7') ?_ ((Off.of_below hB3).mono (fun k hk h => by omega))
      rw [selOf_miss pre (x := (x, s1, s2)) hps]
      exact pw_own_below hrow' hB3
    · rw [hps] at hs
      gi_wp2_with (first | (refine ⟨trivial, rfl, ?_⟩; gi_at_call 71; refine (CallsIn.inRound l2 (callsIn_wide.2 (hs _))).mono ?_; rintro e V3 ⟨rfl, hB3⟩; have b73 := (show Boxed V3 (w.heap.size + 1) 24 v' from (hB3.block _ hb7'.lt).trans hb7'); have c7 := b73.cell; have hrow3 := pw_own_below hrow' hB3; have z3 := hB3.size) | (gi_at_builtin; go_loud (refine wpListIn_append_own_at _ rfl _ _ 24 rfl w.heap.size 23 i0 (.int .u32 0) 1 4 Try.underlying24 hi iz0 iz1 iz2 rfl (by decide) _ _ _ rfl (hrow3.alloc _) ⟨V3.heap.size, 0, none⟩ 1 1 [.int .u32 x] rfl rfl (cell_one_new _ _ _) (by simp [Value.oneCell']) (by simp [maxLen]; omega) (by omega) (by simp; omega) ?_; intro v1 w1 hown' hgrow _ hat; obtain ⟨g', cap', rfl⟩ := ownsRow_succ hown'; obtain ⟨hv1, hv2, hr2, hk2, hb2⟩ := b73.appended (by decide) hrow3 (by omega) (by omega) hown' hgrow; have hc1 := hv1.cell; have hf1 := hv1.frozen)))
      have hO4 : Off (fun k => k = w.heap.size + 1 ∨ v'.ownBlock = some k) V2 (w1.setCell ⟨w.heap.size + 1, 0, none⟩ (.slice (some ⟨g', 0, none⟩) ((selOf p pre).length + 1) cap')) :=
        ((((Off.of_below hB3).mono (fun k hk h => by omega)).alloc _).grown hgrow (fun k e _ => .inr e)).setCell (fun _ => .inl rfl) _
      refine fin _ _ _ ?_ ?_ hv2 ?_ hO4
      · intro k h
        rcases hat with h' | h'
        · exact .inl (h'.symm.trans h)
        · rw [h'] at h
          simp at h
          exact .inr (by omega)
      · exact (hO4.block _ hb5'.lt (by rintro (h | h); omega; have := hvk' _ h; omega)).trans hb5'
      · rw [selOf_hit pre (x := (x, s1, s2)) hps]
        simpa [nums] using hr2
  case done =>
    rintro Dd ψ' V ⟨v, rfl, hb5, hb7, hrow, hvk⟩ hO hDd hnD hsub hK
    have c7 := hb7.cell
    gi_wp2
    refine ⟨by simp, .inl ⟨_, _, rfl, run_takeDeferred hK, ?_⟩⟩
    refine ⟨_, results_tmp rfl _ _ _, v, rfl, ?_, ?_⟩
    · exact ownsRow_putObj hrow _ hK rfl
    · refine Off.below' (φ := fun k => w.heap.size ≤ k) (((hO3 _).then_ hO ?_).putObj (fun h => by omega) _) (Nat.le_refl _) (fun _ h => h)
      rintro k hk ((h | h) | (h | h)) <;> omega
set_option maxRecDepth 100000 in
set_option maxHeartbeats 4000000 in
theorem those_calls35 (A B : Option Addr) (c d : Nat) (la lb : List Int) (w : World) (hla : la.length ≤ 1000000000) (hlb : lb.length ≤ 1000000000) (hca : la.length ≤ c) (hcb : lb.length ≤ d)
    (hra : ReadsInt w .u32 A la.length la) (hrb : ReadsInt w .u32 B lb.length lb) :
    Calls Try.prog 47 #[.slice A la.length c, .slice B lb.length d, .func (.func 48) #[] #[]] w fun e w' => ∃ v, e = .returned v ∧
      w'.ownsRow w.heap.size 23 1 v (selOf (fun x y => x && !y) (bothOf la lb)).length (nums .u32 (selOf (fun x y => x && !y) (bothOf la lb))) ∧ Below w.heap.size w w' := by
  obtain ⟨p, hp⟩ : ∃ p : Bool → Bool → Bool, (fun x y => x && !y) = p := ⟨_, rfl⟩
  have hstay : ∀ (x y : Bool) (w : World), Calls Try.prog 48 #[.agg #[.bool x, .bool y]] w fun e w' => e = .returned (.bool (p x y)) ∧ Below w.heap.size w w' := by rw [← hp]; exact stays35
  have hbl := bothOf_len la lb
  obtain ⟨i0, hi, iz0, iz1, iz2⟩ := info_parts info24
  rw [hp]
  clear hp
  refine (callsIn_wide (n := 0)).1 ?_
  refine callsIn_of_wp_marks Try.func47 rfl trivial ?_ rfl
  simp only [Try.ntmps47, List.size_toArray, List.length_cons, List.length_nil, Nat.reduceAdd, Nat.reduceSub, Array.replicate_succ, Array.replicate_zero, List.push_toArray, List.append_toArray, List.nil_append, List.cons_append]
  gi_wp2_with (refine ⟨trivial, rfl, ?_⟩; gi_at_call 65; refine (callsIn_wide.2 (both_calls _ _ _ _ _ _ _)).mono ?_; rintro e w' ⟨rfl, rfl⟩)
  obtain ⟨W3, hW3⟩ : ∃ W3, ((((w.alloc (.cells #[.func (.func 48) #[] #[]] 89)).alloc (.cells #[.slice none 0 0] 24)).alloc (.cells #[.slice A la.length c] 24)).alloc (.cells #[.slice B lb.length d] 24)) = W3 := ⟨_, rfl⟩
  have s3 : W3.heap.size = w.heap.size + 4 := by rw [← hW3]; simp
  have hO3 : ∀ φ, Off φ w W3 := fun φ => by rw [← hW3]; exact ((((Off.refl φ w).alloc _).alloc _).alloc _).alloc _
  have x0 : Boxed W3 w.heap.size 89 (.func (.func 48) #[] #[]) := by rw [← hW3]; exact (((Boxed.new w _ _).alloc _).alloc _).alloc _
  have x1 : Boxed W3 (w.heap.size + 1) 24 (.slice none 0 0) := by
    rw [← hW3]; have := ((Boxed.new (w.alloc (.cells #[.func (.func 48) #[] #[]] 89)) 24 (.slice none 0 0)).alloc (.cells #[.slice A la.length c] 24)).alloc (.cells #[.slice B lb.length d] 24); rwa [World.size_alloc] at this
  have x2 : Boxed W3 (w.heap.size + 2) 24 (.slice A la.length c) := by
    rw [← hW3]; have := (Boxed.new ((w.alloc (.cells #[.func (.func 48) #[] #[]] 89)).alloc (.cells #[.slice none 0 0] 24)) 24 (.slice A la.length c)).alloc (.cells #[.slice B lb.length d] 24); rwa [World.size_alloc, World.size_alloc] at this
  have x3 : Boxed W3 (w.heap.size + 3) 24 (.slice B lb.length d) := by
    rw [← hW3]; have := Boxed.new (((w.alloc (.cells #[.func (.func 48) #[] #[]] 89)).alloc (.cells #[.slice none 0 0] 24)).alloc (.cells #[.slice A la.length c] 24)) 24 (.slice B lb.length d); rwa [World.size_alloc, World.size_alloc, World.size_alloc] at this
  have hdat : ∀ {A : Option Addr} {l : List Int}, ReadsInt w .u32 A l.length l → ∀ ad, A = some ad → 0 < l.length → ad.block < w.heap.size := fun hr ad e hp => by
    obtain ⟨ad', e', hc⟩ := hr.2.2 hp
    rw [e] at e'; cases e'
    have := World.block_lt_of_cell? w _ (hc 0 hp)
    unfold Addr.add at this
    simpa using this
  have hd1 := hdat hra
  have hd2 := hdat hrb
  have ra3 : ReadsInt W3 .u32 A la.length la := readsInt_of_block hra (fun ad e hp => (hO3 (fun _ => False)).block _ (hd1 ad e hp) id)
  have rb3 : ReadsInt W3 .u32 B lb.length lb := readsInt_of_block hrb (fun ad e hp => (hO3 (fun _ => False)).block _ (hd2 ad e hp) id)
  rw [hW3]
  refine wpIn_range (α := Int × Bool × Bool) (lb := #[.pointer (some ⟨w.heap.size + 2, 0, none⟩), .pointer (some ⟨w.heap.size + 3, 0, none⟩)]) rfl (enters_of Try.func78 (by kernel_rfl) rfl)
    (both_iter (w.heap.size + 2) (w.heap.size + 3) la lb (by omega) (by omega) (by omega) (fun k => k < w.heap.size) (by omega) (by omega) W3 (by intro k hk; omega)
      ⟨A, c, x2, hca, ra3, hd1⟩ ⟨B, d, x3, hcb, rb3, hd2⟩) (fun _ => rfl)
    (fun pre ψ V => ∃ v, ψ = (fun k => k = w.heap.size ∨ k = w.heap.size + 1 ∨ v.ownBlock = some k) ∧ Boxed V w.heap.size 89 (.func (.func 48) #[] #[]) ∧ Boxed V (w.heap.size + 1) 24 v ∧
      V.ownsRow w.heap.size 23 1 v (selOf p pre).length (nums .u32 (selOf p pre)) ∧ (∀ k, v.ownBlock = some k → w.heap.size + 4 ≤ k))
    (fun k => k = w.heap.size ∨ k = w.heap.size + 1) ?hex ?hst ?hdis ?h0 ?body ?done
  case hex =>
    rintro pre ψ V ⟨v, rfl, hb5, hb7, hrow, -⟩ k (rfl | rfl | h)
    · exact hb5.lt
    · exact hb7.lt
    · exact own_lt hrow k h
  case hst =>
    rintro pre ψ V V' ⟨v, rfl, hb5, hb7, hrow, hk⟩ hO
    exact ⟨v, rfl, (hO.block _ hb5.lt (fun h => h (.inl rfl))).trans hb5, (hO.block _ hb7.lt (fun h => h (.inr (.inl rfl)))).trans hb7, own_move hrow (fun k hk => hO.block _ (own_lt hrow k hk) (fun h => h (.inr (.inr hk)))), hk⟩
  case hdis =>
    rintro k (rfl | rfl) (h | h | h) <;> omega
  case h0 =>
    exact ⟨.slice none 0 0, by simp [Value.ownBlock], x0, x1, own_nil _ _ _ _, by simp [Value.ownBlock]⟩
  case body =>
    rintro l2 pre x ψ V K ⟨v, rfl, hb5, hb7, hrow, hvk⟩ hpre hl2 hnl hlt hK
    obtain ⟨x, s1, s2⟩ := x
    gi_wp2
    refine hK _ _ ((Off.refl _ _).alloc _) ?_
    rintro V2 hO2 hz2 ⟨v', hψ, hb5', hb7', hrow', hvk'⟩
    have hside : V2.heap[V.heap.size]? = some (.cells #[.bool s1, .bool s2] 88 (0, 0)) := (hO2.block _ (by simp) (by intro h; omega)).trans (World.alloc_heap_new V _)
    have t1 : V2.cell? ⟨V.heap.size, 0, none⟩ = some (.bool s1) := cell_of_block hside
    have t2 : V2.cell? ⟨V.heap.size, 1, none⟩ = some (.bool s2) := cell_of_block hside
    have zV2 : V2.heap.size = V.heap.size + 1 := by rw [hz2]; simp
    have hV : w.heap.size + 4 ≤ V.heap.size := by omega
    have hpl : (selOf p pre).length < 2000000000 := by
      have h1 := selOf_len p pre
      have h2 := hpre.length_le
      rw [List.length_append, List.length_singleton] at h2
      omega
    clear hb5 hb7 hrow hvk hK hW3 x0 x1 x2 x3 ra3 rb3 hd1 hd2 hdat
    have c5 := hb5'.cell
    have c7 := hb7'.cell
    have fin : ∀ (V4 : World) (ac : Act) (u : Value), (∀ k, u.ownBlock = some k → v'.ownBlock = some k ∨ V2.heap.size ≤ k) → Boxed V4 w.heap.size 89 (.func (.func 48) #[] #[]) → Boxed V4 (w.heap.size + 1) 24 u →
        V4.ownsRow w.heap.size 23 1 u (selOf p (pre ++ [(x, s1, s2)])).length (nums .u32 (selOf p (pre ++ [(x, s1, s2)]))) → Off (fun k => k = w.heap.size + 1 ∨ v'.ownBlock = some k) V2 V4 →
        RoundEnd (fun pre ψ V => ∃ v, ψ = (fun k => k = w.heap.size ∨ k = w.heap.size + 1 ∨ v.ownBlock = some k) ∧ Boxed V w.heap.size 89 (.func (.func 48) #[] #[]) ∧ Boxed V (w.heap.size + 1) 24 v ∧
      V.ownsRow w.heap.size 23 1 v (selOf p pre).length (nums .u32 (selOf p pre)) ∧ (∀ k, v.ownBlock = some k → w.heap.size + 4 ≤ k)) (pre ++ [(x, s1, s2)]) (fun k => k = w.heap.size ∨ k = w.heap.size + 1 ∨ v.ownBlock = some k) V.heap.size V2 .normal ac V4 := by
      intro V4 ac u hu hb5 hb7 hrow hO
      rw [hψ]
      refine ⟨rfl, (fun k => k = w.heap.size ∨ k = w.heap.size + 1 ∨ u.ownBlock = some k), ?_, ⟨u, rfl, hb5, hb7, hrow, ?_⟩, hO.mono ?_⟩
      · rintro k (h | h | h)
        · exact .inl (.inl h)
        · exact .inl (.inr (.inl h))
        · rcases hu k h with h | h
          · exact .inl (.inr (.inr h))
          · exact .inr (by omega)
      · intro k h
        rcases hu k h with h | h
        · exact hvk' k h
        · omega
      · rintro k - (h | h)
        · exact .inl (.inr (.inl h))
        · exact .inl (.inr (.inr h))
    have hs := hstay s1 s2
    cases hps : p s1 s2
    · rw [hps] at hs
      gi_wp2_with (refine ⟨trivial, rfl, ?_⟩; gi_at_call 48; refine (CallsIn.inRound l2 (callsIn_wide.2 (hs _))).mono ?_; rintro e V3 ⟨rfl, hB3⟩)
      refine fin _ _ v' (fun k h => .inl h) ((hB3.block _ hb5'.lt).trans hb5') ((hB3.block _ hb7'.lt).trans hb7') ?_ ((Off.of_below hB3).mono (fun k hk h => by omega))
      rw [selOf_miss pre (x := (x, s1, s2)) hps]
      exact pw_own_below hrow' hB3
    · rw [hps] at hs
      gi_wp2_with (first | (refine ⟨trivial, rfl, ?_⟩; gi_at_call 48; refine (CallsIn.inRound l2 (callsIn_wide.2 (hs _))).mono ?_; rintro e V3 ⟨rfl, hB3⟩; have b73 := (show Boxed V3 (w.heap.size + 1) 24 v' from (hB3.block _ hb7'.lt).trans hb7'); have c7 := b73.cell; have hrow3 := pw_own_below hrow' hB3; have z3 := hB3.size) | (gi_at_builtin; go_loud (refine wpListIn_append_own_at _ rfl _ _ 24 rfl w.heap.size 23 i0 (.int .u32 0) 1 4 Try.underlying24 hi iz0 iz1 iz2 rfl (by decide) _ _ _ rfl (hrow3.alloc _) ⟨V3.heap.size, 0, none⟩ 1 1 [.int .u32 x] rfl rfl (cell_one_new _ _ _) (by simp [Value.oneCell']) (by simp [maxLen]; omega) (by omega) (by simp; omega) ?_; intro v1 w1 hown' hgrow _ hat; obtain ⟨g', cap', rfl⟩ := ownsRow_succ hown'; obtain ⟨hv1, hv2, hr2, hk2, hb2⟩ := b73.appended (by decide) hrow3 (by omega) (by omega) hown' hgrow; have hc1 := hv1.cell; have hf1 := hv1.frozen)))
      have hO4 : Off (fun k => k = w.heap.size + 1 ∨ v'.ownBlock = some k) V2 (w1.setCell ⟨w.heap.size + 1, 0, none⟩ (.slice (some ⟨g', 0, none⟩) ((selOf p pre).length + 1) cap')) :=
        ((((Off.of_below hB3).mono (fun k hk h => by omega)).alloc _).grown hgrow (fun k e _ => .inr e)).setCell (fun _ => .inl rfl) _
      refine fin _ _ _ ?_ ?_ hv2 ?_ hO4
      · intro k h
        rcases hat with h' | h'
        · exact .inl (h'.symm.trans h)
        · rw [h'] at h
          simp at h
          exact .inr (by omega)
      · exact (hO4.block _ hb5'.lt (by rintro (h | h); omega; have := hvk' _ h; omega)).trans hb5'
      · rw [selOf_hit pre (x := (x, s1, s2)) hps]
        simpa [nums] using hr2
  case done =>
    rintro Dd ψ' V ⟨v, rfl, hb5, hb7, hrow, hvk⟩ hO hDd hnD hsub hK
    have c7 := hb7.cell
    gi_wp2
    refine ⟨by simp, .inl ⟨_, _, rfl, run_takeDeferred hK, ?_⟩⟩
    refine ⟨_, results_tmp rfl _ _ _, v, rfl, ?_, ?_⟩
    · exact ownsRow_putObj hrow _ hK rfl
    · refine Off.below' (φ := fun k => w.heap.size ≤ k) (((hO3 _).then_ hO ?_).putObj (fun h => by omega) _) (Nat.le_refl _) (fun _ h => h)
      rintro k hk ((h | h) | (h | h)) <;> omega
theorem rdu {w : World} {k : IntKind} {A : Option Addr} {l : List Int} (h : Kd.C (Kd.int k) w A l.length l) : ReadsInt w k A l.length l := Kd.reads_of_C (enc := Value.int k) (d := (0 : Int)) (h1 := fun _ => rfl) h

def set_Union.f (l0 : List Int) (l1 : List Int) : Option (List Int) := if l0.length ≤ 1000000000 ∧ l1.length ≤ 1000000000 then some (selOf (fun x y => x || y) (bothOf l0 l1)) else none
theorem set_Union.calls (A0 : Option Addr) (c0 : Nat) (l0 : List Int) (A1 : Option Addr) (c1 : Nat) (l1 : List Int) (r : List Int) (w : World) (hr0 : Kd.C (Kd.int .u32) w A0 l0.length l0) (hc0 : l0.length ≤ c0) (hr1 : Kd.C (Kd.int .u32) w A1 l1.length l1) (hc1 : l1.length ≤ c1) (h : set_Union.f l0 l1 = some r) :
    Calls Try.prog 57 #[.slice A0 l0.length c0, .slice A1 l1.length c1] w fun e w' => ∃ v0_ : Value, e = .returned (v0_) ∧ Kd.R (Kd.int .u32) 23 w' w.heap.size (fun _ => True) v0_ r ∧ Below w.heap.size w w' := by
  unfold set_Union.f at h
  split at h
  next hl =>
    cases h
    go_enter Try.func57, Try.ntmps57
    go_wp2_with (go_at_call 47; refine (those_calls33 A0 A1 c0 c1 l0 l1 _ hl.1 hl.2 hc0 hc1 (rdu hr0) (rdu hr1)).mono ?_; rintro e w' ⟨v, rfl, hrow, hB⟩)
    go_ret
    exact ⟨v, rfl, Kd.R_of_own hrow (fun _ _ => trivial), hB⟩
  next => cases h

def set_Inter.f (l0 : List Int) (l1 : List Int) : Option (List Int) := if l0.length ≤ 1000000000 ∧ l1.length ≤ 1000000000 then some (selOf (fun x y => x && y) (bothOf l0 l1)) else none
theorem set_Inter.calls (A0 : Option Addr) (c0 : Nat) (l0 : List Int) (A1 : Option Addr) (c1 : Nat) (l1 : List Int) (r : List Int) (w : World) (hr0 : Kd.C (Kd.int .u32) w A0 l0.length l0) (hc0 : l0.length ≤ c0) (hr1 : Kd.C (Kd.int .u32) w A1 l1.length l1) (hc1 : l1.length ≤ c1) (h : set_Inter.f l0 l1 = some r) :
    Calls Try.prog 58 #[.slice A0 l0.length c0, .slice A1 l1.length c1] w fun e w' => ∃ v0_ : Value, e = .returned (v0_) ∧ Kd.R (Kd.int .u32) 23 w' w.heap.size (fun _ => True) v0_ r ∧ Below w.heap.size w w' := by
  unfold set_Inter.f at h
  split at h
  next hl =>
    cases h
    go_enter Try.func58, Try.ntmps58
    go_wp2_with (go_at_call 47; refine (those_calls34 A0 A1 c0 c1 l0 l1 _ hl.1 hl.2 hc0 hc1 (rdu hr0) (rdu hr1)).mono ?_; rintro e w' ⟨v, rfl, hrow, hB⟩)
    go_ret
    exact ⟨v, rfl, Kd.R_of_own hrow (fun _ _ => trivial), hB⟩
  next => cases h

def set_Minus.f (l0 : List Int) (l1 : List Int) : Option (List Int) := if l0.length ≤ 1000000000 ∧ l1.length ≤ 1000000000 then some (selOf (fun x y => x && !y) (bothOf l0 l1)) else none
theorem set_Minus.calls (A0 : Option Addr) (c0 : Nat) (l0 : List Int) (A1 : Option Addr) (c1 : Nat) (l1 : List Int) (r : List Int) (w : World) (hr0 : Kd.C (Kd.int .u32) w A0 l0.length l0) (hc0 : l0.length ≤ c0) (hr1 : Kd.C (Kd.int .u32) w A1 l1.length l1) (hc1 : l1.length ≤ c1) (h : set_Minus.f l0 l1 = some r) :
    Calls Try.prog 27 #[.slice A0 l0.length c0, .slice A1 l1.length c1] w fun e w' => ∃ v0_ : Value, e = .returned (v0_) ∧ Kd.R (Kd.int .u32) 23 w' w.heap.size (fun _ => True) v0_ r ∧ Below w.heap.size w w' := by
  unfold set_Minus.f at h
  split at h
  next hl =>
    cases h
    go_enter Try.func27, Try.ntmps27
    go_wp2_with (go_at_call 47; refine (those_calls35 A0 A1 c0 c1 l0 l1 _ hl.1 hl.2 hc0 hc1 (rdu hr0) (rdu hr1)).mono ?_; rintro e w' ⟨v, rfl, hrow, hB⟩)
    go_ret
    exact ⟨v, rfl, Kd.R_of_own hrow (fun _ _ => trivial), hB⟩
  next => cases h
end Go.Proofs.Ytjncmiclpaodhaa
/-
  slices.Values' iterator, and the slice made of what it yields.
-/
namespace Go.Proofs.Ytjncmiclpaodhaa
open Go.RowKit Go.Shelf Go.Proofs.YtjncmiclpaodhaaW.PrintWords
attribute [local go_sem] Oper.semAt_some
set_option linter.unusedVariables false
set_option linter.unusedSimpArgs false
theorem take_pre {l : List Int} {k : Nat} (h : k < l.length) : l.take k ++ [l.getD k 0] <+: l := by
  have : l.take k ++ [l.getD k 0] = l.take (k + 1) := by
    rw [List.take_add_one]
    congr 1
    rw [List.getD_eq_getElem?_getD, List.getElem?_eq_getElem h]
    rfl
  rw [this]
  exact List.take_prefix _ _
theorem take_snoc {l : List Int} {k : Nat} (h : k < l.length) : l.take k ++ [l.getD k 0] = l.take (k + 1) := by
    rw [List.take_add_one]
    congr 1
    rw [List.getD_eq_getElem?_getD, List.getElem?_eq_getElem h]
    rfl
set_option maxRecDepth 100000 in
set_option maxHeartbeats 2000000 in
theorem vals_iter (Bs : Nat) (A : Option Addr) (c : Nat) (ls : List Int) (hl : ls.length ≤ 1000000000) (dat : Nat → Prop) 
    (w : World) (hdw : ∀ k, dat k → k < w.heap.size) (h1 : Boxed w Bs 24 (.slice A ls.length c)) (hr : ReadsInt w .u32 A ls.length ls) (hd : ∀ ad, A = some ad → 0 < ls.length → dat ad.block) :
    Iter Try.prog 76 #[.pointer (some ⟨Bs, 0, none⟩)] (fun x => #[.int .u32 x]) ls (fun k => k = Bs ∨ dat k) (fun _ => False) w := by
  refine ⟨by rintro k (rfl | h); exact h1.lt; exact hdw k h, ?_⟩
  intro l J φ W hW hex hst hdis hround h0
  have b1 : Boxed W Bs 24 (.slice A ls.length c) := (hW.block _ h1.lt (fun h => h (.inl rfl))).trans h1
  have r1 : ReadsInt W .u32 A ls.length ls := readsInt_of_block hr (fun ad e hp => hW.block _ (hdw _ (hd ad e hp)) (fun h => h (.inr (hd ad e hp))))
  have hdW : ∀ k, dat k → k < W.heap.size := fun k hk => Nat.lt_of_lt_of_le (hdw k hk) hW.size
  have c1 := b1.cell
  clear h1 hr hW hdw
  refine callsIn_of_wp Try.func76 rfl trivial ?_ rfl
  simp only [Try.ntmps76, List.size_toArray, List.length_cons, List.length_nil, Nat.reduceAdd, Nat.reduceSub, Array.replicate_succ, Array.replicate_zero, List.push_toArray, List.append_toArray, List.nil_append, List.cons_append]
  gi_wp2
  gi_loopw [7] (fun i wr => ∃ k : Nat, ∃ ψ, k ≤ ls.length ∧ i = .int .i64 k ∧ J (ls.take k) ψ wr ∧ (∀ k, ψ k → φ k ∨ W.heap.size ≤ k) ∧ Off φ W wr)
    (fun i _ => ls.length - (intOf i).toNat)
  case atStart => exact ⟨0, φ, by omega, by simp, by simpa using h0, fun _ => .inl, Off.refl _ _⟩
  case round =>
    obtain ⟨k, ψ, hk, rfl, hJ, hψ, hO⟩ := hrel
    have rr : ReadsInt wr .u32 A ls.length ls := readsInt_of_block r1 (fun ad e hp => hO.block _ (hdW _ (hd ad e hp)) (fun h => hdis _ h (.inr (hd ad e hp))))
    by_cases hlt : k < ls.length
    · obtain ⟨ad, rfl, hc⟩ := rr.2.2 (by omega)
      have hck := hc k hlt
      clear hc rr
      have hJ' := hst _ _ _ wr.drew hJ (Off.refl _ wr).drew
      have hy := hround (ls.take k) (ls.getD k 0) ψ wr hJ (take_pre hlt)
      have key : ∀ W3 ψ', (∀ k, ψ' k → ψ k ∨ wr.heap.size ≤ k) → J (ls.take k ++ [ls.getD k 0]) ψ' W3 → Off ψ wr W3 →
          J (ls.take (k + 1)) ψ' W3 ∧ (∀ k, ψ' k → φ k ∨ W.heap.size ≤ k) ∧ Off φ W W3 := by
        intro W3 ψ' hψ' hJ3 hO3
        refine ⟨by rw [← take_snoc hlt]; exact hJ3, ?_, ?_⟩
        · intro j hj
          rcases hψ' j hj with h | h
          · exact hψ j h
          · exact .inr (by have := hO.size; omega)
        · exact (hO.then_ hO3 (fun i hi h => by rcases hψ i h with h | h; exact h; omega))
      obtain ⟨x, hx⟩ : ∃ x, x = ls.getD k 0 := ⟨_, rfl⟩
      rw [← hx] at hck hy key
      obtain ⟨fn, tmps, assign, body, hy, hR⟩ := hy
      clear hx
      gi_wp2
      refine ⟨rfl, ?_⟩
      refine hR.mono ?_
      rintro e W3 ⟨rfl, ψ', hψ', hJ3, hO3⟩
      obtain ⟨hJ4, hψ4, hO4⟩ := key W3 ψ' hψ' hJ3 hO3
      clear hJ3 hO3 hψ'
      gi_wp2
      go_roundw
      case rel => exact ⟨k + 1, ψ', by omega, by go_num, hJ4, hψ4, hO4⟩
      case measure => simp [intOf]; omega
    · obtain rfl : k = ls.length := by omega
      gi_wp2
      go_end0
      exact ⟨⟨_, rfl⟩, ψ, hψ, by simpa using hJ, hO.mono (fun _ _ h => .inl h)⟩
theorem values_w (A : Option Addr) (n c : Nat) (w : World) :
    Calls Try.prog 62 #[.slice A n c] w fun e w' => e = .returned (.func (.func 76) #[] #[.pointer (some ⟨w.heap.size, 0, none⟩)]) ∧ w' = w.alloc (.cells #[.slice A n c] 24 (0, 0)) := by
  go_enter Try.func62, Try.ntmps62
  go_wp2
  go_ret
  exact ⟨rfl, rfl⟩
set_option maxRecDepth 100000 in
set_option maxHeartbeats 4000000 in
theorem appseq_w (Bs : Nat) (A : Option Addr) (c : Nat) (ls : List Int) (hl : ls.length ≤ 1000000000) 
    (w : World) (h1 : Boxed w Bs 24 (.slice A ls.length c)) (hr : ReadsInt w .u32 A ls.length ls) :
    Calls Try.prog 81 #[.slice none 0 0, .func (.func 76) #[] #[.pointer (some ⟨Bs, 0, none⟩)]] w fun e w' => ∃ v, e = .returned v ∧
      w'.ownsRow w.heap.size 23 1 v ls.length (nums .u32 ls) ∧ Below w.heap.size w w' := by
  obtain ⟨i0, hi, iz0, iz1, iz2⟩ := info_parts info24
  refine (callsIn_wide (n := 0)).1 ?_
  refine callsIn_of_wp_marks Try.func81 rfl trivial ?_ rfl
  simp only [Try.ntmps81, List.size_toArray, List.length_cons, List.length_nil, Nat.reduceAdd, Nat.reduceSub, Array.replicate_succ, Array.replicate_zero, List.push_toArray, List.append_toArray, List.nil_append, List.cons_append]
  gi_wp2
  obtain ⟨W3, hW3⟩ : ∃ W3, w.alloc (.cells #[.slice none 0 0] 24) = W3 := ⟨_, rfl⟩
  have s3 : W3.heap.size = w.heap.size + 1 := by rw [← hW3]; simp
  have hO3 : ∀ φ, Off φ w W3 := fun φ => by rw [← hW3]; exact (Off.refl φ w).alloc _
  have x1 : Boxed W3 w.heap.size 24 (.slice none 0 0) := by rw [← hW3]; exact Boxed.new w _ _
  have hdat : ∀ ad, A = some ad → 0 < ls.length → ad.block < w.heap.size := fun ad e hp => by
    obtain ⟨ad', e', hc⟩ := hr.2.2 hp
    rw [e] at e'; cases e'
    have := World.block_lt_of_cell? w _ (hc 0 hp)
    unfold Addr.add at this
    simpa using this
  have r3 : ReadsInt W3 .u32 A ls.length ls := readsInt_of_block hr (fun ad e hp => (hO3 (fun _ => False)).block _ (hdat ad e hp) id)
  have b3 : Boxed W3 Bs 24 (.slice A ls.length c) := ((hO3 (fun _ => False)).block _ h1.lt id).trans h1
  have hlt0 := h1.lt
  rw [hW3]
  refine wpIn_range (α := Int) (lb := #[.pointer (some ⟨Bs, 0, none⟩)]) rfl (enters_of Try.func76 (by kernel_rfl) rfl)
    (vals_iter Bs A c ls hl (fun k => k < w.heap.size) W3 (by intro k hk; omega) b3 r3 hdat) (fun _ => rfl)
    (fun pre ψ V => ∃ v, ψ = (fun k => k = w.heap.size ∨ v.ownBlock = some k) ∧ Boxed V w.heap.size 24 v ∧
      V.ownsRow w.heap.size 23 1 v pre.length (nums .u32 pre) ∧ (∀ k, v.ownBlock = some k → w.heap.size + 1 ≤ k))
    (fun k => k = w.heap.size) ?hex ?hst ?hdis ?h0 ?body ?done
  case hex =>
    rintro pre ψ V ⟨v, rfl, hb7, hrow, -⟩ k (rfl | h)
    · exact hb7.lt
    · exact own_lt hrow k h
  case hst =>
    rintro pre ψ V V' ⟨v, rfl, hb7, hrow, hk⟩ hO
    exact ⟨v, rfl, (hO.block _ hb7.lt (fun h => h (.inl rfl))).trans hb7, own_move hrow (fun k hk => hO.block _ (own_lt hrow k hk) (fun h => h (.inr hk))), hk⟩
  case hdis =>
    rintro k rfl (h | h) <;> omega
  case h0 =>
    exact ⟨.slice none 0 0, by simp [Value.ownBlock], x1, own_nil _ _ _ _, by simp [Value.ownBlock]⟩
  case body =>
    rintro l2 pre x ψ V K ⟨v, rfl, hb7, hrow, hvk⟩ hpre hl2 hnl hlt hK
    gi_wp2
    refine hK _ _ (Off.refl _ _) ?_
    rintro V2 hO2 hz2 ⟨v', hψ, hb7', hrow', hvk'⟩
    have hpl : pre.length < 2000000000 := by
      have h2 := hpre.length_le
      rw [List.length_append, List.length_singleton] at h2
      omega
    clear hb7 hrow hvk hK hW3 x1 r3 b3 hdat
    have c7 := hb7'.cell
    have fin : ∀ (V4 : World) (ac : Act) (u : Value), (∀ k, u.ownBlock = some k → v'.ownBlock = some k ∨ V2.heap.size ≤ k) → Boxed V4 w.heap.size 24 u →
        V4.ownsRow w.heap.size 23 1 u (pre ++ [x]).length (nums .u32 (pre ++ [x])) → Off (fun k => k = w.heap.size ∨ v'.ownBlock = some k) V2 V4 →
        RoundEnd (fun pre ψ V => ∃ v, ψ = (fun k => k = w.heap.size ∨ v.ownBlock = some k) ∧ Boxed V w.heap.size 24 v ∧
      V.ownsRow w.heap.size 23 1 v pre.length (nums .u32 pre) ∧ (∀ k, v.ownBlock = some k → w.heap.size + 1 ≤ k)) (pre ++ [x]) (fun k => k = w.heap.size ∨ v.ownBlock = some k) V.heap.size V2 .normal ac V4 := by
      intro V4 ac u hu hb7 hrow hO
      rw [hψ]
      refine ⟨rfl, (fun k => k = w.heap.size ∨ u.ownBlock = some k), ?_, ⟨u, rfl, hb7, hrow, ?_⟩, hO.mono (fun k _ h => .inl h)⟩
      · rintro k (h | h)
        · exact .inl (.inl h)
        · rcases hu k h with h | h
          · exact .inl (.inr h)
          · exact .inr (by omega)
      · intro k h
        rcases hu k h with h | h
        · exact hvk' k h
        · omega
    have hV2 := hb7'.lt
    have HV : Hid (∀ k, v'.ownBlock = some k → w.heap.size + 1 ≤ k) := hvk'
    clear hvk' hψ hz2
    gi_wp2_with (gi_at_builtin; go_loud (refine wpListIn_append_own_at _ rfl _ _ 24 rfl w.heap.size 23 i0 (.int .u32 0) 1 4 Try.underlying24 hi iz0 iz1 iz2 rfl (by decide) _ _ _ rfl (hrow'.alloc _) ⟨V2.heap.size, 0, none⟩ 1 1 [.int .u32 x] rfl rfl (cell_one_new _ _ _) (by simp [Value.oneCell']) (by simp [maxLen]; omega) (by omega) (by simp; omega) ?_; intro v1 w1 hown' hgrow _ hat; obtain ⟨g', cap', rfl⟩ := ownsRow_succ hown'; obtain ⟨hv1, hv2, hr2, hk2, hb2⟩ := hb7'.appended (by decide) hrow' (by omega) (by omega) hown' hgrow; have hc1 := hv1.cell; have hf1 := hv1.frozen))
    have hO4 : Off (fun k => k = w.heap.size ∨ v'.ownBlock = some k) V2 (w1.setCell ⟨w.heap.size, 0, none⟩ (.slice (some ⟨g', 0, none⟩) (pre.length + 1) cap')) :=
      ((((Off.refl _ V2).alloc _).grown hgrow (fun k e _ => .inr e)).setCell (fun _ => .inl rfl) _)
    refine fin _ _ _ ?_ hv2 ?_ hO4
    · intro k h
      rcases hat with h' | h'
      · exact .inl (h'.symm.trans h)
      · rw [h'] at h
        simp at h
        exact .inr (by omega)
    · simpa [nums] using hr2
  case done =>
    rintro Dd ψ' V ⟨v, rfl, hb7, hrow, hvk⟩ hO hDd hnD hsub hK
    have c7 := hb7.cell
    gi_wp2
    refine ⟨by simp, .inl ⟨_, _, rfl, run_takeDeferred hK, ?_⟩⟩
    refine ⟨_, results_tmp rfl _ _ _, v, rfl, ?_, ?_⟩
    · exact ownsRow_putObj hrow _ hK rfl
    · refine Off.below' (φ := fun k => w.heap.size ≤ k) (((hO3 _).then_ hO ?_).putObj (fun h => by omega) _) (Nat.le_refl _) (fun _ h => h)
      rintro k hk (h | h)
      · omega
      · exact h.elim
end Go.Proofs.Ytjncmiclpaodhaa
/-
  Equal neighbours struck out where they lie.
-/
namespace Go.Proofs.Ytjncmiclpaodhaa
open Go.RowKit Go.Sort Go.Lib
set_option linter.unusedVariables false
set_option linter.unusedSimpArgs false
theorem Lies.lay {w0 : World} {g m : Nat} : ∀ (xs : List Int) {w : World} {d : Array Int} (k : Nat), Lies w0 w g m d → k + xs.length ≤ d.size → Lies w0 (w.setCells g k (xs.map (Value.int .u32))) g m (Go.Lib.lay d k xs)
  | [], w, d, k, h, _ => h
  | x :: xs, w, d, k, h, hk => by
    simp only [List.length_cons] at hk
    exact Lies.lay xs (k + 1) (h.set (by omega) x) (by rw [Array.size_setIfInBounds]; omega)
theorem lay_size : ∀ (xs : List Int) (d : Array Int) (k : Nat), (Go.Lib.lay d k xs).size = d.size
  | [], d, k => rfl
  | x :: xs, d, k => by rw [Go.Lib.lay, lay_size xs, Array.size_setIfInBounds]
theorem lay_low (xs : List Int) (d : Array Int) (k j : Nat) (h : k + xs.length ≤ d.size) (hj : j < k) : (Go.Lib.lay d k xs)[j]! = d[j]! := by
  have := lay_get? xs d k j h
  rw [if_neg (by omega)] at this
  rw [getElem!_def, getElem!_def, this]
theorem info24' : (Try.prog.info? 23).map (fun i => i.zero) = some (some (.int .u32 0)) := by kernel_rfl
theorem zero24 (w : World) : (zeroValue 23).run Try.prog w = .ok (.int .u32 0) w := by
  obtain ⟨i, hi, hz⟩ := Option.map_eq_some_iff.1 info24'
  simp [zeroValue, typeInfo, hi, hz]
/-- What is kept lies in front. -/
structure Front (w0 w : World) (g m n : Nat) (L : List Int) : Prop where
  lies : ∃ d', Lies w0 w g m d' ∧ d'.size = n ∧ L.length ≤ n ∧ ∀ j, j < L.length → L[j]? = some d'[j]!
theorem front_same {w0 w : World} {g m n : Nat} {d : Array Int} (h : Lies w0 w g m d) (hn : d.size = n) (hall : ∀ j, j < d.size → keeps d j = true) : (compactUpTo d n).length = n ∧ Front w0 w g m n (compactUpTo d n) := by
  subst hn
  rw [compactUpTo_all d _ hall, range_map_get]
  refine ⟨by simp, ⟨d, h, rfl, by simp, fun j hj => ?_⟩⟩
  rw [Array.length_toList] at hj
  rw [Array.getElem?_toList, Array.getElem?_eq_getElem hj, getElem!_pos d j hj]
set_option maxHeartbeats 8000000 in
set_option maxRecDepth 100000 in
theorem compact_w {g m n cap : Nat} {d : Array Int} {w : World} (h : Lies w w g m d) (hn : d.size = n) (hsz : n < 65536) (hcap : n ≤ cap) :
    Calls Try.prog 60 #[.slice (some ⟨g, 0, none⟩) n cap] w fun e w' => e = .returned (.slice (some ⟨g, 0, none⟩) (compactUpTo d n).length cap) ∧ Front w w' g m n (compactUpTo d n) := by
  have HL := Lib.hid h
  have HN := Lib.hid hn
  clear h
  by_cases h2 : n < 2
  · have hd2 : decide ((n : Int) < 2) = true := decide_eq_true (by omega)
    have HF := Lib.hid (front_same HL.out HN.out (fun j hj => keeps_lt_one d j (by omega)))
    clear hn
    go_enter Try.func60, Try.ntmps60
    go_wp2
    go_ret
    exact ⟨by rw [HF.out.1]; rfl, HF.out.2⟩
  have hd2 : decide ((n : Int) < 2) = false := decide_eq_false (by omega)
  clear hn
  go_enter Try.func60, Try.ntmps60
  go_wp2
  go_loopg [3] n (fun gq s3 wr => ∃ k : Nat, 1 ≤ k ∧ k ≤ n ∧ n - k ≤ gq ∧ s3 = .int .i64 k ∧ Hid (Lies w wr g m d) ∧ Hid (∀ j, j < k → keeps d j = true))
  case atStart => exact ⟨1, Nat.le_refl _, by omega, by omega, rfl, HL, keeps_lt_one d⟩
  case round =>
    obtain ⟨k, hk1, hk, hg, rfl, HK, HA⟩ := hrel
    clear HL
    by_cases hlt : k < n
    · have hdk : decide ((k : Int) < (n : Int)) = true := decide_eq_true (by omega)
      have c1 := HK.out.cell (i := k) (by rw [HN.out]; exact hlt)
      have c0 := HK.out.cell (i := k - 1) (by rw [HN.out]; omega)
      generalize hx : d[k]! = x at c1
      generalize hy : d[k - 1]! = y at c0
      have HB := Lib.hid (show d[k]! = x ∧ d[k - 1]! = y from ⟨hx, hy⟩)
      clear hx hy
      have q3 : (0 : Int) ≤ (k : Int) - 1 := by omega
      have q4 : (k : Int) - 1 < (n : Int) := by omega
      have q5 : ((k : Int) - 1).toNat = k - 1 := by omega
      have q6 : IntKind.i64.wrap ((k : Int) - 1) = (k : Int) - 1 := IntWalk.i64_in _ (by omega)
      have q7 : (k : Int) < (n : Int) := by omega
      by_cases hdup : x = y
      · subst hdup
        go_wp2_with fail
        go_region
        all_goals go_wp2
        all_goals clear c0 c1 q3 q4 q5 q6
        all_goals have HK1 := Lib.hid (show Lies w wr.drew g m d from HK.out.drew)
        clear HK
        go_loopg [3, 5] n (fun gq s3 s5 wr => ∃ (kk k2 : Nat) (dk : Array Int), s3 = .int .i64 kk ∧ s5 = .int .i64 k2 ∧ 1 ≤ k2 ∧ k + k2 ≤ n ∧ n - (k + k2) ≤ gq ∧ kk < k + k2 ∧ Hid (Lies w wr g m dk) ∧ Hid (CompInv d (k + k2) kk dk))
        case atStart => exact ⟨k, 1, d, rfl, rfl, Nat.le_refl _, by omega, by omega, by omega, HK1, CompInv.start HA.out (keeps_neg (by omega) (by rw [HB.out.1, HB.out.2]))⟩
        case round =>
          obtain ⟨kk, k2, dk, rfl, rfl, h1, hle, hg2, hkk, HK, HI⟩ := hrel
          clear HK1
          have HS : Hid (dk.size = n) := HI.out.size.trans HN.out
          by_cases hlt2 : k + k2 < n
          · have hd3 : decide ((k2 : Int) < ((n - k : Nat) : Int)) = true := decide_eq_true (by omega)
            have cm := HK.out.cell (i := k + k2) (by rw [HS.out]; exact hlt2)
            have cp := HK.out.cell (i := k + (k2 - 1)) (by rw [HS.out]; omega)
            rw [HI.out.high (k + k2) (by omega)] at cm
            rw [HI.out.high (k + (k2 - 1)) (by omega)] at cp
            have ck := HK.out.cell (i := kk) (by rw [HS.out]; omega)
            have fk := HK.out.frozen kk
            generalize hu : d[k + k2]! = u at cm
            generalize hv : d[k + (k2 - 1)]! = v at cp
            generalize dk[kk]! = old at ck
            have HC := Lib.hid (show d[k + k2]! = u ∧ d[k + (k2 - 1)]! = v from ⟨hu, hv⟩)
            clear hu hv
            have p2 : k2 < n - k := by omega
            have p3 : (0 : Int) ≤ (k2 : Int) - 1 := by omega
            have p4 : (k2 : Int) - 1 < ((n - k : Nat) : Int) := by omega
            have p5 : ((k2 : Int) - 1).toNat = k2 - 1 := by omega
            have p6 : IntKind.i64.wrap ((k2 : Int) - 1) = (k2 : Int) - 1 := IntWalk.i64_in _ (by omega)
            have p7 : kk < n := by omega
            by_cases huv : u = v
            · subst huv
              go_wp2_with fail
              go_region
              all_goals go_wp2
              go_roundg (n - (k + (k2 + 1)))
              case measure => omega
              case rel => exact ⟨kk, k2 + 1, dk, rfl, by go_num, by omega, by omega, Nat.le_refl _, by omega, HK.out.drew, HI.out.skip (keeps_neg (by omega) (by rw [HC.out.1]; exact HC.out.2.symm.trans (by congr 1; omega)))⟩
            · go_wp2_with fail
              go_region
              all_goals go_wp2
              go_roundg (n - (k + (k2 + 1)))
              case measure => omega
              case rel => exact ⟨kk + 1, k2 + 1, dk.setIfInBounds kk u, by go_num, by go_num, by omega, by omega, Nat.le_refl _, by omega, (HK.out.set (by rw [HS.out]; omega) u).drew, by have := HI.out.keep (by rw [HN.out]; omega) (keeps_pos (by rw [HC.out.1, show k + k2 - 1 = k + (k2 - 1) from by omega, HC.out.2]; exact huv)); rwa [HC.out.1] at this⟩
          · have hend : k + k2 = n := by omega
            have hd3 : decide ((k2 : Int) < ((n - k : Nat) : Int)) = false := decide_eq_false (by omega)
            have hcl : ∀ ty, (Builtin.clear_ #[24] ty #[.slice (some ⟨g, kk, none⟩) (n - kk) (cap - kk)]).run Try.prog wr = .ok (.tuple #[]) (wr.setCells g kk (List.replicate (n - kk) (.int .u32 0))) :=
              fun ty => Lib.run_clear_slice wr _ _ ty _ Try.underlying24 zero24 rfl rfl g kk _ _ (by omega) (fun j hj => by rw [HK.out.cell (by rw [HS.out]; omega)]; rfl) (fun j hj => HK.out.frozen _)
            have HF : Hid ((compactUpTo d n).length = kk ∧ Front w (wr.setCells g kk (List.replicate (n - kk) (.int .u32 0))) g m n (compactUpTo d n)) := by
              have hI := HI.out
              rw [hend] at hI
              refine ⟨hI.len, ⟨Go.Lib.lay dk kk (List.replicate (n - kk) 0), ?_, ?_, by rw [hI.len]; omega, fun j hj => ?_⟩⟩
              · have := Lies.lay (List.replicate (n - kk) 0) kk HK.out (by rw [HS.out, List.length_replicate]; omega)
                rwa [List.map_replicate] at this
              · rw [lay_size, HS.out]
              · rw [hI.len] at hj
                rw [hI.low j hj, lay_low _ _ _ _ (by rw [HS.out, List.length_replicate]; omega) hj]
            clear HK HI
            go_wp2
            go_ret
            exact ⟨by rw [HF.out.1]; rfl, HF.out.2⟩
      · go_wp2_with fail
        go_region
        all_goals go_wp2
        go_roundg (n - (k + 1))
        case measure => omega
        case rel =>
          refine ⟨k + 1, by omega, by omega, Nat.le_refl _, by go_num, HK.out.drew, fun j hj => ?_⟩
          by_cases e : j = k
          · subst e
            exact keeps_pos (by rw [HB.out.1, HB.out.2]; exact hdup)
          · exact HA.out j (by omega)
    · obtain rfl : k = n := by omega
      have hdk : decide ((k : Int) < (k : Int)) = false := decide_eq_false (by omega)
      have HF := Lib.hid (front_same HK.out HN.out (fun j hj => HA.out j (by rw [HN.out] at hj; exact hj)))
      go_wp2
      go_ret
      exact ⟨by rw [HF.out.1]; rfl, HF.out.2⟩
end Go.Proofs.Ytjncmiclpaodhaa
/-
  The set of a row, plainly: what is left when a sorted row loses its equal neighbours.
-/
namespace Go.Proofs.Ytjncmiclpaodhaa
open Go.Sort Go.Lib
def ins (x : Int) : List Int → List Int
  | [] => [x]
  | y :: l => if x < y then x :: y :: l else if x = y then y :: l else y :: ins x l
/-- The set of a row. -/
def mk (l : List Int) : List Int := l.foldr ins []
theorem ins_mem (x y : Int) : ∀ l, y ∈ ins x l ↔ y = x ∨ y ∈ l
  | [] => by simp [ins]
  | z :: l => by
    unfold ins
    split
    · simp
    · split
      · rename_i h; subst h; simp
      · simp only [List.mem_cons, ins_mem x y l]
        constructor
        · rintro (h | h | h) <;> simp [h]
        · rintro (h | h | h) <;> simp [h]
theorem mk_mem (y : Int) : ∀ l, y ∈ mk l ↔ y ∈ l
  | [] => by simp [mk]
  | x :: l => by
    have := mk_mem y l
    simp only [mk, List.foldr_cons] at this ⊢
    rw [ins_mem, this, List.mem_cons]
theorem ins_rise (x : Int) : ∀ l : List Int, l.Pairwise (· < ·) → (ins x l).Pairwise (· < ·)
  | [], _ => by simp [ins]
  | z :: l, h => by
    unfold ins
    rw [List.pairwise_cons] at h
    split
    · rename_i hz
      rw [List.pairwise_cons, List.pairwise_cons]
      refine ⟨fun a ha => ?_, h⟩
      rcases List.mem_cons.1 ha with rfl | ha
      · exact hz
      · have := h.1 a ha; omega
    · split
      · rw [List.pairwise_cons]; exact h
      · rw [List.pairwise_cons]
        refine ⟨fun a ha => ?_, ins_rise x l h.2⟩
        rcases (ins_mem x a l).1 ha with rfl | ha
        · omega
        · exact h.1 a ha
theorem mk_rise : ∀ l, (mk l).Pairwise (· < ·)
  | [] => by simp [mk]
  | x :: l => by
    have := mk_rise l
    simp only [mk, List.foldr_cons] at this ⊢
    exact ins_rise _ _ this
theorem rise_same : ∀ (a b : List Int), a.Pairwise (· < ·) → b.Pairwise (· < ·) → (∀ x, x ∈ a ↔ x ∈ b) → a = b
  | [], [], _, _, _ => rfl
  | [], y :: b, _, _, h => by have := (h y).2 (by simp); simp at this
  | x :: a, [], _, _, h => by have := (h x).1 (by simp); simp at this
  | x :: a, y :: b, ha, hb, h => by
    rw [List.pairwise_cons] at ha hb
    have hxy : x = y := by
      have h1 := (h x).1 (by simp)
      have h2 := (h y).2 (by simp)
      rcases List.mem_cons.1 h1 with h1 | h1
      · exact h1
      · rcases List.mem_cons.1 h2 with h2 | h2
        · exact h2.symm
        · have := hb.1 x h1; have := ha.1 y h2; omega
    subst hxy
    congr 1
    refine rise_same a b ha.2 hb.2 fun z => ⟨fun hz => ?_, fun hz => ?_⟩
    · rcases List.mem_cons.1 ((h z).1 (List.mem_cons_of_mem _ hz)) with e | h'
      · subst e; exact absurd (ha.1 z hz) (by omega)
      · exact h'
    · rcases List.mem_cons.1 ((h z).2 (List.mem_cons_of_mem _ hz)) with e | h'
      · subst e; exact absurd (hb.1 z hz) (by omega)
      · exact h'
theorem cup_mem (d : Array Int) (x : Int) : ∀ m, x ∈ compactUpTo d m ↔ ∃ j, j < m ∧ d[j]! = x
  | 0 => by simp [compactUpTo]
  | m + 1 => by
    rw [compactUpTo_succ, List.mem_append, cup_mem d x m]
    constructor
    · rintro (⟨j, hj, h⟩ | h)
      · exact ⟨j, by omega, h⟩
      · split at h
        · exact ⟨m, by omega, (List.mem_singleton.1 h).symm⟩
        · simp at h
    · rintro ⟨j, hj, h⟩
      by_cases e : j < m
      · exact .inl ⟨j, e, h⟩
      · obtain rfl : j = m := by omega
        by_cases k : keeps d j = true
        · exact .inr (by rw [if_pos k]; simp [h])
        · simp only [keeps, decide_eq_true_eq, not_or, Classical.not_not] at k
          exact .inl ⟨j - 1, by omega, by rw [← k.2]; exact h⟩
theorem cup_rise (d : Array Int) (n : Nat) (hs : SortedIn ltInt 0 n d) : ∀ m, m ≤ n → (compactUpTo d m).Pairwise (· < ·)
  | 0, _ => by simp [compactUpTo]
  | m + 1, hm => by
    rw [compactUpTo_succ, List.pairwise_append]
    refine ⟨cup_rise d n hs m (by omega), by split <;> simp, fun a ha b hb => ?_⟩
    split at hb
    · rename_i k
      rw [List.mem_singleton] at hb
      subst hb
      obtain ⟨j, hj, rfl⟩ := (cup_mem d a m).1 ha
      have h1 : ∀ i, i < m → d[i]! ≤ d[m]! := fun i hi => by
        have := hs i m (Nat.zero_le _) hi (by omega)
        simp [ltInt] at this
        exact this
      simp only [keeps, decide_eq_true_eq] at k
      have h2 : d[j]! ≤ d[m - 1]! := by
        by_cases e : j = m - 1
        · subst e; exact Int.le_refl _
        · have := hs j (m - 1) (Nat.zero_le _) (by omega) (by omega)
          simp [ltInt] at this
          exact this
      have h3 := h1 (m - 1) (by omega)
      have h4 : d[m]! ≠ d[m - 1]! := k.resolve_left (by omega)
      omega
    · simp at hb
theorem cup_mk {l : List Int} {R : Array Int} {n : Nat} (hn : l.length = n) (hp : PermIn 0 n l.toArray R) (hs : SortedIn ltInt 0 n R) : compactUpTo R n = mk l := by
  refine rise_same _ _ (cup_rise R n hs n (Nat.le_refl _)) (mk_rise l) fun x => ?_
  rw [cup_mem, mk_mem]
  have hz : R.size = n := by rw [hp.1]; simpa using hn
  have hperm := hp.2.2
  have e1 : R.extract 0 n = R := by rw [← hz]; exact Array.extract_size
  have e2 : l.toArray.extract 0 n = l.toArray := by rw [← hn]; exact Array.extract_size (xs := l.toArray)
  rw [e1, e2] at hperm
  have := hperm.mem_iff (a := x)
  rw [← this]
  constructor
  · rintro ⟨j, hj, rfl⟩
    rw [getElem!_pos R j (by omega)]
    exact Array.mem_toList_iff.2 (Array.getElem_mem _)
  · intro h
    obtain ⟨j, hj, e⟩ := Array.mem_iff_getElem.1 (Array.mem_toList_iff.1 h)
    exact ⟨j, by omega, by rw [getElem!_pos R j hj]; exact e⟩
end Go.Proofs.Ytjncmiclpaodhaa
