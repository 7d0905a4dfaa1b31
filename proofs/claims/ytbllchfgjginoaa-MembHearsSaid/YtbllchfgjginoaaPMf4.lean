/-
  slices.Values' iterator, and the slice made of what it yields.
-/
import Derived.Test.YtbllchfgjginoaaSetC
import Derived.Test.YtbllchfgjginoaaSoJ
import Derived.Deep.LoopGhost
import Derived.Lib.SliceRun
import Derived.Lib.SlicesCompact
import Derived.Sort.AssemblyPlain
import Derived.Test.YtbllchfgjginoaaReg
import Derived.Test.YtbllchfgjginoaaProg
import Derived.Below
import Derived.Deep.Draws
import Derived.Deep.AppendLies
import Derived.Maps.AppendAt
import Derived.OwnWalk
import Derived.Laws.BytesArg
import Derived.Laws.MakeOwn
import Derived.Laws.OwnMore
import Derived.Deep.OwnRows
import Derived.Tactics
import Derived.Lib.ConvBytes
import Derived.Laws.Slices
import Derived.WalkKit
import Derived.KernelRfl
import Derived.RowKit3
import Derived.Deep.QuietTactic
import Derived.BigQuiet
import Derived.WideLaws
import Derived.Deep.DeepCutAuto
import Derived.Deep.CutBlock
import Derived.Deep.RegionHeld3
import Derived.Laws.Rows
import Derived.Lib.AppendStr
import Derived.ArgAppend
import Derived.Laws.IdiomCopy
import Derived.OrdersHeld
import Derived.Laws.BitsLemmas
import Derived.RowKit
import Derived.Test.YtbllchfgjginoaaVWords
import Derived.Test.YtbllchfgjginoaaVLast
import Derived.Test.YtbllchfgjginoaaVTab
import Derived.Test.YtbllchfgjginoaaVQPut
import Derived.Test.YtbllchfgjginoaaVApart
import Derived.Test.YtbllchfgjginoaaVArr
import Derived.Test.YtbllchfgjginoaaVZeros
import Derived.Test.YtbllchfgjginoaaVFoot
import Derived.Test.YtbllchfgjginoaaVKept
import Derived.Test.YtbllchfgjginoaaVShare
import Derived.Test.YtbllchfgjginoaaVN
import Derived.Test.YtbllchfgjginoaaVEqStruct
import Derived.Test.YtbllchfgjginoaaVRepsOne
import Derived.Test.YtbllchfgjginoaaVInv
import Derived.Test.YtbllchfgjginoaaVGuard
import Derived.Test.YtbllchfgjginoaaVNEv
import Derived.Test.YtbllchfgjginoaaVMore
namespace Go.Proofs.Ytbllchfgjginoaa
open Go.RowKit Go.Shelf Go.Proofs.YtbllchfgjginoaaW.PrintWords
attribute [local go_sem] Oper.semAt_some
set_option linter.unusedVariables false
set_option linter.unusedSimpArgs false
theorem take_pre {l : List Int} {k : Nat} (h : k < l.length) : l.take k ++ [l.getD k 0] <+: l := by
  have : l.take k ++ [l.getD k 0] = l.take (k + 1) := by
    rw [List.take_add_one]
    congr 1
    rw [List.getD_eq_getElem?_getD, List.getElem?_eq_getElem h]
    rfl
  rw [this]
  exact List.take_prefix _ _
theorem take_snoc {l : List Int} {k : Nat} (h : k < l.length) : l.take k ++ [l.getD k 0] = l.take (k + 1) := by
    rw [List.take_add_one]
    congr 1
    rw [List.getD_eq_getElem?_getD, List.getElem?_eq_getElem h]
    rfl
set_option maxRecDepth 100000 in
set_option maxHeartbeats 2000000 in
theorem vals_iter (Bs : Nat) (A : Option Addr) (c : Nat) (ls : List Int) (hl : ls.length ≤ 1000000000) (dat : Nat → Prop) 
    (w : World) (hdw : ∀ k, dat k → k < w.heap.size) (h1 : Boxed w Bs 29 (.slice A ls.length c)) (hr : ReadsInt w .u32 A ls.length ls) (hd : ∀ ad, A = some ad → 0 < ls.length → dat ad.block) :
    Iter Try.prog 67 #[.pointer (some ⟨Bs, 0, none⟩)] (fun x => #[.int .u32 x]) ls (fun k => k = Bs ∨ dat k) (fun _ => False) w := by
  refine ⟨by rintro k (rfl | h); exact h1.lt; exact hdw k h, ?_⟩
  intro l J φ W hW hex hst hdis hround h0
  have b1 : Boxed W Bs 29 (.slice A ls.length c) := (hW.block _ h1.lt (fun h => h (.inl rfl))).trans h1
  have r1 : ReadsInt W .u32 A ls.length ls := readsInt_of_block hr (fun ad e hp => hW.block _ (hdw _ (hd ad e hp)) (fun h => h (.inr (hd ad e hp))))
  have hdW : ∀ k, dat k → k < W.heap.size := fun k hk => Nat.lt_of_lt_of_le (hdw k hk) hW.size
  have c1 := b1.cell
  clear h1 hr hW hdw
  refine callsIn_of_wp Try.func67 rfl trivial ?_ rfl
  simp only [Try.ntmps67, List.size_toArray, List.length_cons, List.length_nil, Nat.reduceAdd, Nat.reduceSub, Array.replicate_succ, Array.replicate_zero, List.push_toArray, List.append_toArray, List.nil_append, List.cons_append]
  gi_wp2
  gi_loopw [7] (fun i wr => ∃ k : Nat, ∃ ψ, k ≤ ls.length ∧ i = .int .i64 k ∧ J (ls.take k) ψ wr ∧ (∀ k, ψ k → φ k ∨ W.heap.size ≤ k) ∧ Off φ W wr)
    (fun i _ => ls.length - (intOf i).toNat)
  case atStart => exact ⟨0, φ, by omega, by simp, by simpa using h0, fun _ => .inl, Off.refl _ _⟩
  case round =>
    obtain ⟨k, ψ, hk, rfl, hJ, hψ, hO⟩ := hrel
    have rr : ReadsInt wr .u32 A ls.length ls := readsInt_of_block r1 (fun ad e hp => hO.block _ (hdW _ (hd ad e hp)) (fun h => hdis _ h (.inr (hd ad e hp))))
    by_cases hlt : k < ls.length
    · obtain ⟨ad, rfl, hc⟩ := rr.2.2 (by omega)
      have hck := hc k hlt
      clear hc rr
      have hJ' := hst _ _ _ wr.drew hJ (Off.refl _ wr).drew
      have hy := hround (ls.take k) (ls.getD k 0) ψ wr hJ (take_pre hlt)
      have key : ∀ W3 ψ', (∀ k, ψ' k → ψ k ∨ wr.heap.size ≤ k) → J (ls.take k ++ [ls.getD k 0]) ψ' W3 → Off ψ wr W3 →
          J (ls.take (k + 1)) ψ' W3 ∧ (∀ k, ψ' k → φ k ∨ W.heap.size ≤ k) ∧ Off φ W W3 := by
        intro W3 ψ' hψ' hJ3 hO3
        refine ⟨by rw [← take_snoc hlt]; exact hJ3, ?_, ?_⟩
        · intro j hj
          rcases hψ' j hj with h | h
          · exact hψ j h
          · exact .inr (by have := hO.size; omega)
        · exact (hO.then_ hO3 (fun i hi h => by rcases hψ i h with h | h; exact h; omega))
      obtain ⟨x, hx⟩ : ∃ x, x = ls.getD k 0 := ⟨_, rfl⟩
      rw [← hx] at hck hy key
      obtain ⟨fn, tmps, assign, body, hy, hR⟩ := hy
      clear hx
      gi_wp2
      refine ⟨rfl, ?_⟩
      refine hR.mono ?_
      rintro e W3 ⟨rfl, ψ', hψ', hJ3, hO3⟩
      obtain ⟨hJ4, hψ4, hO4⟩ := key W3 ψ' hψ' hJ3 hO3
      clear hJ3 hO3 hψ'
      gi_wp2
      go_roundw
      case rel => exact ⟨k + 1, ψ', by omega, by go_num, hJ4, hψ4, hO4⟩
      case measure => simp [intOf]; omega
    · obtain rfl : k = ls.length := by omega
      gi_wp2
      go_end0
      exact ⟨⟨_, rfl⟩, ψ, hψ, by simpa using hJ, hO.mono (fun _ _ h => .inl h)⟩
theorem values_w (A : Option Addr) (n c : Nat) (w : World) :
    Calls Try.prog 45 #[.slice A n c] w fun e w' => e = .returned (.func (.func 67) #[] #[.pointer (some ⟨w.heap.size, 0, none⟩)]) ∧ w' = w.alloc (.cells #[.slice A n c] 29 (0, 0)) := by
  go_enter Try.func45, Try.ntmps45
  go_wp2
  go_ret
  exact ⟨rfl, rfl⟩
set_option maxRecDepth 100000 in
set_option maxHeartbeats 4000000 in
theorem appseq_w (Bs : Nat) (A : Option Addr) (c : Nat) (ls : List Int) (hl : ls.length ≤ 1000000000) 
    (w : World) (h1 : Boxed w Bs 29 (.slice A ls.length c)) (hr : ReadsInt w .u32 A ls.length ls) :
    Calls Try.prog 76 #[.slice none 0 0, .func (.func 67) #[] #[.pointer (some ⟨Bs, 0, none⟩)]] w fun e w' => ∃ v, e = .returned v ∧
      w'.ownsRow w.heap.size 25 1 v ls.length (nums .u32 ls) ∧ Below w.heap.size w w' := by
  obtain ⟨i0, hi, iz0, iz1, iz2⟩ := info_parts info24
  refine (callsIn_wide (n := 0)).1 ?_
  refine callsIn_of_wp_marks Try.func76 rfl trivial ?_ rfl
  simp only [Try.ntmps76, List.size_toArray, List.length_cons, List.length_nil, Nat.reduceAdd, Nat.reduceSub, Array.replicate_succ, Array.replicate_zero, List.push_toArray, List.append_toArray, List.nil_append, List.cons_append]
  gi_wp2
  obtain ⟨W3, hW3⟩ : ∃ W3, w.alloc (.cells #[.slice none 0 0] 29) = W3 := ⟨_, rfl⟩
  have s3 : W3.heap.size = w.heap.size + 1 := by rw [← hW3]; simp
  have hO3 : ∀ φ, Off φ w W3 := fun φ => by rw [← hW3]; exact (Off.refl φ w).alloc _
  have x1 : Boxed W3 w.heap.size 29 (.slice none 0 0) := by rw [← hW3]; exact Boxed.new w _ _
  have hdat : ∀ ad, A = some ad → 0 < ls.length → ad.block < w.heap.size := fun ad e hp => by
    obtain ⟨ad', e', hc⟩ := hr.2.2 hp
    rw [e] at e'; cases e'
    have := World.block_lt_of_cell? w _ (hc 0 hp)
    unfold Addr.add at this
    simpa using this
  have r3 : ReadsInt W3 .u32 A ls.length ls := readsInt_of_block hr (fun ad e hp => (hO3 (fun _ => False)).block _ (hdat ad e hp) id)
  have b3 : Boxed W3 Bs 29 (.slice A ls.length c) := ((hO3 (fun _ => False)).block _ h1.lt id).trans h1
  have hlt0 := h1.lt
  rw [hW3]
  refine wpIn_range (α := Int) (lb := #[.pointer (some ⟨Bs, 0, none⟩)]) rfl (enters_of Try.func67 (by kernel_rfl) rfl)
    (vals_iter Bs A c ls hl (fun k => k < w.heap.size) W3 (by intro k hk; omega) b3 r3 hdat) (fun _ => rfl)
    (fun pre ψ V => ∃ v, ψ = (fun k => k = w.heap.size ∨ v.ownBlock = some k) ∧ Boxed V w.heap.size 29 v ∧
      V.ownsRow w.heap.size 25 1 v pre.length (nums .u32 pre) ∧ (∀ k, v.ownBlock = some k → w.heap.size + 1 ≤ k))
    (fun k => k = w.heap.size) ?hex ?hst ?hdis ?h0 ?body ?done
  case hex =>
    rintro pre ψ V ⟨v, rfl, hb7, hrow, -⟩ k (rfl | h)
    · exact hb7.lt
    · exact own_lt hrow k h
  case hst =>
    rintro pre ψ V V' ⟨v, rfl, hb7, hrow, hk⟩ hO
    exact ⟨v, rfl, (hO.block _ hb7.lt (fun h => h (.inl rfl))).trans hb7, own_move hrow (fun k hk => hO.block _ (own_lt hrow k hk) (fun h => h (.inr hk))), hk⟩
  case hdis =>
    rintro k rfl (h | h) <;> omega
  case h0 =>
    exact ⟨.slice none 0 0, by simp [Value.ownBlock], x1, own_nil _ _ _ _, by simp [Value.ownBlock]⟩
  case body =>
    rintro l2 pre x ψ V K ⟨v, rfl, hb7, hrow, hvk⟩ hpre hl2 hnl hlt hK
    gi_wp2
    refine hK _ _ (Off.refl _ _) ?_
    rintro V2 hO2 hz2 ⟨v', hψ, hb7', hrow', hvk'⟩
    have hpl : pre.length < 2000000000 := by
      have h2 := hpre.length_le
      rw [List.length_append, List.length_singleton] at h2
      omega
    clear hb7 hrow hvk hK hW3 x1 r3 b3 hdat
    have c7 := hb7'.cell
    have fin : ∀ (V4 : World) (ac : Act) (u : Value), (∀ k, u.ownBlock = some k → v'.ownBlock = some k ∨ V2.heap.size ≤ k) → Boxed V4 w.heap.size 29 u →
        V4.ownsRow w.heap.size 25 1 u (pre ++ [x]).length (nums .u32 (pre ++ [x])) → Off (fun k => k = w.heap.size ∨ v'.ownBlock = some k) V2 V4 →
        RoundEnd (fun pre ψ V => ∃ v, ψ = (fun k => k = w.heap.size ∨ v.ownBlock = some k) ∧ Boxed V w.heap.size 29 v ∧
      V.ownsRow w.heap.size 25 1 v pre.length (nums .u32 pre) ∧ (∀ k, v.ownBlock = some k → w.heap.size + 1 ≤ k)) (pre ++ [x]) (fun k => k = w.heap.size ∨ v.ownBlock = some k) V.heap.size V2 .normal ac V4 := by
      intro V4 ac u hu hb7 hrow hO
      rw [hψ]
      refine ⟨rfl, (fun k => k = w.heap.size ∨ u.ownBlock = some k), ?_, ⟨u, rfl, hb7, hrow, ?_⟩, hO.mono (fun k _ h => .inl h)⟩
      · rintro k (h | h)
        · exact .inl (.inl h)
        · rcases hu k h with h | h
          · exact .inl (.inr h)
          · exact .inr (by omega)
      · intro k h
        rcases hu k h with h | h
        · exact hvk' k h
        · omega
    have hV2 := hb7'.lt
    have HV : Hid (∀ k, v'.ownBlock = some k → w.heap.size + 1 ≤ k) := hvk'
    clear hvk' hψ hz2
    gi_wp2_with (gi_at_builtin; go_loud (refine wpListIn_append_own_at _ rfl _ _ 29 rfl w.heap.size 25 i0 (.int .u32 0) 1 4 Try.underlying29 hi iz0 iz1 iz2 rfl (by decide) _ _ _ rfl (hrow'.alloc _) ⟨V2.heap.size, 0, none⟩ 1 1 [.int .u32 x] rfl rfl (cell_one_new _ _ _) (by simp [Value.oneCell']) (by simp [maxLen]; omega) (by omega) (by simp; omega) ?_; intro v1 w1 hown' hgrow _ hat; obtain ⟨g', cap', rfl⟩ := ownsRow_succ hown'; obtain ⟨hv1, hv2, hr2, hk2, hb2⟩ := hb7'.appended (by decide) hrow' (by omega) (by omega) hown' hgrow; have hc1 := hv1.cell; have hf1 := hv1.frozen))
    have hO4 : Off (fun k => k = w.heap.size ∨ v'.ownBlock = some k) V2 (w1.setCell ⟨w.heap.size, 0, none⟩ (.slice (some ⟨g', 0, none⟩) (pre.length + 1) cap')) :=
      ((((Off.refl _ V2).alloc _).grown hgrow (fun k e _ => .inr e)).setCell (fun _ => .inl rfl) _)
    refine fin _ _ _ ?_ hv2 ?_ hO4
    · intro k h
      rcases hat with h' | h'
      · exact .inl (h'.symm.trans h)
      · rw [h'] at h
        simp at h
        exact .inr (by omega)
    · simpa [nums] using hr2
  case done =>
    rintro Dd ψ' V ⟨v, rfl, hb7, hrow, hvk⟩ hO hDd hnD hsub hK
    have c7 := hb7.cell
    gi_wp2
    refine ⟨by simp, .inl ⟨_, _, rfl, run_takeDeferred hK, ?_⟩⟩
    refine ⟨_, results_tmp rfl _ _ _, v, rfl, ?_, ?_⟩
    · exact ownsRow_putObj hrow _ hK rfl
    · refine Off.below' (φ := fun k => w.heap.size ≤ k) (((hO3 _).then_ hO ?_).putObj (fun h => by omega) _) (Nat.le_refl _) (fun _ h => h)
      rintro k hk (h | h)
      · omega
      · exact h.elim
end Go.Proofs.Ytbllchfgjginoaa
/-
  Equal neighbours struck out where they lie.
-/
namespace Go.Proofs.Ytbllchfgjginoaa
open Go.RowKit Go.Sort Go.Lib
set_option linter.unusedVariables false
set_option linter.unusedSimpArgs false
theorem Lies.lay {w0 : World} {g m : Nat} : ∀ (xs : List Int) {w : World} {d : Array Int} (k : Nat), Lies w0 w g m d → k + xs.length ≤ d.size → Lies w0 (w.setCells g k (xs.map (Value.int .u32))) g m (Go.Lib.lay d k xs)
  | [], w, d, k, h, _ => h
  | x :: xs, w, d, k, h, hk => by
    simp only [List.length_cons] at hk
    exact Lies.lay xs (k + 1) (h.set (by omega) x) (by rw [Array.size_setIfInBounds]; omega)
theorem lay_size : ∀ (xs : List Int) (d : Array Int) (k : Nat), (Go.Lib.lay d k xs).size = d.size
  | [], d, k => rfl
  | x :: xs, d, k => by rw [Go.Lib.lay, lay_size xs, Array.size_setIfInBounds]
theorem lay_low (xs : List Int) (d : Array Int) (k j : Nat) (h : k + xs.length ≤ d.size) (hj : j < k) : (Go.Lib.lay d k xs)[j]! = d[j]! := by
  have := lay_get? xs d k j h
  rw [if_neg (by omega)] at this
  rw [getElem!_def, getElem!_def, this]
theorem info24' : (Try.prog.info? 25).map (fun i => i.zero) = some (some (.int .u32 0)) := by kernel_rfl
theorem zero24 (w : World) : (zeroValue 25).run Try.prog w = .ok (.int .u32 0) w := by
  obtain ⟨i, hi, hz⟩ := Option.map_eq_some_iff.1 info24'
  simp [zeroValue, typeInfo, hi, hz]
/-- What is kept lies in front. -/
structure Front (w0 w : World) (g m n : Nat) (L : List Int) : Prop where
  lies : ∃ d', Lies w0 w g m d' ∧ d'.size = n ∧ L.length ≤ n ∧ ∀ j, j < L.length → L[j]? = some d'[j]!
theorem front_same {w0 w : World} {g m n : Nat} {d : Array Int} (h : Lies w0 w g m d) (hn : d.size = n) (hall : ∀ j, j < d.size → keeps d j = true) : (compactUpTo d n).length = n ∧ Front w0 w g m n (compactUpTo d n) := by
  subst hn
  rw [compactUpTo_all d _ hall, range_map_get]
  refine ⟨by simp, ⟨d, h, rfl, by simp, fun j hj => ?_⟩⟩
  rw [Array.length_toList] at hj
  rw [Array.getElem?_toList, Array.getElem?_eq_getElem hj, getElem!_pos d j hj]
set_option maxHeartbeats 8000000 in
set_option maxRecDepth 100000 in
theorem compact_w {g m n cap : Nat} {d : Array Int} {w : World} (h : Lies w w g m d) (hn : d.size = n) (hsz : n < 65536) (hcap : n ≤ cap) :
    Calls Try.prog 43 #[.slice (some ⟨g, 0, none⟩) n cap] w fun e w' => e = .returned (.slice (some ⟨g, 0, none⟩) (compactUpTo d n).length cap) ∧ Front w w' g m n (compactUpTo d n) := by
  have HL := Lib.hid h
  have HN := Lib.hid hn
  clear h
  by_cases h2 : n < 2
  · have hd2 : decide ((n : Int) < 2) = true := decide_eq_true (by omega)
    have HF := Lib.hid (front_same HL.out HN.out (fun j hj => keeps_lt_one d j (by omega)))
    clear hn
    go_enter Try.func43, Try.ntmps43
    go_wp2
    go_ret
    exact ⟨by rw [HF.out.1]; rfl, HF.out.2⟩
  have hd2 : decide ((n : Int) < 2) = false := decide_eq_false (by omega)
  clear hn
  go_enter Try.func43, Try.ntmps43
  go_wp2
  go_loopg [3] n (fun gq s3 wr => ∃ k : Nat, 1 ≤ k ∧ k ≤ n ∧ n - k ≤ gq ∧ s3 = .int .i64 k ∧ Hid (Lies w wr g m d) ∧ Hid (∀ j, j < k → keeps d j = true))
  case atStart => exact ⟨1, Nat.le_refl _, by omega, by omega, rfl, HL, keeps_lt_one d⟩
  case round =>
    obtain ⟨k, hk1, hk, hg, rfl, HK, HA⟩ := hrel
    clear HL
    by_cases hlt : k < n
    · have hdk : decide ((k : Int) < (n : Int)) = true := decide_eq_true (by omega)
      have c1 := HK.out.cell (i := k) (by rw [HN.out]; exact hlt)
      have c0 := HK.out.cell (i := k - 1) (by rw [HN.out]; omega)
      generalize hx : d[k]! = x at c1
      generalize hy : d[k - 1]! = y at c0
      have HB := Lib.hid (show d[k]! = x ∧ d[k - 1]! = y from ⟨hx, hy⟩)
      clear hx hy
      have q3 : (0 : Int) ≤ (k : Int) - 1 := by omega
      have q4 : (k : Int) - 1 < (n : Int) := by omega
      have q5 : ((k : Int) - 1).toNat = k - 1 := by omega
      have q6 : IntKind.i64.wrap ((k : Int) - 1) = (k : Int) - 1 := IntWalk.i64_in _ (by omega)
      have q7 : (k : Int) < (n : Int) := by omega
      by_cases hdup : x = y
      · subst hdup
        go_wp2_with fail
        go_region
        all_goals go_wp2
        all_goals clear c0 c1 q3 q4 q5 q6
        all_goals have HK1 := Lib.hid (show Lies w wr.drew g m d from HK.out.drew)
        clear HK
        go_loopg [3, 5] n (fun gq s3 s5 wr => ∃ (kk k2 : Nat) (dk : Array Int), s3 = .int .i64 kk ∧ s5 = .int .i64 k2 ∧ 1 ≤ k2 ∧ k + k2 ≤ n ∧ n - (k + k2) ≤ gq ∧ kk < k + k2 ∧ Hid (Lies w wr g m dk) ∧ Hid (CompInv d (k + k2) kk dk))
        case atStart => exact ⟨k, 1, d, rfl, rfl, Nat.le_refl _, by omega, by omega, by omega, HK1, CompInv.start HA.out (keeps_neg (by omega) (by rw [HB.out.1, HB.out.2]))⟩
        case round =>
          obtain ⟨kk, k2, dk, rfl, rfl, h1, hle, hg2, hkk, HK, HI⟩ := hrel
          clear HK1
          have HS : Hid (dk.size = n) := HI.out.size.trans HN.out
          by_cases hlt2 : k + k2 < n
          · have hd3 : decide ((k2 : Int) < ((n - k : Nat) : Int)) = true := decide_eq_true (by omega)
            have cm := HK.out.cell (i := k + k2) (by rw [HS.out]; exact hlt2)
            have cp := HK.out.cell (i := k + (k2 - 1)) (by rw [HS.out]; omega)
            rw [HI.out.high (k + k2) (by omega)] at cm
            rw [HI.out.high (k + (k2 - 1)) (by omega)] at cp
            have ck := HK.out.cell (i := kk) (by rw [HS.out]; omega)
            have fk := HK.out.frozen kk
            generalize hu : d[k + k2]! = u at cm
            generalize hv : d[k + (k2 - 1)]! = v at cp
            generalize dk[kk]! = old at ck
            have HC := Lib.hid (show d[k + k2]! = u ∧ d[k + (k2 - 1)]! = v from ⟨hu, hv⟩)
            clear hu hv
            have p2 : k2 < n - k := by omega
            have p3 : (0 : Int) ≤ (k2 : Int) - 1 := by omega
            have p4 : (k2 : Int) - 1 < ((n - k : Nat) : Int) := by omega
            have p5 : ((k2 : Int) - 1).toNat = k2 - 1 := by omega
            have p6 : IntKind.i64.wrap ((k2 : Int) - 1) = (k2 : Int) - 1 := IntWalk.i64_in _ (by omega)
            have p7 : kk < n := by omega
            by_cases huv : u = v
            · subst huv
              go_wp2_with fail
              go_region
              all_goals go_wp2
              go_roundg (n - (k + (k2 + 1)))
              case measure => omega
              case rel => exact ⟨kk, k2 + 1, dk, rfl, by go_num, by omega, by omega, Nat.le_refl _, by omega, HK.out.drew, HI.out.skip (keeps_neg (by omega) (by rw [HC.out.1]; exact HC.out.2.symm.trans (by congr 1; omega)))⟩
            · go_wp2_with fail
              go_region
              all_goals go_wp2
              go_roundg (n - (k + (k2 + 1)))
              case measure => omega
              case rel => exact ⟨kk + 1, k2 + 1, dk.setIfInBounds kk u, by go_num, by go_num, by omega, by omega, Nat.le_refl _, by omega, (HK.out.set (by rw [HS.out]; omega) u).drew, by have := HI.out.keep (by rw [HN.out]; omega) (keeps_pos (by rw [HC.out.1, show k + k2 - 1 = k + (k2 - 1) from by omega, HC.out.2]; exact huv)); rwa [HC.out.1] at this⟩
          · have hend : k + k2 = n := by omega
            have hd3 : decide ((k2 : Int) < ((n - k : Nat) : Int)) = false := decide_eq_false (by omega)
            have hcl : ∀ ty, (Builtin.clear_ #[29] ty #[.slice (some ⟨g, kk, none⟩) (n - kk) (cap - kk)]).run Try.prog wr = .ok (.tuple #[]) (wr.setCells g kk (List.replicate (n - kk) (.int .u32 0))) :=
              fun ty => Lib.run_clear_slice wr _ _ ty _ Try.underlying29 zero24 rfl rfl g kk _ _ (by omega) (fun j hj => by rw [HK.out.cell (by rw [HS.out]; omega)]; rfl) (fun j hj => HK.out.frozen _)
            have HF : Hid ((compactUpTo d n).length = kk ∧ Front w (wr.setCells g kk (List.replicate (n - kk) (.int .u32 0))) g m n (compactUpTo d n)) := by
              have hI := HI.out
              rw [hend] at hI
              refine ⟨hI.len, ⟨Go.Lib.lay dk kk (List.replicate (n - kk) 0), ?_, ?_, by rw [hI.len]; omega, fun j hj => ?_⟩⟩
              · have := Lies.lay (List.replicate (n - kk) 0) kk HK.out (by rw [HS.out, List.length_replicate]; omega)
                rwa [List.map_replicate] at this
              · rw [lay_size, HS.out]
              · rw [hI.len] at hj
                rw [hI.low j hj, lay_low _ _ _ _ (by rw [HS.out, List.length_replicate]; omega) hj]
            clear HK HI
            go_wp2
            go_ret
            exact ⟨by rw [HF.out.1]; rfl, HF.out.2⟩
      · go_wp2_with fail
        go_region
        all_goals go_wp2
        go_roundg (n - (k + 1))
        case measure => omega
        case rel =>
          refine ⟨k + 1, by omega, by omega, Nat.le_refl _, by go_num, HK.out.drew, fun j hj => ?_⟩
          by_cases e : j = k
          · subst e
            exact keeps_pos (by rw [HB.out.1, HB.out.2]; exact hdup)
          · exact HA.out j (by omega)
    · obtain rfl : k = n := by omega
      have hdk : decide ((k : Int) < (k : Int)) = false := decide_eq_false (by omega)
      have HF := Lib.hid (front_same HK.out HN.out (fun j hj => HA.out j (by rw [HN.out] at hj; exact hj)))
      go_wp2
      go_ret
      exact ⟨by rw [HF.out.1]; rfl, HF.out.2⟩
end Go.Proofs.Ytbllchfgjginoaa
/-
  The set of a row, plainly: what is left when a sorted row loses its equal neighbours.
-/
namespace Go.Proofs.Ytbllchfgjginoaa
open Go.Sort Go.Lib
def ins (x : Int) : List Int → List Int
  | [] => [x]
  | y :: l => if x < y then x :: y :: l else if x = y then y :: l else y :: ins x l
/-- The set of a row. -/
def mk (l : List Int) : List Int := l.foldr ins []
theorem ins_mem (x y : Int) : ∀ l, y ∈ ins x l ↔ y = x ∨ y ∈ l
  | [] => by simp [ins]
  | z :: l => by
    unfold ins
    split
    · simp
    · split
      · rename_i h; subst h; simp
      · simp only [List.mem_cons, ins_mem x y l]
        constructor
        · rintro (h | h | h) <;> simp [h]
        · rintro (h | h | h) <;> simp [h]
theorem mk_mem (y : Int) : ∀ l, y ∈ mk l ↔ y ∈ l
  | [] => by simp [mk]
  | x :: l => by
    have := mk_mem y l
    simp only [mk, List.foldr_cons] at this ⊢
    rw [ins_mem, this, List.mem_cons]
theorem ins_rise (x : Int) : ∀ l : List Int, l.Pairwise (· < ·) → (ins x l).Pairwise (· < ·)
  | [], _ => by simp [ins]
  | z :: l, h => by
    unfold ins
    rw [List.pairwise_cons] at h
    split
    · rename_i hz
      rw [List.pairwise_cons, List.pairwise_cons]
      refine ⟨fun a ha => ?_, h⟩
      rcases List.mem_cons.1 ha with rfl | ha
      · exact hz
      · have := h.1 a ha; omega
    · split
      · rw [List.pairwise_cons]; exact h
      · rw [List.pairwise_cons]
        refine ⟨fun a ha => ?_, ins_rise x l h.2⟩
        rcases (ins_mem x a l).1 ha with rfl | ha
        · omega
        · exact h.1 a ha
theorem mk_rise : ∀ l, (mk l).Pairwise (· < ·)
  | [] => by simp [mk]
  | x :: l => by
    have := mk_rise l
    simp only [mk, List.foldr_cons] at this ⊢
    exact ins_rise _ _ this
theorem rise_same : ∀ (a b : List Int), a.Pairwise (· < ·) → b.Pairwise (· < ·) → (∀ x, x ∈ a ↔ x ∈ b) → a = b
  | [], [], _, _, _ => rfl
  | [], y :: b, _, _, h => by have := (h y).2 (by simp); simp at this
  | x :: a, [], _, _, h => by have := (h x).1 (by simp); simp at this
  | x :: a, y :: b, ha, hb, h => by
    rw [List.pairwise_cons] at ha hb
    have hxy : x = y := by
      have h1 := (h x).1 (by simp)
      have h2 := (h y).2 (by simp)
      rcases List.mem_cons.1 h1 with h1 | h1
      · exact h1
      · rcases List.mem_cons.1 h2 with h2 | h2
        · exact h2.symm
        · have := hb.1 x h1; have := ha.1 y h2; omega
    subst hxy
    congr 1
    refine rise_same a b ha.2 hb.2 fun z => ⟨fun hz => ?_, fun hz => ?_⟩
    · rcases List.mem_cons.1 ((h z).1 (List.mem_cons_of_mem _ hz)) with e | h'
      · subst e; exact absurd (ha.1 z hz) (by omega)
      · exact h'
    · rcases List.mem_cons.1 ((h z).2 (List.mem_cons_of_mem _ hz)) with e | h'
      · subst e; exact absurd (hb.1 z hz) (by omega)
      · exact h'
theorem cup_mem (d : Array Int) (x : Int) : ∀ m, x ∈ compactUpTo d m ↔ ∃ j, j < m ∧ d[j]! = x
  | 0 => by simp [compactUpTo]
  | m + 1 => by
    rw [compactUpTo_succ, List.mem_append, cup_mem d x m]
    constructor
    · rintro (⟨j, hj, h⟩ | h)
      · exact ⟨j, by omega, h⟩
      · split at h
        · exact ⟨m, by omega, (List.mem_singleton.1 h).symm⟩
        · simp at h
    · rintro ⟨j, hj, h⟩
      by_cases e : j < m
      · exact .inl ⟨j, e, h⟩
      · obtain rfl : j = m := by omega
        by_cases k : keeps d j = true
        · exact .inr (by rw [if_pos k]; simp [h])
        · simp only [keeps, decide_eq_true_eq, not_or, Classical.not_not] at k
          exact .inl ⟨j - 1, by omega, by rw [← k.2]; exact h⟩
theorem cup_rise (d : Array Int) (n : Nat) (hs : SortedIn ltInt 0 n d) : ∀ m, m ≤ n → (compactUpTo d m).Pairwise (· < ·)
  | 0, _ => by simp [compactUpTo]
  | m + 1, hm => by
    rw [compactUpTo_succ, List.pairwise_append]
    refine ⟨cup_rise d n hs m (by omega), by split <;> simp, fun a ha b hb => ?_⟩
    split at hb
    · rename_i k
      rw [List.mem_singleton] at hb
      subst hb
      obtain ⟨j, hj, rfl⟩ := (cup_mem d a m).1 ha
      have h1 : ∀ i, i < m → d[i]! ≤ d[m]! := fun i hi => by
        have := hs i m (Nat.zero_le _) hi (by omega)
        simp [ltInt] at this
        exact this
      simp only [keeps, decide_eq_true_eq] at k
      have h2 : d[j]! ≤ d[m - 1]! := by
        by_cases e : j = m - 1
        · subst e; exact Int.le_refl _
        · have := hs j (m - 1) (Nat.zero_le _) (by omega) (by omega)
          simp [ltInt] at this
          exact this
      have h3 := h1 (m - 1) (by omega)
      have h4 : d[m]! ≠ d[m - 1]! := k.resolve_left (by omega)
      omega
    · simp at hb
theorem cup_mk {l : List Int} {R : Array Int} {n : Nat} (hn : l.length = n) (hp : PermIn 0 n l.toArray R) (hs : SortedIn ltInt 0 n R) : compactUpTo R n = mk l := by
  refine rise_same _ _ (cup_rise R n hs n (Nat.le_refl _)) (mk_rise l) fun x => ?_
  rw [cup_mem, mk_mem]
  have hz : R.size = n := by rw [hp.1]; simpa using hn
  have hperm := hp.2.2
  have e1 : R.extract 0 n = R := by rw [← hz]; exact Array.extract_size
  have e2 : l.toArray.extract 0 n = l.toArray := by rw [← hn]; exact Array.extract_size (xs := l.toArray)
  rw [e1, e2] at hperm
  have := hperm.mem_iff (a := x)
  rw [← this]
  constructor
  · rintro ⟨j, hj, rfl⟩
    rw [getElem!_pos R j (by omega)]
    exact Array.mem_toList_iff.2 (Array.getElem_mem _)
  · intro h
    obtain ⟨j, hj, e⟩ := Array.mem_iff_getElem.1 (Array.mem_toList_iff.1 h)
    exact ⟨j, by omega, by rw [getElem!_pos R j hj]; exact e⟩
theorem ins_len (x : Int) : ∀ l, (ins x l).length ≤ l.length + 1
  | [] => by simp [ins]
  | z :: l => by
    unfold ins
    split
    · simp
    · split
      · simp
      · have := ins_len x l; simp; omega
theorem mk_len : ∀ l, (mk l).length ≤ l.length
  | [] => by simp [mk]
  | x :: l => by
    have := mk_len l
    simp only [mk, List.foldr_cons, List.length_cons] at this ⊢
    have := ins_len x (l.foldr ins [])
    omega
end Go.Proofs.Ytbllchfgjginoaa
/-
  Package set: Make.
-/
namespace Go.Proofs.Ytbllchfgjginoaa
open Go.RowKit Go.Sort Go.Lib Go.Proofs.YtbllchfgjginoaaW.PrintWords
set_option linter.unusedVariables false
set_option linter.unusedSimpArgs false
theorem ins_nil (w : World) : Calls Try.prog 84 #[.slice none 0 0, .int .i64 0, .int .i64 0] w fun e w' => e = .returned (.tuple #[]) ∧ w' = w := by
  go_enter Try.func84, Try.ntmps84
  go_wp2
  go_loopw [6] (fun vi wr => vi = .int .i64 1 ∧ wr = w) (fun _ _ => 0)
  case atStart => exact ⟨rfl, rfl⟩
  case round =>
    obtain ⟨rfl, rfl⟩ := hrel
    go_wp2
    go_end0
    exact ⟨rfl, rfl⟩
set_option maxRecDepth 100000 in
set_option maxHeartbeats 4000000 in
theorem pdq_nil (l : Int) (w : World) : Calls Try.prog 77 #[.slice none 0 0, .int .i64 0, .int .i64 0, .int .i64 l] w fun e w' => e = .returned (.tuple #[]) ∧ w' = w := by
  go_enter Try.func77, Try.ntmps77
  go_wp2
  go_loopg [1, 2] 1 (fun _ v1 v2 wr => v1 = .int .i64 0 ∧ v2 = .int .i64 0 ∧ wr = w)
  case atStart => exact ⟨rfl, rfl, rfl⟩
  case round =>
    obtain ⟨rfl, rfl, rfl⟩ := hrel
    go_wp2_with (go_at_call 84; refine (ins_nil _).mono ?_; rintro e w' ⟨rfl, rfl⟩)
    exact bodyPost_ret (results_none rfl _ _ _) rfl ⟨rfl, rfl⟩
theorem sort_nil (w : World) : Calls Try.prog 66 #[.slice none 0 0] w fun e w' => e = .returned (.tuple #[]) ∧ w' = w := by
  go_enter Try.func66, Try.ntmps66
  go_wp2_with (first | (go_at_call 78; refine (len_w 0 (by decide) _).mono ?_; rintro e w' ⟨L, rfl, hL, rfl⟩; clear hL) | (go_at_call 77; refine (pdq_nil _ _).mono ?_; rintro e w' ⟨rfl, rfl⟩))
  go_end0
  exact ⟨rfl, rfl⟩
theorem sort_w {g m n cap : Nat} {d : Array Int} {w : World} (h : Lies w w g m d) (hn : d.size = n) (hsz : n < 65536) :
    Calls Try.prog 66 #[.slice (some ⟨g, 0, none⟩) n cap] w (Sorted_ 0 n g m d w) := by
  have HL := Lib.hid h
  have HN := Lib.hid hn
  have HZ := Lib.hid hsz
  have hw : IntKind.u64.wrap (n : Int) = (n : Int) := by rw [IntKind.wrap_u64]; omega
  clear h hn hsz
  go_enter Try.func66, Try.ntmps66
  go_wp2_with (first | (go_at_call 78; refine (len_w n HZ.out _).mono ?_; rintro e w' ⟨L, rfl, hL, rfl⟩; clear hL) | (go_at_call 77; refine (pdq_w HZ.out (n + 1) 0 n _ d _ (by omega) (Nat.zero_le _) (Nat.le_refl _) HN.out HL.out (.inl rfl)).mono ?_; rintro r w' ⟨rfl, hR⟩; have HR := Lib.hid hR; clear hR))
  go_end0
  exact ⟨rfl, HR.out⟩
theorem collect_w (Bs : Nat) (A : Option Addr) (c : Nat) (ls : List Int) (hl : ls.length < 65536) (w : World) (h1 : Boxed w Bs 29 (.slice A ls.length c)) (hr : ReadsInt w .u32 A ls.length ls) :
    Calls Try.prog 65 #[.func (.func 67) #[] #[.pointer (some ⟨Bs, 0, none⟩)]] w fun e w' => ∃ v, e = .returned v ∧ w'.ownsRow w.heap.size 25 1 v ls.length (nums .u32 ls) ∧ Below w.heap.size w w' := by
  have H1 := Lib.hid h1
  have HR := Lib.hid hr
  have HZ := Lib.hid hl
  clear h1 hr hl
  go_enter Try.func65, Try.ntmps65
  go_wp2_with (go_at_call 76; refine (appseq_w Bs A c ls (by have := HZ.out; omega) _ H1.out HR.out).mono ?_; rintro e w' ⟨v, rfl, hv⟩; have HV := Lib.hid hv; clear hv)
  go_ret
  exact ⟨v, rfl, HV.out⟩
theorem lies_of_own {w : World} {b g cap n : Nat} {cur : Array Value} {ls : List Int} (hg : w.heap[g]? = some (.cells cur 25 (0, 0))) (hs : cur.size = cap) (hn : ls.length = n) (hc : n ≤ cap) (ht : cur.toList.take n = nums .u32 ls) : Lies w w g cap ls.toArray := by
  subst hn
  refine ⟨Off.refl _ _, by simpa using hc, cur, hg, hs, fun i hi => ?_⟩
  have hi' : i < ls.length := by simpa using hi
  have h1 : (cur.toList.take ls.length)[i]? = (nums .u32 ls)[i]? := by rw [ht]
  rw [List.getElem?_take, if_pos hi', Array.getElem?_toList] at h1
  rw [h1, getElem!_pos ls.toArray i hi]
  simp [nums, hi']
theorem own_of_front {w0 w : World} {b g cap n : Nat} {L : List Int} (h : Front w0 w g cap n L) (hg : b ≤ g) (hc : n ≤ cap) (hm : cap ≤ maxLen) : w.ownsRow b 25 1 (.slice (some ⟨g, 0, none⟩) L.length cap) L.length (nums .u32 L) := by
  obtain ⟨d', hl, hs, hn, hf⟩ := h.lies
  obtain ⟨cur, hb, hz, hcell⟩ := hl.row
  refine ⟨by simp [nums], .inr ⟨g, cap, cur, rfl, hg, hb, by omega, hm, by rw [hz]; omega, ?_⟩⟩
  apply List.ext_getElem?
  intro i
  rw [List.getElem?_take]
  by_cases hi : i < L.length
  · rw [if_pos (by omega), Array.getElem?_toList, hcell i (by omega)]
    have := hf i hi
    simp [nums, this]
  · rw [if_neg (by omega)]
    exact (List.getElem?_eq_none (by simp [nums]; omega)).symm
theorem nil_own {w : World} {b n : Nat} {v : Value} {ls : List Int} (h : w.ownsRow b 25 1 v n (nums .u32 ls)) (hn : ls.length = n) :
    (v = .slice none 0 0 ∧ ls = []) ∨ ∃ g cap, v = .slice (some ⟨g, 0, none⟩) n cap ∧ b ≤ g ∧ n ≤ cap ∧ cap ≤ maxLen ∧ Lies w w g cap ls.toArray := by
  obtain ⟨_, h | ⟨g, cap, cur, rfl, hg, hb, hc, hm, hz, ht⟩⟩ := h
  · exact .inl ⟨h.1, List.eq_nil_of_length_eq_zero (by omega)⟩
  · exact .inr ⟨g, cap, rfl, hg, hc, hm, lies_of_own (b := b) hb (by omega) hn hc (by simpa using ht)⟩
def MadeRow (ls : List Int) (w : World) (e : Ending) (w' : World) : Prop :=
  Below w.heap.size w w' ∧ ((e = .returned (.slice none 0 0) ∧ ls = []) ∨ ∃ g cap R, e = .returned (.slice (some ⟨g, 0, none⟩) ls.length cap) ∧ w.heap.size ≤ g ∧ ls.length ≤ cap ∧ cap ≤ maxLen ∧ (PermIn 0 ls.length ls.toArray R ∧ SortedIn ltA 0 ls.length R) ∧ Lies w' w' g cap R)
theorem below_lies {w w1 w2 : World} {g m : Nat} {d : Array Int} (h : Below w.heap.size w w1) (k : Lies w1 w2 g m d) (hg : w.heap.size ≤ g) : Below w.heap.size w w2 :=
  ((Off.of_below h).trans (k.off.mono (fun i _ e => by omega))).below (Nat.le_refl _)
theorem sorted_w (Bs : Nat) (A : Option Addr) (c : Nat) (ls : List Int) (hl : ls.length < 65536) (w : World) (h1 : Boxed w Bs 29 (.slice A ls.length c)) (hr : ReadsInt w .u32 A ls.length ls) :
    Calls Try.prog 44 #[.func (.func 67) #[] #[.pointer (some ⟨Bs, 0, none⟩)]] w (MadeRow ls w) := by
  have H1 := Lib.hid h1
  have HR := Lib.hid hr
  have HZ := Lib.hid hl
  clear h1 hr hl
  go_enter Try.func44, Try.ntmps44
  go_upto_region 2 with (go_at_call 65; refine (collect_w Bs A c ls HZ.out _ H1.out HR.out).mono ?_; rintro e w' ⟨v, rfl, hv⟩; have HV := Lib.hid hv; clear hv)
  have hvv := nil_own HV.out.1 rfl
  rcases hvv with ⟨rfl, he⟩ | ⟨g, cap, rfl, hg, hc, hm, hl⟩
  · have HE := Lib.hid he
    clear he
    go_wp2_with (go_at_call 66; refine (sort_nil _).mono ?_; rintro e w' ⟨rfl, rfl⟩)
    go_ret
    exact ⟨HV.out.2, .inl ⟨rfl, HE.out⟩⟩
  · have HLL := Lib.hid hl
    have HG := Lib.hid (show w.heap.size ≤ g ∧ ls.length ≤ cap ∧ cap ≤ maxLen from ⟨hg, hc, hm⟩)
    clear hl hg hc hm
    go_wp2_with (go_at_call 66; refine (sort_w HLL.out (by simp) HZ.out).mono ?_; rintro r w' ⟨rfl, hR⟩; have HRR := Lib.hid hR; clear hR)
    go_ret
    obtain ⟨R, hs, hl⟩ := HRR.out
    exact ⟨below_lies HV.out.2 hl HG.out.1, .inr ⟨g, cap, R, rfl, HG.out.1, HG.out.2.1, HG.out.2.2, hs, hl.here⟩⟩
theorem compact_nil (w : World) : Calls Try.prog 43 #[.slice none 0 0] w fun e w' => e = .returned (.slice none 0 0) ∧ w' = w := by
  go_enter Try.func43, Try.ntmps43
  go_wp2
  go_ret
  exact ⟨rfl, rfl⟩
theorem below_made {w w2 : World} {o : Obj} (h : Below (w.alloc o).heap.size (w.alloc o) w2) : Below w.heap.size w w2 :=
  ((off_alloc w o).mono (ψ := fun k => w.heap.size ≤ k) (fun _ _ h => h.elim) |>.then_ (Off.of_below h) (fun i hi h' => by simp at h'; omega)).below (Nat.le_refl _)
theorem make_w (A : Option Addr) (c : Nat) (ls : List Int) (hl : ls.length < 65536) (w : World) (hr : ReadsInt w .u32 A ls.length ls) :
    Calls Try.prog 28 #[.slice A ls.length c] w fun e w' => ∃ v, e = .returned v ∧ w'.ownsRow w.heap.size 25 1 v (mk ls).length (nums .u32 (mk ls)) ∧ Below w.heap.size w w' := by
  have HR := Lib.hid hr
  have HZ := Lib.hid hl
  clear hr hl
  go_enter Try.func28, Try.ntmps28
  go_wp2_with (first | (go_at_call 45; refine (values_w _ _ _ _).mono ?_; rintro e w' ⟨rfl, rfl⟩) | (go_at_call 44; refine (sorted_w w.heap.size A c ls HZ.out _ (Boxed.new w _ _) (readsInt_of_block HR.out (fun ad e hp => Below.heap_alloc _ _ _ (by obtain ⟨ad', e', hc⟩ := HR.out.2.2 hp; rw [e] at e'; cases e'; have := World.block_lt_of_cell? w _ (hc 0 hp); unfold Addr.add at this; simpa using this)))).mono ?_; rintro e w2 ⟨hB, ⟨rfl, he⟩ | ⟨g, cap, R, rfl, hg, hc, hm, hs, hl⟩⟩))
  · have HE := Lib.hid he
    have HB := Lib.hid hB
    clear he hB
    refine (compact_nil _).mono ?_
    rintro e w' ⟨rfl, rfl⟩
    go_wp2
    go_ret
    refine ⟨_, rfl, by rw [HE.out]; exact own_nil _ _ _ _, ?_⟩
    exact below_made HB.out
  · have HB := Lib.hid hB
    have HL := Lib.hid hl
    have HS := Lib.hid hs
    have HG := Lib.hid (show w.heap.size ≤ g ∧ ls.length ≤ cap ∧ cap ≤ maxLen from ⟨by simp at hg; omega, hc, hm⟩)
    have HC := Lib.hid (show R.size = ls.length from by rw [hs.1.1]; simp)
    clear hB hl hs hg hc hm
    refine (compact_w HL.out HC.out HZ.out HG.out.2.1).mono ?_
    rintro e w' ⟨rfl, hf⟩
    rw [cup_mk rfl HS.out.1 HS.out.2] at hf ⊢
    have HF := Lib.hid hf
    clear hf
    go_wp2
    go_ret
    refine ⟨_, rfl, own_of_front HF.out HG.out.1 HG.out.2.1 HG.out.2.2, ?_⟩
    obtain ⟨d', h1, _⟩ := HF.out.lies
    exact below_lies (below_made HB.out) h1 HG.out.1

def set_Make.f (l0 : List Int) : Option (List Int) := if l0.length < 65536 then some (mk l0) else none
theorem set_Make.calls (A0 : Option Addr) (c0 : Nat) (l0 : List Int) (r : List Int) (w : World) (hr0 : Kd.C (Kd.int .u32) w A0 l0.length l0) (hc0 : l0.length ≤ c0) (h : set_Make.f l0 = some r) :
    Calls Try.prog 28 #[.slice A0 l0.length c0] w fun e w' => ∃ v0_ : Value, e = .returned (v0_) ∧ Kd.R (Kd.int .u32) 25 w' w.heap.size (fun _ => True) v0_ r ∧ Below w.heap.size w w' := by
  unfold set_Make.f at h
  split at h
  next hl =>
    cases h
    refine (make_w A0 c0 l0 hl w (rdu hr0)).mono ?_
    rintro e w' ⟨v, rfl, hrow, hB⟩
    exact ⟨v, rfl, Kd.R_of_own hrow (fun _ _ => trivial), hB⟩
  next => cases h
end Go.Proofs.Ytbllchfgjginoaa
-- written by a program of this session (hprint.py), over the kit's printer




namespace Go.Proofs.Ytbllchfgjginoaa.PMe
open Go.RowKit Go.Proofs.YtbllchfgjginoaaW.PrintWords Go.Proofs.YtbllchfgjginoaaW.PrintLast Go.Proofs.YtbllchfgjginoaaW.PrintMore
attribute [local go_sem] max2_int min2_int max_two min_two max_three min_three max_four min_four   -- for this text's walks alone
set_option linter.unusedVariables false
set_option linter.unusedSimpArgs false



def errW : Option Int → Value
  | none => .nilIface
  | some c => .iface 0 (.int .i64 c)
theorem errW_none : errW none = .nilIface := rfl
theorem errW_some (c : Int) : errW (some c) = .iface 0 (.int .i64 c) := rfl

theorem info25 : (Try.prog.info? 25).map (fun i => (i.zero, i.size, i.bytes)) = some (some (.int .u32 0), 1, 4) := by kernel_rfl
theorem info46 : (Try.prog.info? 46).map (fun i => (i.zero, i.size, i.bytes)) = some (some (.agg #[(.int .u32 0), (.slice none 0 0)]), 2, 32) := by kernel_rfl
theorem info49 : (Try.prog.info? 49).map (fun i => (i.zero, i.size, i.bytes)) = some (some (.agg #[(.int .u32 0), (.int .i64 0)]), 2, 16) := by kernel_rfl
-- the values' own types
/-! #### struct type 23 -/
structure S23 where
  f0 : Int
  f1 : Int
def k23 : Kd S23 := Kd.iso (Kd.pair (Kd.int .i64) (Kd.int .i64)) (fun x : S23 => (x.f0, x.f1))
/-! #### struct type 49 -/
structure S49 where
  f0 : Int
  f1 : Int
def z49 : S49 := ⟨(0 : Int), (0 : Int)⟩
def k49 : Kd S49 := Kd.iso (Kd.pair (Kd.int .u32) (Kd.int .i64)) (fun x : S49 => (x.f0, x.f1))
theorem k49_heap : Kd.Heap k49 := Kd.heap_iso _ (Kd.heap_pair (Kd.heap_int .u32) (Kd.heap_int .i64))
theorem k49_open {w : World} {x : S49} {cs : List Value} (h : k49.K w x cs) : cs = [.int .u32 x.f0, .int .i64 x.f1] := by
  obtain ⟨_, _, rfl, rfl, rfl⟩ := h
  exact rfl
theorem k49_openM {w : World} {base : Nat} {ok : Nat → Prop} {x : S49} {cs : List Value} (h : k49.M w base ok x cs) : cs = [.int .u32 x.f0, .int .i64 x.f1] := by
  obtain ⟨_, _, rfl, rfl, rfl⟩ := h
  exact rfl
theorem k49_mkM (w : World) (base : Nat) (ok : Nat → Prop) (x : S49)  : k49.M w base ok x [.int .u32 x.f0, .int .i64 x.f1] := ⟨[.int .u32 x.f0], [.int .i64 x.f1], rfl, rfl, rfl⟩
def rd_T49 (xs : List S49) (i : Int) : S49 := xs.getD i.toNat z49
theorem at_T49 {w : World} {A : Option Addr} {n : Nat} {xs : List S49} (h : Kd.C k49 w A n xs) (i : Int) (h0 : 0 ≤ i) (h1 : i < n) : ∃ ad , A = some ad ∧ w.cell? (ad.add (i.toNat * 2)) = some (.int .u32 (rd_T49 xs i).f0) ∧ w.cell? ⟨(ad.add (i.toNat * 2)).block, (ad.add (i.toNat * 2)).off + 1, none⟩ = some (.int .i64 (rd_T49 xs i).f1) := by
  obtain ⟨ad, c, e, _, hK, hc0⟩ := Kd.C_get h z49 i h0 h1
  have hc : ∀ j u, c[j]? = some u → w.cell? (ad.add (i.toNat * 2 + j)) = some u := hc0
  obtain rfl := k49_open hK
  exact ⟨ad, e, hc 0 _ rfl, by rw [← add_field _ _ 1 (by omega)]; exact hc 1 _ rfl⟩

/-! #### struct type 28 -/
structure S28 where
  f0 : Int
  f1 : Bool
  f2 : Int
  f3 : (List S49)
def k28 : Kd S28 := Kd.iso (Kd.pair (Kd.int .u32) (Kd.pair Kd.bool (Kd.pair (Kd.int .i64) (Kd.slice 49 k49)))) (fun x : S28 => (x.f0, x.f1, x.f2, x.f3))
/-! #### struct type 46 -/
structure S46 where
  f0 : Int
  f1 : (List Int)
def z46 : S46 := ⟨(0 : Int), ([] : List Int)⟩
def k46 : Kd S46 := Kd.iso (Kd.pair (Kd.int .u32) (Kd.slice 25 (Kd.int .u32))) (fun x : S46 => (x.f0, x.f1))
theorem k46_open {w : World} {x : S46} {cs : List Value} (h : k46.K w x cs) : ∃ A1 c1, cs = [.int .u32 x.f0, .slice A1 x.f1.length c1] ∧ x.f1.length ≤ c1 ∧ (Kd.int .u32).C w A1 x.f1.length x.f1 := by
  obtain ⟨_, _, rfl, rfl, ⟨A1, c1, rfl, l1, g1⟩⟩ := h
  exact ⟨A1, c1, rfl, l1, g1⟩
theorem k46_mk (w : World) (x : S46) {A1 : Option Addr} {c1 : Nat} (l1 : x.f1.length ≤ c1) (g1 : (Kd.int .u32).C w A1 x.f1.length x.f1) : k46.K w x [.int .u32 x.f0, .slice A1 x.f1.length c1] := ⟨[.int .u32 x.f0], [.slice A1 x.f1.length c1], rfl, rfl, ⟨A1, c1, rfl, l1, g1⟩⟩
theorem k46_mkM (w : World) (base : Nat) (ok : Nat → Prop) (x : S46) {v1 : Value} (g1 : (Kd.int .u32).R 25 w base ok v1 x.f1) : k46.M w base ok x [.int .u32 x.f0, v1] := ⟨[.int .u32 x.f0], [v1], rfl, rfl, ⟨v1, rfl, g1⟩⟩
theorem k46_mkF (W : World) (ok : Nat → Prop) (x : S46) {A1 : Option Addr} {c1 : Nat} (l1 : x.f1.length ≤ c1) (g1 : Kd.F (Kd.int .u32) W ok A1 x.f1.length x.f1) : Kd.FK k46 W ok x [.int .u32 x.f0, .slice A1 x.f1.length c1] := fun W2 hW => k46_mk W2 x l1 (g1 W2 hW)
def rd_T46 (xs : List S46) (i : Int) : S46 := xs.getD i.toNat z46
theorem at_T46 {w : World} {A : Option Addr} {n : Nat} {xs : List S46} (h : Kd.C k46 w A n xs) (i : Int) (h0 : 0 ≤ i) (h1 : i < n) : ∃ ad A1 c1, A = some ad ∧ w.cell? (ad.add (i.toNat * 2)) = some (.int .u32 (rd_T46 xs i).f0) ∧ w.cell? ⟨(ad.add (i.toNat * 2)).block, (ad.add (i.toNat * 2)).off + 1, none⟩ = some (.slice A1 (rd_T46 xs i).f1.length c1) ∧ (rd_T46 xs i).f1.length ≤ c1 ∧ (Kd.int .u32).C w A1 (rd_T46 xs i).f1.length (rd_T46 xs i).f1 := by
  obtain ⟨ad, c, e, _, hK, hc0⟩ := Kd.C_get h z46 i h0 h1
  have hc : ∀ j u, c[j]? = some u → w.cell? (ad.add (i.toNat * 2 + j)) = some u := hc0
  obtain ⟨A1, c1, rfl, l1, g1⟩ := k46_open hK
  exact ⟨ad, A1, c1, e, hc 0 _ rfl, by rw [← add_field _ _ 1 (by omega)]; exact hc 1 _ rfl, l1, g1⟩

end Go.Proofs.Ytbllchfgjginoaa.PMe
/-
  A store over a store into the same cell.
-/
namespace Go.Proofs.Ytbllchfgjginoaa
open Go.RowKit
theorem set2 (w : World) (g j : Nat) (u v : Value) : (w.setCell ⟨g, j, none⟩ u).setCell ⟨g, j, none⟩ v = w.setCell ⟨g, j, none⟩ v := by
  unfold World.setCell
  congr 1
  apply Array.ext_getElem?
  intro k
  simp only [Array.getElem?_modify]
  by_cases hk : g = k
  · subst hk
    simp only [if_true]
    cases w.heap[g]? with
    | none => rfl
    | some o => cases o <;> simp
  · simp [hk]
theorem set2c (w : World) (g j : Nat) (u v : Value) (a : Addr) : ((w.setCell ⟨g, j, none⟩ u).setCell ⟨g, j, none⟩ v).cell? a = (w.setCell ⟨g, j, none⟩ v).cell? a := by rw [set2]
theorem set2f (w : World) (g j : Nat) (u v : Value) (a : Addr) : ((w.setCell ⟨g, j, none⟩ u).setCell ⟨g, j, none⟩ v).frozen? a = (w.setCell ⟨g, j, none⟩ v).frozen? a := by rw [set2]
end Go.Proofs.Ytbllchfgjginoaa
-- written by a program of this session (hprint.py), over the kit's printer
namespace Go.Proofs.Ytbllchfgjginoaa.PMe
open Go.RowKit Go.Proofs.YtbllchfgjginoaaW.PrintWords Go.Proofs.YtbllchfgjginoaaW.PrintLast Go.Proofs.YtbllchfgjginoaaW.PrintMore
attribute [local go_sem high] Go.Proofs.Ytbllchfgjginoaa.set2c Go.Proofs.Ytbllchfgjginoaa.set2f
attribute [local go_sem] max2_int min2_int max_two min_two max_three min_three max_four min_four   -- for this text's walks alone
set_option linter.unusedVariables false
set_option linter.unusedSimpArgs false

/-! ### memb_Tick: function 17 -/
/-! ### stolonref06_Has: function 18 -/
def stolonref06_Has.l0 : Nat → List Int → Int → Int → Option (Bool)
  | 0, _, _, _ => none
  | k + 1, x0, x1, x5 => if x5 < (x0.length : Int) then (if 0 ≤ x5 then (if (rd x0 x5) = x1 then (some true) else (stolonref06_Has.l0 k x0 x1 (wrap64 (x5 + 1)))) else (none)) else (some false)
def stolonref06_Has.f (k : Nat) (l0 : List Int) (a1 : Int) : Option (Bool) := stolonref06_Has.l0 k l0 a1 0
theorem stolonref06_Has.mono_l : ∀ k, (∀ y0 y1 y2, LeO (stolonref06_Has.l0 k y0 y1 y2) (stolonref06_Has.l0 (k + 1) y0 y1 y2))
  | 0 => fun _ _ _ r h => by simp [stolonref06_Has.l0] at h
  | k + 1 => by
    have ih0 := stolonref06_Has.mono_l k
    · intro y0 y1 y2
      unfold stolonref06_Has.l0
      repeat' first
      | (with_reducible exact ih0 _ _ _)
      | (with_reducible exact LeO.refl _)
      | (with_reducible exact LeO.none _)
      | (with_reducible refine LeO.ite ?_ ?_)
      | (with_reducible refine LeO.bind ?_ (fun _ => ?_))
      | exact ih0 _ _ _
      | exact LeO.none _
      | refine LeO.ite ?_ ?_
      | refine LeO.bind ?_ (fun _ => ?_)
theorem stolonref06_Has.mono : ∀ a0 a1 k, LeO (stolonref06_Has.f k a0 a1) (stolonref06_Has.f (k + 1) a0 a1) := by
  intro a0 a1 k
  have ih0 := stolonref06_Has.mono_l k
  unfold stolonref06_Has.f
  repeat' first
      | (with_reducible exact ih0 _ _ _)
      | (with_reducible exact LeO.refl _)
      | (with_reducible exact LeO.none _)
      | (with_reducible refine LeO.ite ?_ ?_)
      | (with_reducible refine LeO.bind ?_ (fun _ => ?_))
      | exact ih0 _ _ _
      | exact LeO.none _
      | refine LeO.ite ?_ ?_
      | refine LeO.bind ?_ (fun _ => ?_)
set_option maxHeartbeats 8000000 in
set_option maxRecDepth 100000 in
theorem stolonref06_Has.calls (k : Nat) (A0 : Option Addr) (c0 : Nat) (l0 : List Int) (a1 : Int) (r : Bool) (w : World) (hr0 : Kd.C (Kd.int .u32) w A0 l0.length l0) (hc0 : l0.length ≤ c0) (h : stolonref06_Has.f k l0 a1 = some r) :
    Calls Try.prog 18 #[.slice A0 l0.length c0, .int .u32 a1] w fun e w' => e = .returned (.bool r) ∧ Drawn0 w w' := by
  have HR0 := Aside0.mk hr0
  have HC0 := Aside0.mk hc0
  clear hr0 hc0
  have H : (stolonref06_Has.l0 k l0 a1 0) = some r := h
  clear h
  have H' := Aside0.mk H
  clear H
  go_enter Try.func18, Try.ntmps18
  go_wp2
  go_loopg [5] k (fun kq v5 w' => ∃ (x5_1 : Int), v5 = .int .i64 x5_1 ∧ Aside0 (stolonref06_Has.l0 kq l0 a1 x5_1 = some r) ∧ Aside0 (kq ≤ k) ∧ Drawn0 w w')
  case atStart => exact ⟨(0), (fr), H', ⟨Nat.le_refl _⟩, by repeat (first | exact Drawn0.refl _ | apply Drawn0.step)⟩
  case round =>
    clear H'
    try clear c1
    try clear p2
    obtain ⟨x5_1, rfl, HA, HK1, ⟨m1, rfl⟩⟩ := hrel
    cases gk with
    | zero => exact absurd HA.out (by simp [stolonref06_Has.l0])
    | succ k1 =>
      have H := HA.out
      clear HA
      simp only [stolonref06_Has.l0] at H
      by_cases c3 : x5_1 < (l0.length : Int)
      · rw [if_pos c3] at H
        have c3b0 : decide (x5_1 < (l0.length : Int)) = true := decide_eq_true c3
        clear c3
        by_cases c4 : 0 ≤ x5_1
        · rw [if_pos c4] at H
          have c4b0 : decide (0 ≤ x5_1) = true := decide_eq_true c4
          clear c4
          by_cases c5 : (rd l0 x5_1) = a1
          · rw [if_pos c5] at H
            have c5b0 : ((rd l0 x5_1) == a1) = true := beq_iff_eq.mpr c5
            have c5b1 : ((rd l0 x5_1) != a1) = false := bne_eq_false_iff_eq.mpr c5
            clear c5
            obtain rfl := Option.some.inj H
            have p125 : 0 ≤ (x5_1 : Int) := od
            have q125 : x5_1 < (l0.length : Int) := od
            obtain ⟨ad125, e125, hx125_0⟩ := Kd.at_int HR0.out x5_1 p125 q125
            cases e125
            replace p125 := eq_true p125
            replace q125 := eq_true q125
            go_wp2
            go_ret
            exact ⟨fr, by repeat (first | exact Drawn0.refl _ | apply Drawn0.step)⟩
          · rw [if_neg c5] at H
            have c5b0 : ((rd l0 x5_1) == a1) = false := beq_eq_false_iff_ne.mpr c5
            have c5b1 : ((rd l0 x5_1) != a1) = true := bne_iff_ne.mpr c5
            have H' := Aside0.mk H
            clear H
            have p125 : 0 ≤ (x5_1 : Int) := od
            have q125 : x5_1 < (l0.length : Int) := od
            obtain ⟨ad125, e125, hx125_0⟩ := Kd.at_int HR0.out x5_1 p125 q125
            cases e125
            replace p125 := eq_true p125
            replace q125 := eq_true q125
            go_wp2
            go_roundg k1
            case measure => have := HK1.out; omega
            case rel => exact ⟨(wrap64 (x5_1 + 1)), (fr), H', ⟨by have := HK1.out; omega⟩, by repeat (first | exact Drawn0.refl _ | apply Drawn0.step)⟩
        · rw [if_neg c4] at H
          exact absurd H (by simp)
      · rw [if_neg c3] at H
        have c3b0 : decide (x5_1 < (l0.length : Int)) = false := decide_eq_false c3
        clear c3
        obtain rfl := Option.some.inj H
        go_wp2
        go_ret
        exact ⟨fr, by repeat (first | exact Drawn0.refl _ | apply Drawn0.step)⟩

end Go.Proofs.Ytbllchfgjginoaa.PMe
