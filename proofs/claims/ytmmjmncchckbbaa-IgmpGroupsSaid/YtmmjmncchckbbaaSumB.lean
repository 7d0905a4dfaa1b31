/-
  Package sum: words, Of, by contracts.
-/
import Derived.Test.YtmmjmncchckbbaaSumA
import Derived.Laws.BitsLemmas
namespace Go.Proofs.Ytmmjmncchckbbaa
open Go.RowKit Go.Shelf Go.Proofs.YtmmjmncchckbbaaW.PrintWords
attribute [local go_sem] Oper.semAt_some

theorem readsInt_of_block {w w' : World} {k : IntKind} {A : Option Addr} {n : Nat} {xs : List Int} (h : ReadsInt w k A n xs) (hb : ∀ ad, A = some ad → 0 < n → w'.heap[ad.block]? = w.heap[ad.block]?) : ReadsInt w' k A n xs :=
  ⟨h.1, h.2.1, fun hn => by
    obtain ⟨ad, e, hc⟩ := h.2.2 hn
    refine ⟨ad, e, fun j hj => ?_⟩
    rw [World.cell?_of_block (w := w) (by rw [show (ad.add j).block = ad.block from by unfold Addr.add; split <;> rfl]; exact hb ad e hn)]
    exact hc j hj⟩

theorem chunk_calls (A : Option Addr) (len c : Nat) (w : World) :
    Calls Try.prog 65 #[.slice A len c, .int .i64 2] w fun e w' => e = .returned (.func (.func 66) #[] #[.pointer (some ⟨w.heap.size, 0, none⟩), .pointer (some ⟨w.heap.size + 1, 0, none⟩)]) ∧
      w' = (w.alloc (.cells #[.slice A len c] 30)).alloc (.cells #[.int .i64 2] 3) := by
  go_enter Try.func65, Try.ntmps65
  go_wp2
  go_ret
  exact ⟨rfl, rfl⟩

theorem words_calls (A : Option Addr) (len c : Nat) (w : World) :
    Calls Try.prog 61 #[.slice A len c] w fun e w' => e = .returned (.func (.func 64) #[] #[.pointer (some ⟨w.heap.size, 0, none⟩)]) ∧
      w' = w.alloc (.cells #[.slice A len c] 30) := by
  go_enter Try.func61, Try.ntmps61
  go_wp2
  go_ret
  exact ⟨rfl, rfl⟩

theorem wraps_u16 (n : Int) (h₀ : 0 ≤ n) (h₁ : n < 2 ^ 16) : IntKind.u16.wrap n = n := by simp [IntKind.wrap, IntKind.bits, IntKind.signed]; omega
theorem u16_join (x y : Int) (h0 : 0 ≤ x) (h1 : x < 256) (h2 : 0 ≤ y) (h3 : y < 256) : bits .or .u16 (x * 256) y = x * 256 + y :=
  bits_join .u16 16 (by decide) wraps_u16 8 _ _ (by omega) (by omega) (by omega) h2 (by omega) (by omega)

/-- The k-th word of bytes. -/
def wordAt (zs : List Int) (k : Nat) : Int := zs.getD (2 * k) 0 * 256 + (if 2 * k + 1 < zs.length then zs.getD (2 * k + 1) 0 else 0)

set_option maxRecDepth 100000 in
set_option maxHeartbeats 2000000 in
theorem words_iter (Bb : Nat) (A : Option Addr) (c : Nat) (zs : List Int) (hl : zs.length ≤ 140737488351232) (hcap : zs.length ≤ c) (hz : ∀ z ∈ zs, 0 ≤ z ∧ z < 256)
    (w : World) (h1 : Boxed w Bb 30 (.slice A zs.length c)) (hr : ReadsInt w .u8 A zs.length zs) :
    Iter Try.prog 64 #[.pointer (some ⟨Bb, 0, none⟩)] (fun k => #[.int .u16 (wordAt zs k)]) (List.range ((zs.length + 1) / 2)) (fun k => k = Bb ∨ (0 < zs.length ∧ ∃ ad, A = some ad ∧ k = ad.block)) (fun _ => False) w := by
  have hdat : ∀ ad, A = some ad → 0 < zs.length → ad.block < w.heap.size := fun ad e hp => by
    obtain ⟨ad', e', hc⟩ := hr.2.2 hp
    rw [e] at e'; cases e'
    have := World.block_lt_of_cell? w _ (hc 0 hp)
    unfold Addr.add at this
    simpa using this
  refine ⟨?_, ?_⟩
  · rintro k (rfl | ⟨hp, ad, e, rfl⟩)
    · exact h1.lt
    · exact hdat ad e hp
  intro l J φ W hW hex hst hdis hround h0
  have b1 : Boxed W Bb 30 (.slice A zs.length c) := (hW.block _ h1.lt (fun h => h (.inl rfl))).trans h1
  have hrW : ReadsInt W .u8 A zs.length zs := readsInt_of_block hr (fun ad e hp => hW.block _ (hdat ad e hp) (fun h => h (.inr ⟨hp, ad, e, rfl⟩)))
  have c1 := (b1.alloc (.cells #[.func (.yield l) #[] #[]] 92)).cell
  refine callsIn_of_wp_marks Try.func64 rfl trivial ?_ rfl
  simp only [Try.ntmps64, List.size_toArray, List.length_cons, List.length_nil, Nat.reduceAdd, Nat.reduceSub, Array.replicate_succ, Array.replicate_zero, List.push_toArray, List.append_toArray, List.nil_append, List.cons_append]
  gi_wp2_with (refine ⟨trivial, rfl, ?_⟩; gi_at_call 65; refine (callsIn_wide.2 (chunk_calls _ _ _ _)).mono ?_; rintro e w' ⟨rfl, rfl⟩)
  obtain ⟨W3, hW3⟩ : ∃ W3, (((W.alloc (.cells #[.func (.yield l) #[] #[]] 92)).alloc (.cells #[.slice A zs.length c] 30)).alloc (.cells #[.int .i64 2] 3)) = W3 := ⟨_, rfl⟩
  have s3 : W3.heap.size = W.heap.size + 3 := by rw [← hW3]; simp
  have hO3 : ∀ φ, Off φ W W3 := fun φ => by rw [← hW3]; exact (((Off.refl φ W).alloc _).alloc _).alloc _
  have x1 : Boxed W3 W.heap.size 92 (.func (.yield l) #[] #[]) := by rw [← hW3]; exact ((Boxed.new W _ _).alloc _).alloc _
  have x2 : Boxed W3 (W.heap.size + 1) 30 (.slice A zs.length c) := by
    rw [← hW3]; have := (Boxed.new (W.alloc (.cells #[.func (.yield l) #[] #[]] 92)) 30 (.slice A zs.length c)).alloc (.cells #[.int .i64 2] 3); rwa [World.size_alloc] at this
  have x3 : Boxed W3 (W.heap.size + 2) 3 (.int .i64 2) := by
    rw [← hW3]; have := Boxed.new ((W.alloc (.cells #[.func (.yield l) #[] #[]] 92)).alloc (.cells #[.slice A zs.length c] 30)) 3 (.int .i64 2); rwa [World.size_alloc, World.size_alloc] at this
  rw [hW3]
  have hφ0 : ∀ k, φ k → k < W.heap.size := hex _ _ _ h0
  refine wpIn_range (α := Nat) (lb := #[.pointer (some ⟨W.heap.size + 1, 0, none⟩), .pointer (some ⟨W.heap.size + 2, 0, none⟩)]) rfl (enters_of Try.func66 (by kernel_rfl) rfl)
    (chunk_iter _ _ A zs.length c hl hcap (fun hp => by obtain ⟨ad, e, _⟩ := hr.2.2 hp; exact ⟨ad, e⟩) W3 x2 x3) (fun _ => rfl)
    (fun pre ψ B => ∃ φ1, ψ = (fun k => φ1 k ∨ k = W.heap.size ∨ (0 < zs.length ∧ ∃ ad, A = some ad ∧ k = ad.block)) ∧ J pre φ1 B ∧ ¬ φ1 W.heap.size ∧ (∀ ad, A = some ad → 0 < zs.length → ¬ φ1 ad.block) ∧
      Boxed B W.heap.size 92 (.func (.yield l) #[] #[]) ∧ (∀ ad, A = some ad → 0 < zs.length → B.heap[ad.block]? = W.heap[ad.block]?))
    (fun k => φ k ∨ k = W.heap.size ∨ (0 < zs.length ∧ ∃ ad, A = some ad ∧ k = ad.block)) ?hex ?hst ?hdis ?h0
    ?body ?done
  case hex =>
    rintro pre ψ B ⟨φ1, rfl, hJ, -, -, hb, hrB⟩ k (h | rfl | ⟨hp, ad, e, rfl⟩)
    · exact hex _ _ _ hJ k h
    · exact hb.lt
    · have h1 := hrB ad e hp
      have h2 := hdat ad e hp
      have h3 := hW.size
      exact (Array.getElem?_eq_some_iff.1 (h1.trans (Array.getElem?_eq_getElem (by omega)))).1
  case hst =>
    rintro pre ψ B B' ⟨φ1, rfl, hJ, n1, n2, hb, hrB⟩ hO
    refine ⟨φ1, rfl, hst _ _ _ _ hJ (hO.mono (fun k _ h hp => h (.inl hp))), n1, n2, (hO.block _ hb.lt (fun h => h (.inr (.inl rfl)))).trans hb,
      fun ad e hp => (hO.block _ ?_ (fun h => h (.inr (.inr ⟨hp, ad, e, rfl⟩)))).trans (hrB ad e hp)⟩
    have h1 := hrB ad e hp
    have h2 := hdat ad e hp
    have h3 := hW.size
    exact (Array.getElem?_eq_some_iff.1 (h1.trans (Array.getElem?_eq_getElem (by omega)))).1
  case hdis =>
    rintro k (h | rfl | ⟨hp, ad, e, rfl⟩)
    · have := hφ0 k h; omega
    · omega
    · have := hdat ad e hp; have := hW.size; omega
  case h0 =>
    exact ⟨φ, rfl, hst _ _ _ _ h0 (hO3 _), fun h => by have := hφ0 _ h; omega, fun ad e hp h => hdis _ h (.inr ⟨hp, ad, e, rfl⟩), x1,
      fun ad e hp => (hO3 (fun _ => False)).block _ (by have := hdat ad e hp; have := hW.size; omega) id⟩
  case body =>
    rintro l2 pre x ψ B K hI hpre hl2 hnl hlt hK
    gi_wp2
    refine hK _ _ (Off.refl _ _) ?_
    rintro B2 hO2 hz2 ⟨φ1, rfl, hJ, n1, n2, hb, hrB⟩
    obtain ⟨rfl, hx⟩ := range_pre hpre
    have hp : 0 < zs.length := by omega
    have hrB' := readsInt_of_block hrW hrB
    obtain ⟨ad, rfl, hc⟩ := hrB'.2.2 hp
    have cy := hb.cell
    obtain ⟨z0, e0⟩ : ∃ z, zs.getD (2 * x) 0 = z := ⟨_, rfl⟩
    have r0 : 0 ≤ z0 ∧ z0 < 256 := by rw [← e0, List.getD_eq_getElem?_getD, List.getElem?_eq_getElem (by omega)]; exact hz _ (List.getElem_mem _)
    obtain ⟨r0, r0'⟩ := r0
    have k0 : B2.cell? (ad.add (2 * x)) = some (.int .u8 z0) := by rw [← e0]; exact hc (2 * x) (by omega)
    have hy := hround (List.range x) x φ1 B2 hJ hpre
    have fin : ∀ (B3 : World) (φ2 : Nat → Prop), (∀ k, φ2 k → φ1 k ∨ B2.heap.size ≤ k) → J (List.range x ++ [x]) φ2 B3 → Off φ1 B2 B3 →
        (∀ k, (φ2 k ∨ k = W.heap.size ∨ (0 < zs.length ∧ ∃ ad', some ad = some ad' ∧ k = ad'.block)) → (φ1 k ∨ k = W.heap.size ∨ (0 < zs.length ∧ ∃ ad', some ad = some ad' ∧ k = ad'.block)) ∨ B.heap.size ≤ k) ∧
        (∃ φ1', (fun k => φ2 k ∨ k = W.heap.size ∨ (0 < zs.length ∧ ∃ ad', some ad = some ad' ∧ k = ad'.block)) = (fun k => φ1' k ∨ k = W.heap.size ∨ (0 < zs.length ∧ ∃ ad', some ad = some ad' ∧ k = ad'.block)) ∧
          J (List.range x ++ [x]) φ1' B3 ∧ ¬ φ1' W.heap.size ∧ (∀ ad', some ad = some ad' → 0 < zs.length → ¬ φ1' ad'.block) ∧ Boxed B3 W.heap.size 92 (.func (.yield l) #[] #[]) ∧ (∀ ad', some ad = some ad' → 0 < zs.length → B3.heap[ad'.block]? = W.heap[ad'.block]?)) ∧
        Off (fun k => (φ1 k ∨ k = W.heap.size ∨ (0 < zs.length ∧ ∃ ad', some ad = some ad' ∧ k = ad'.block)) ∨ B.heap.size ≤ k) B2 B3 := by
      intro B3 φ2 hφ2 hJ3 hO3
      have hlt2 : ad.block < B2.heap.size := by
        have := World.block_lt_of_cell? B2 _ k0
        unfold Addr.add at this
        split at this <;> simpa using this
      refine ⟨?_, ⟨φ2, rfl, hJ3, ?_, ?_, (hO3.block _ hb.lt n1).trans hb, fun ad' e hp => ?_⟩, hO3.mono (fun k _ h => .inl (.inl h))⟩
      · rintro k (h | h | h)
        · rcases hφ2 k h with h | h
          · exact .inl (.inl h)
          · exact .inr (by omega)
        · exact .inl (.inr (.inl h))
        · exact .inl (.inr (.inr h))
      · intro h
        rcases hφ2 _ h with h | h
        · exact n1 h
        · have := hb.lt; omega
      · rintro ad' e hp h
        cases e
        rcases hφ2 _ h with h | h
        · exact n2 ad rfl hp h
        · omega
      · cases e
        exact (hO3.block _ hlt2 (n2 ad rfl hp)).trans (hrB ad rfl hp)
    by_cases hlast : 2 * x + 1 < zs.length
    · have hm2 : min 2 (zs.length - 2 * x) = 2 := by omega
      obtain ⟨z1, e1⟩ : ∃ z, zs.getD (2 * x + 1) 0 = z := ⟨_, rfl⟩
      have r1 : 0 ≤ z1 ∧ z1 < 256 := by rw [← e1, List.getD_eq_getElem?_getD, List.getElem?_eq_getElem (by omega)]; exact hz _ (List.getElem_mem _)
      obtain ⟨r1, r1'⟩ := r1
      have k1 : B2.cell? ⟨(ad.add (2 * x)).block, (ad.add (2 * x)).off + 1, none⟩ = some (.int .u8 z1) := by
        rw [← add_field ad (2 * x) 1 (by omega), ← e1]; exact hc (2 * x + 1) (by omega)
      have hw : wordAt zs x = z0 * 256 + z1 := by unfold wordAt; rw [if_pos hlast, e0, e1]
      rw [hw, ← u16_join z0 z1 r0 r0' r1 r1'] at hy
      obtain ⟨fn, tmps, assign, body, hy, hR⟩ := hy
      simp only [chunkOf, Option.map_some, hm2]
      clear hm2 e0 e1 hw hc
      gi_wp2
      refine ⟨rfl, ?_⟩
      refine RoundIn.mono (F := Fence.wide.inRound l2) hR ?_
      rintro e B3 ⟨rfl, φ2, hφ2, hJ3, hO3⟩
      gi_wp2
      exact ⟨rfl, _, fin B3 φ2 hφ2 hJ3 hO3⟩
    · have hm2 : min 2 (zs.length - 2 * x) = 1 := by omega
      have hw : wordAt zs x = z0 * 256 := by unfold wordAt; rw [if_neg hlast, e0]; omega
      rw [hw] at hy
      obtain ⟨fn, tmps, assign, body, hy, hR⟩ := hy
      simp only [chunkOf, Option.map_some, hm2]
      clear hm2 e0 hw hc
      gi_wp2
      refine ⟨rfl, ?_⟩
      refine RoundIn.mono (F := Fence.wide.inRound l2) hR ?_
      rintro e B3 ⟨rfl, φ2, hφ2, hJ3, hO3⟩
      gi_wp2
      exact ⟨rfl, _, fin B3 φ2 hφ2 hJ3 hO3⟩
  case done =>
    rintro Dd ψ' B ⟨φ1, rfl, hJ, n1, n2, hb, hrB⟩ hO hDd hnD hsub hK
    gi_wp2
    refine ⟨by simp, .inl ⟨_, _, rfl, run_takeDeferred hK, ?_⟩⟩
    refine ⟨_, results_none rfl _ _ _, ⟨_, rfl⟩, φ1, ?_, hst _ _ _ _ hJ ((Off.refl _ B).putObj (fun _ h => hnD (.inl h)) _), ?_⟩
    · intro k h
      rcases hsub k (.inl h) with (h' | rfl | ⟨hp, ad, e, rfl⟩) | h'
      · exact .inl h'
      · exact (n1 h).elim
      · exact (n2 ad e hp h).elim
      · exact .inr (by omega)
    · have hO' := (hO3 (fun k => φ k ∨ False ∨ (0 < zs.length ∧ ∃ ad, A = some ad ∧ k = ad.block))).then_ hO (by
        rintro k hk ((h | h | h) | h)
        · exact .inl h
        · omega
        · exact .inr (.inr h)
        · exact h.elim)
      have hO'' : Off (fun k => φ k ∨ False) W B := ⟨hO'.os, hO'.tape, hO'.output, hO'.size, fun k hk hn => by
        by_cases hd : 0 < zs.length ∧ ∃ ad, A = some ad ∧ k = ad.block
        · obtain ⟨hp, ad, e, rfl⟩ := hd
          exact hrB ad e hp
        · exact hO'.block k hk (fun h => by rcases h with h | h | h; exact hn (.inl h); exact h; exact hd h)⟩
      refine (hO''.mono (ψ := φ) (fun k _ h => h.elim id False.elim)).putObj (fun h => ?_) _
      omega

theorem u16_xor (s : Int) (h0 : 0 ≤ s) (h1 : s < 65536) : bits .xor .u16 IntKind.u16.max s = 65535 - s := by
  obtain ⟨a, rfl⟩ := Int.eq_ofNat_of_zero_le h0
  have ha : a < 65536 := by omega
  have hx : (65535 : Nat) ^^^ a = 65535 - a := by
    have := BitVec.toNat_not (x := BitVec.ofNat 16 a)
    rw [BitVec.not_def, BitVec.toNat_xor, BitVec.toNat_allOnes, BitVec.toNat_ofNat, Nat.mod_eq_of_lt (by omega)] at this
    exact this
  show IntKind.u16.wrap ((BitVec.ofInt 16 65535 ^^^ BitVec.ofInt 16 (a : Int)).toNat : Int) = _
  rw [BitVec.ofInt_natCast, BitVec.toNat_xor, BitVec.toNat_ofNat, Nat.mod_eq_of_lt (by omega), show (BitVec.ofInt 16 65535).toNat = 65535 from rfl, hx, wraps_u16 _ (by omega) (by omega)]
  omega

/-- The sum of words, joined one after the other. -/
def joinW (x y : Int) : Int := if x + y < 65536 then x + y else x + y - 65535
def sumOf (zs : List Int) : Int := 65535 - (List.range ((zs.length + 1) / 2)).foldl (fun s k => joinW s (wordAt zs k)) 0

theorem wordAt_range (zs : List Int) (hz : ∀ z ∈ zs, 0 ≤ z ∧ z < 256) (k : Nat) : 0 ≤ wordAt zs k ∧ wordAt zs k < 65536 := by
  have key : ∀ j, 0 ≤ zs.getD j 0 ∧ zs.getD j 0 < 256 := by
    intro j
    rcases Nat.lt_or_ge j zs.length with h | h
    · rw [List.getD_eq_getElem?_getD, List.getElem?_eq_getElem h]; exact hz _ (List.getElem_mem _)
    · rw [List.getD_eq_getElem?_getD, List.getElem?_eq_none h]; simp
  unfold wordAt
  have a := key (2 * k)
  have b := key (2 * k + 1)
  split <;> omega

theorem joinW_range {x y : Int} (h0 : 0 ≤ x) (h1 : x < 65536) (h2 : 0 ≤ y) (h3 : y < 65536) : 0 ≤ joinW x y ∧ joinW x y < 65536 := by
  unfold joinW; split <;> omega

theorem fold_range (zs : List Int) (hz : ∀ z ∈ zs, 0 ≤ z ∧ z < 256) (l : List Nat) : ∀ s, 0 ≤ s → s < 65536 → 0 ≤ l.foldl (fun s k => joinW s (wordAt zs k)) s ∧ l.foldl (fun s k => joinW s (wordAt zs k)) s < 65536 := by
  induction l with
  | nil => intro s h0 h1; exact ⟨h0, h1⟩
  | cons k l ih =>
    intro s h0 h1
    have := wordAt_range zs hz k
    have := joinW_range h0 h1 this.1 this.2
    exact ih _ this.1 this.2

theorem join_calls (x y : Int) (w : World) (h0 : 0 ≤ x) (h1 : x < 65536) (h2 : 0 ≤ y) (h3 : y < 65536) :
    Calls Try.prog 62 #[.int .u16 x, .int .u16 y] w fun e w' => e = .returned (.int .u16 (joinW x y)) ∧ w' = w := by
  go_enter Try.func62, Try.ntmps62
  go_wp2
  go_ret
  refine ⟨?_, rfl⟩
  have hm : bits .and .u32 (x + y) 65535 = (x + y) % 65536 := bits_mask .u32 32 (by decide) (fun n h0 h1 => by rw [IntKind.wrap_u32]; omega) 16 (by decide) (x + y) (by omega) (by omega)
  show Ending.returned (Value.int .u16 _) = _
  have hj := joinW_range h0 h1 h2 h3
  rw [hm, show ((x + y) % 65536 + (x + y) / 65536) % 4294967296 = joinW x y from by unfold joinW; split <;> omega, wraps_u16 _ hj.1 hj.2]

set_option maxRecDepth 100000 in
set_option maxHeartbeats 2000000 in
theorem of_calls (A : Option Addr) (c : Nat) (zs : List Int) (w : World) (hl : zs.length ≤ 140737488351232) (hcap : zs.length ≤ c) (hz : ∀ z ∈ zs, 0 ≤ z ∧ z < 256) (hr : ReadsInt w .u8 A zs.length zs) :
    Calls Try.prog 50 #[.slice A zs.length c] w fun e w' => e = .returned (.int .u16 (sumOf zs)) ∧ Below w.heap.size w w' := by
  refine (callsIn_wide (n := 0)).1 ?_
  refine callsIn_of_wp_marks Try.func50 rfl trivial ?_ rfl
  simp only [Try.ntmps50, List.size_toArray, List.length_cons, List.length_nil, Nat.reduceAdd, Nat.reduceSub, Array.replicate_succ, Array.replicate_zero, List.push_toArray, List.append_toArray, List.nil_append, List.cons_append]
  gi_wp2_with (refine ⟨trivial, rfl, ?_⟩; gi_at_call 61; refine (callsIn_wide.2 (words_calls _ _ _ _)).mono ?_; rintro e w' ⟨rfl, rfl⟩)
  obtain ⟨W3, hW3⟩ : ∃ W3, ((w.alloc (.cells #[.int .u16 0] 69)).alloc (.cells #[.slice A zs.length c] 30)) = W3 := ⟨_, rfl⟩
  have s3 : W3.heap.size = w.heap.size + 2 := by rw [← hW3]; simp
  have hO3 : ∀ φ, Off φ w W3 := fun φ => by rw [← hW3]; exact ((Off.refl φ w).alloc _).alloc _
  have x1 : Boxed W3 w.heap.size 69 (.int .u16 0) := by rw [← hW3]; exact (Boxed.new w _ _).alloc _
  have x2 : Boxed W3 (w.heap.size + 1) 30 (.slice A zs.length c) := by
    rw [← hW3]; have := Boxed.new (w.alloc (.cells #[.int .u16 0] 69)) 30 (.slice A zs.length c); rwa [World.size_alloc] at this
  have hdat : ∀ ad, A = some ad → 0 < zs.length → ad.block < w.heap.size := fun ad e hp => by
    obtain ⟨ad', e', hc⟩ := hr.2.2 hp
    rw [e] at e'; cases e'
    have := World.block_lt_of_cell? w _ (hc 0 hp)
    unfold Addr.add at this
    simpa using this
  have hr3 : ReadsInt W3 .u8 A zs.length zs := readsInt_of_block hr (fun ad e hp => (hO3 (fun _ => False)).block _ (hdat ad e hp) id)
  rw [hW3]
  refine wpIn_range (α := Nat) (lb := #[.pointer (some ⟨w.heap.size + 1, 0, none⟩)]) rfl (enters_of Try.func64 (by kernel_rfl) rfl)
    (words_iter _ A c zs hl hcap hz W3 x2 hr3) (fun _ => rfl)
    (fun pre ψ B => ψ = (fun k => k = w.heap.size) ∧ Boxed B w.heap.size 69 (.int .u16 (pre.foldl (fun s k => joinW s (wordAt zs k)) 0)))
    (fun k => k = w.heap.size) ?hex ?hst ?hdis ⟨rfl, x1⟩ ?body ?done
  case hex =>
    rintro pre ψ B ⟨rfl, hb⟩ k rfl
    exact hb.lt
  case hst =>
    rintro pre ψ B B' ⟨rfl, hb⟩ hO
    exact ⟨rfl, (hO.block _ hb.lt (fun h => h rfl)).trans hb⟩
  case hdis =>
    rintro k rfl (h | ⟨hp, ad, e, h⟩)
    · omega
    · have := hdat ad e hp; omega
  case body =>
    rintro l2 pre x ψ B K hI hpre hl2 hnl hlt hK
    gi_wp2
    refine hK _ _ (Off.refl _ _) ?_
    rintro B2 hO2 hz2 ⟨rfl, hb⟩
    have hf := fold_range zs hz pre 0 (by omega) (by omega)
    obtain ⟨s, hs⟩ : ∃ s, pre.foldl (fun s k => joinW s (wordAt zs k)) 0 = s := ⟨_, rfl⟩
    rw [hs] at hb hf
    obtain ⟨f0, f1⟩ := hf
    obtain ⟨y, hy⟩ : ∃ y, wordAt zs x = y := ⟨_, rfl⟩
    have hwr := wordAt_range zs hz x
    rw [hy] at hwr ⊢
    obtain ⟨g0, g1⟩ := hwr
    have hj := joinW_range f0 f1 g0 g1
    have HS : Hid ((pre ++ [x]).foldl (fun s k => joinW s (wordAt zs k)) 0 = joinW s y) := by show _ = _; rw [List.foldl_append, hs, List.foldl_cons, List.foldl_nil, hy]
    clear hs hy
    have cb := hb.cell
    have fb := hb.frozen
    gi_wp2_with (refine ⟨trivial, rfl, ?_⟩; gi_at_call 62; refine (CallsIn.inRound l2 (callsIn_wide.2 (join_calls _ _ _ f0 f1 g0 g1))).mono ?_; rintro e w' ⟨rfl, rfl⟩)
    refine ⟨rfl, fun k => k = w.heap.size, fun k h => .inl h, ⟨rfl, ?_⟩, (Off.refl _ _).setCell (fun _ => .inl rfl) _⟩
    rw [HS.out]
    exact hb.set _
  case done =>
    rintro Dd ψ' B ⟨rfl, hb⟩ hO hDd hnD hsub hK
    have hf := fold_range zs hz (List.range ((zs.length + 1) / 2)) 0 (by omega) (by omega)
    have HS : Hid (sumOf zs = 65535 - (List.range ((zs.length + 1) / 2)).foldl (fun s k => joinW s (wordAt zs k)) 0) := rfl
    obtain ⟨s, hs⟩ : ∃ s, (List.range ((zs.length + 1) / 2)).foldl (fun s k => joinW s (wordAt zs k)) 0 = s := ⟨_, rfl⟩
    rw [hs] at hb hf HS
    obtain ⟨f0, f1⟩ := hf
    clear hs
    have cb := hb.cell
    gi_wp2
    refine ⟨by simp, .inl ⟨_, _, rfl, run_takeDeferred hK, ?_⟩⟩
    refine ⟨_, results_tmp rfl _ _ _, ?_, ?_⟩
    · rw [HS.out]
      show Ending.returned (Value.int .u16 _) = _
      rw [u16_xor s f0 f1]
    · refine Off.below' (φ := fun k => w.heap.size ≤ k) (((hO3 _).then_ hO ?_).putObj (fun h => by omega) _) (Nat.le_refl _) (fun _ h => h)
      rintro k hk (h | h)
      · omega
      · exact h.elim
end Go.Proofs.Ytmmjmncchckbbaa
