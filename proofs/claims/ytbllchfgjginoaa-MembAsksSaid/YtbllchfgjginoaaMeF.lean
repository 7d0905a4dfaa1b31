/-
  Sets in plain lists, for chapter 08 (out of chapter 06's plain laws).
-/
import Derived.Test.YtbllchfgjginoaaPMh1
import Derived.Test.YtbllchfgjginoaaPMe0
namespace Go.Proofs.Ytbllchfgjginoaa
open Go.RowKit Go.Proofs.YtbllchfgjginoaaW.PrintWords Go.Proofs.Ytbllchfgjginoaa.PMe
set_option linter.unusedVariables false
set_option linter.unusedSimpArgs false
theorem w64 {i : Int} (h0 : -9223372036854775808 ≤ i) (h1 : i ≤ 9223372036854775807) : wrap64 i = i := by unfold wrap64; omega
theorem rd_eq (l : List Int) (i : Int) : rd l i = l.getD i.toNat 0 := rfl
abbrev Rise (l : List Int) : Prop := l.Pairwise (· < ·)
theorem getD_eq (l : List Int) (i : Nat) (h : i < l.length) : l.getD i 0 = l[i] := by
  rw [List.getD_eq_getElem?_getD, List.getElem?_eq_getElem h]; rfl
theorem nan_some (a : Int) : api_Addr_69.f a = some false := by simp [api_Addr_69.f]
theorem less_some (a b : Int) : api_Addr_81.f a b = some (decide (a < b)) := by simp [api_Addr_81.f, nan_some]
theorem nan2_some (a : Int) : api_Addr_82.f a = some false := by simp [api_Addr_82.f]
theorem has_loop (l : List Int) (hm : l.length ≤ 1000000000) (x : Int) (hr : Rise l) : ∀ n k (lo hi : Nat), lo ≤ hi → hi ≤ l.length → hi ≤ lo + n → n < k →
    (∀ i, i < lo → l.getD i 0 < x) → (∀ i, hi ≤ i → i < l.length → x ≤ l.getD i 0) →
    ∃ p, api_Addr_74.l0 k l x l.length lo hi = some (p, decide (x ∈ l)) := by
  intro n
  have fin : ∀ k (lo : Nat), lo ≤ l.length → (∀ i, i < lo → l.getD i 0 < x) → (∀ i, lo ≤ i → i < l.length → x ≤ l.getD i 0) → ∃ p, api_Addr_74.l0 (k + 1) l x l.length lo lo = some (p, decide (x ∈ l)) := by
    intro k lo h1 h2 h3
    rw [api_Addr_74.l0, if_neg (by omega)]
    by_cases h4 : lo < l.length
    · rw [if_pos (by omega), if_pos (by omega), if_pos (by omega)]
      rw [rd_eq, show ((lo : Int)).toNat = lo from by omega]
      split
      · rename_i he
        refine ⟨lo, ?_⟩
        congr 2
        symm
        rw [decide_eq_true_eq, ← he, getD_eq l lo h4]
        exact List.getElem_mem _
      · rename_i he
        rw [nan2_some]
        refine ⟨lo, ?_⟩
        simp only [Option.bind_some, Bool.false_eq_true, if_false]
        congr 2
        symm
        rw [decide_eq_false_iff_not]
        intro hx
        obtain ⟨i, hi, e⟩ := List.mem_iff_getElem.1 hx
        rw [← getD_eq l i hi] at e
        rcases Nat.lt_trichotomy i lo with h | h | h
        · have := h2 i h; omega
        · subst h; exact he e
        · have h5 := h3 lo (Nat.le_refl _) h4
          have h6 := (List.pairwise_iff_getElem.1 hr) lo i h4 hi h
          rw [← getD_eq l lo h4, ← getD_eq l i hi] at h6
          omega
    · rw [if_neg (by omega)]
      refine ⟨lo, ?_⟩
      congr 2
      symm
      rw [decide_eq_false_iff_not]
      intro hx
      obtain ⟨i, hi, e⟩ := List.mem_iff_getElem.1 hx
      rw [← getD_eq l i hi] at e
      have := h2 i (by omega)
      omega
  induction n with
  | zero =>
    intro k lo hi h1 h2 h3 hk h4 h5
    obtain ⟨k, rfl⟩ : ∃ k', k = k' + 1 := ⟨k - 1, by omega⟩
    obtain rfl : lo = hi := by omega
    exact fin k lo h2 h4 h5
  | succ n ih =>
    intro k lo hi h1 h2 h3 hk h4 h5
    obtain ⟨k, rfl⟩ : ∃ k', k = k' + 1 := ⟨k - 1, by omega⟩
    by_cases hlt : lo < hi
    · rw [api_Addr_74.l0, if_pos (by omega)]
      have e0 : (wrap64 ((IntKind.u64.wrap (wrap64 ((lo : Int) + (hi : Int)))) / 2)) = (((lo + hi) / 2 : Nat) : Int) := by
        rw [w64 (i := (lo : Int) + hi) (by omega) (by omega), IntKind.wrap_u64, w64 (by omega) (by omega)]
        omega
      rw [e0, if_pos (by omega), if_pos (by omega), less_some, rd_eq]
      simp only [Option.bind_some, Int.toNat_natCast, decide_eq_true_eq]
      have mono : ∀ i j, i < j → j < l.length → l.getD i 0 < l.getD j 0 := by
        intro i j hij hj
        have h6 := (List.pairwise_iff_getElem.1 hr) i j (by omega) hj hij
        rwa [← getD_eq l i (by omega), ← getD_eq l j hj] at h6
      split
      · rename_i hx
        rw [w64 (by omega) (by omega), show (((lo + hi) / 2 : Nat) : Int) + 1 = (((lo + hi) / 2 + 1 : Nat) : Int) from by omega]
        refine ih k _ _ (by omega) h2 (by omega) (by omega) ?_ h5
        intro i hi'
        rcases Nat.lt_or_ge i ((lo + hi) / 2) with h | h
        · have := mono i _ h (by omega); omega
        · obtain rfl : i = (lo + hi) / 2 := by omega
          exact hx
      · rename_i hx
        refine ih k _ _ (by omega) (by omega) (by omega) (by omega) h4 ?_
        intro i hi' hl
        rcases Nat.lt_or_ge ((lo + hi) / 2) i with h | h
        · have := mono _ i h hl; omega
        · obtain rfl : i = (lo + hi) / 2 := by omega
          omega
    · obtain rfl : lo = hi := by omega
      exact fin k lo h2 h4 h5
theorem has_some (l : List Int) (hm : l.length ≤ 1000000000) (x : Int) (hr : Rise l) (k : Nat) (hk : l.length < k) : set_Has.f k l x = some (decide (x ∈ l)) := by
  unfold set_Has.f api_Addr_74.f
  obtain ⟨p, hp⟩ := has_loop l hm x hr l.length k 0 l.length (by omega) (Nat.le_refl _) (by omega) hk (by intro i h; omega) (by intro i h h'; omega)
  rw [show ((0 : Nat) : Int) = 0 from rfl] at hp
  rw [hp]
  rfl
theorem both_all (a b : List Int) : ∀ x, x ∈ a ∨ x ∈ b → ∃ t ∈ bothOf a b, t.1 = x := by
  induction a, b using bothOf.induct with
  | case1 => intro x h; simp at h
  | case2 y a ih =>
    intro x h
    rw [bothOf]
    rcases h with h | h
    · rcases List.mem_cons.1 h with rfl | h
      · exact ⟨_, List.mem_cons_self, rfl⟩
      · obtain ⟨t, h1, h2⟩ := ih x (.inl h)
        exact ⟨t, List.mem_cons_of_mem _ h1, h2⟩
    · simp at h
  | case3 y b ih =>
    intro x h
    rw [bothOf]
    rcases h with h | h
    · simp at h
    · rcases List.mem_cons.1 h with rfl | h
      · exact ⟨_, List.mem_cons_self, rfl⟩
      · obtain ⟨t, h1, h2⟩ := ih x (.inr h)
        exact ⟨t, List.mem_cons_of_mem _ h1, h2⟩
  | case4 z a y b hlt ih =>
    intro x h
    rw [bothOf, if_pos hlt]
    by_cases hx : x = z
    · subst hx; exact ⟨_, List.mem_cons_self, rfl⟩
    · obtain ⟨t, h1, h2⟩ := ih x (by simpa [hx] using h)
      exact ⟨t, List.mem_cons_of_mem _ h1, h2⟩
  | case5 z a y b hlt hlt' ih =>
    intro x h
    rw [bothOf, if_neg hlt, if_pos hlt']
    by_cases hx : x = y
    · subst hx; exact ⟨_, List.mem_cons_self, rfl⟩
    · obtain ⟨t, h1, h2⟩ := ih x (by simpa [hx] using h)
      exact ⟨t, List.mem_cons_of_mem _ h1, h2⟩
  | case6 z a y b hlt hlt' ih =>
    intro x h
    rw [bothOf, if_neg hlt, if_neg hlt']
    obtain rfl : z = y := by omega
    by_cases hx : x = z
    · subst hx; exact ⟨_, List.mem_cons_self, rfl⟩
    · obtain ⟨t, h1, h2⟩ := ih x (by simpa [hx] using h)
      exact ⟨t, List.mem_cons_of_mem _ h1, h2⟩
theorem both_spec (a b : List Int) : Rise a → Rise b → ∀ t ∈ bothOf a b, t.2.1 = decide (t.1 ∈ a) ∧ t.2.2 = decide (t.1 ∈ b) ∧ (t.1 ∈ a ∨ t.1 ∈ b) := by
  induction a, b using bothOf.induct with
  | case1 => intro _ _ t h; simp [bothOf] at h
  | case2 y a ih =>
    intro ha hb t h
    rw [bothOf] at h
    have ha' := List.pairwise_cons.1 ha
    rcases List.mem_cons.1 h with rfl | h
    · simp
    · obtain ⟨h1, h2, h3⟩ := ih ha'.2 hb t h
      refine ⟨?_, h2, ?_⟩
      · rw [h1, decide_eq_decide, List.mem_cons]
        constructor
        · exact .inr
        · rintro (e | h)
          · rcases h3 with h3 | h3
            · exact h3
            · simp at h3
          · exact h
      · rcases h3 with h3 | h3
        · exact .inl (List.mem_cons_of_mem _ h3)
        · exact .inr h3
  | case3 y b ih =>
    intro ha hb t h
    rw [bothOf] at h
    have hb' := List.pairwise_cons.1 hb
    rcases List.mem_cons.1 h with rfl | h
    · simp
    · obtain ⟨h1, h2, h3⟩ := ih ha hb'.2 t h
      have h4 : t.1 ∈ b := by simpa using h3
      refine ⟨h1, ?_, .inr (List.mem_cons_of_mem _ h4)⟩
      rw [h2, decide_eq_decide]
      exact ⟨fun h => List.mem_cons_of_mem _ h, fun _ => h4⟩
  | case4 z a y b hlt ih =>
    intro ha hb t h
    rw [bothOf, if_pos hlt] at h
    have ha' := List.pairwise_cons.1 ha
    have hb' := List.pairwise_cons.1 hb
    rcases List.mem_cons.1 h with rfl | h
    · refine ⟨by simp, ?_, .inl List.mem_cons_self⟩
      symm
      rw [decide_eq_false_iff_not, List.mem_cons]
      rintro (e | h')
      · simp at e; omega
      · have := hb'.1 _ h'; simp at this; omega
    · obtain ⟨h1, h2, h3⟩ := ih ha'.2 hb t h
      have hne : t.1 ≠ z := by
        rintro e
        rcases h3 with h3 | h3
        · have := ha'.1 _ h3; omega
        · rcases List.mem_cons.1 h3 with h3 | h3
          · omega
          · have := hb'.1 _ h3; omega
      refine ⟨by rw [h1, decide_eq_decide]; simp [hne], h2, by simp [hne]; simpa using h3⟩
  | case5 z a y b hlt hlt' ih =>
    intro ha hb t h
    rw [bothOf, if_neg hlt, if_pos hlt'] at h
    have ha' := List.pairwise_cons.1 ha
    have hb' := List.pairwise_cons.1 hb
    rcases List.mem_cons.1 h with rfl | h
    · refine ⟨?_, by simp, .inr List.mem_cons_self⟩
      symm
      rw [decide_eq_false_iff_not, List.mem_cons]
      rintro (e | h')
      · simp at e; omega
      · have := ha'.1 _ h'; simp at this; omega
    · obtain ⟨h1, h2, h3⟩ := ih ha hb'.2 t h
      have hne : t.1 ≠ y := by
        rintro e
        rcases h3 with h3 | h3
        · rcases List.mem_cons.1 h3 with h3 | h3
          · omega
          · have := ha'.1 _ h3; omega
        · have := hb'.1 _ h3; omega
      refine ⟨h1, by rw [h2, decide_eq_decide]; simp [hne], by simp [hne]; simpa using h3⟩
  | case6 z a y b hlt hlt' ih =>
    intro ha hb t h
    rw [bothOf, if_neg hlt, if_neg hlt'] at h
    obtain rfl : z = y := by omega
    have ha' := List.pairwise_cons.1 ha
    have hb' := List.pairwise_cons.1 hb
    rcases List.mem_cons.1 h with rfl | h
    · simp
    · obtain ⟨h1, h2, h3⟩ := ih ha'.2 hb'.2 t h
      have hne : t.1 ≠ z := by
        rintro e
        rcases h3 with h3 | h3
        · have := ha'.1 _ h3; omega
        · have := hb'.1 _ h3; omega
      refine ⟨by rw [h1, decide_eq_decide]; simp [hne], by rw [h2, decide_eq_decide]; simp [hne], by simp [hne]; exact h3⟩
theorem both_rise (a b : List Int) : Rise a → Rise b → (bothOf a b).Pairwise (fun s t => s.1 < t.1) := by
  induction a, b using bothOf.induct with
  | case1 => intro _ _; simp [bothOf]
  | case2 y a ih =>
    intro ha hb
    have ha' := List.pairwise_cons.1 ha
    rw [bothOf]
    refine List.pairwise_cons.2 ⟨fun t ht => ?_, ih ha'.2 hb⟩
    rcases (both_spec _ _ ha'.2 hb t ht).2.2 with h | h
    · exact ha'.1 _ h
    · simp at h
  | case3 y b ih =>
    intro ha hb
    have hb' := List.pairwise_cons.1 hb
    rw [bothOf]
    refine List.pairwise_cons.2 ⟨fun t ht => ?_, ih ha hb'.2⟩
    rcases (both_spec _ _ ha hb'.2 t ht).2.2 with h | h
    · simp at h
    · exact hb'.1 _ h
  | case4 z a y b hlt ih =>
    intro ha hb
    have ha' := List.pairwise_cons.1 ha
    have hb' := List.pairwise_cons.1 hb
    rw [bothOf, if_pos hlt]
    refine List.pairwise_cons.2 ⟨fun t ht => ?_, ih ha'.2 hb⟩
    rcases (both_spec _ _ ha'.2 hb t ht).2.2 with h | h
    · exact ha'.1 _ h
    · rcases List.mem_cons.1 h with h | h
      · show z < t.1; omega
      · have := hb'.1 _ h; show z < t.1; omega
  | case5 z a y b hlt hlt' ih =>
    intro ha hb
    have ha' := List.pairwise_cons.1 ha
    have hb' := List.pairwise_cons.1 hb
    rw [bothOf, if_neg hlt, if_pos hlt']
    refine List.pairwise_cons.2 ⟨fun t ht => ?_, ih ha hb'.2⟩
    rcases (both_spec _ _ ha hb'.2 t ht).2.2 with h | h
    · rcases List.mem_cons.1 h with h | h
      · show y < t.1; omega
      · have := ha'.1 _ h; show y < t.1; omega
    · exact hb'.1 _ h
  | case6 z a y b hlt hlt' ih =>
    intro ha hb
    have ha' := List.pairwise_cons.1 ha
    have hb' := List.pairwise_cons.1 hb
    rw [bothOf, if_neg hlt, if_neg hlt']
    refine List.pairwise_cons.2 ⟨fun t ht => ?_, ih ha'.2 hb'.2⟩
    rcases (both_spec _ _ ha'.2 hb'.2 t ht).2.2 with h | h
    · exact ha'.1 _ h
    · have := hb'.1 _ h; show z < t.1; omega
theorem sel_mem {p : Bool → Bool → Bool} {a b : List Int} (ha : Rise a) (hb : Rise b) (x : Int) :
    x ∈ selOf p (bothOf a b) ↔ (x ∈ a ∨ x ∈ b) ∧ p (decide (x ∈ a)) (decide (x ∈ b)) = true := by
  unfold selOf
  rw [List.mem_map]
  constructor
  · rintro ⟨t, ht, rfl⟩
    obtain ⟨h1, h2⟩ := List.mem_filter.1 ht
    obtain ⟨e1, e2, e3⟩ := both_spec a b ha hb t h1
    rw [e1, e2] at h2
    exact ⟨e3, h2⟩
  · rintro ⟨h1, h2⟩
    obtain ⟨t, ht, rfl⟩ := both_all a b x h1
    obtain ⟨e1, e2, e3⟩ := both_spec a b ha hb t ht
    refine ⟨t, List.mem_filter.2 ⟨ht, ?_⟩, rfl⟩
    rw [e1, e2]
    exact h2
theorem sel_rise {p : Bool → Bool → Bool} {a b : List Int} (ha : Rise a) (hb : Rise b) : Rise (selOf p (bothOf a b)) := by
  unfold selOf
  rw [Rise, List.pairwise_map]
  exact (both_rise a b ha hb).filter _
def int (a b : List Int) : List Int := selOf (fun x y => x && y) (bothOf a b)
def mns (a b : List Int) : List Int := selOf (fun x y => x && !y) (bothOf a b)
theorem int_some {a b : List Int} (h : a.length ≤ 1000000000) (h' : b.length ≤ 1000000000) : set_Inter.f a b = some (int a b) := by rw [set_Inter.f, if_pos ⟨h, h'⟩]; rfl
theorem mns_some {a b : List Int} (h : a.length ≤ 1000000000) (h' : b.length ≤ 1000000000) : set_Minus.f a b = some (mns a b) := by rw [set_Minus.f, if_pos ⟨h, h'⟩]; rfl
theorem sel_len2 (p : Bool → Bool → Bool) (a b : List Int) : (selOf p (bothOf a b)).length ≤ a.length + b.length := Nat.le_trans (selOf_len _ _) (bothOf_len _ _)
theorem int_len (a b : List Int) : (int a b).length ≤ a.length + b.length := sel_len2 _ _ _
theorem mns_len (a b : List Int) : (mns a b).length ≤ a.length + b.length := sel_len2 _ _ _
theorem int_rise {a b : List Int} (ha : Rise a) (hb : Rise b) : Rise (int a b) := sel_rise ha hb
theorem mns_rise {a b : List Int} (ha : Rise a) (hb : Rise b) : Rise (mns a b) := sel_rise ha hb
theorem int_mem {a b : List Int} (ha : Rise a) (hb : Rise b) (x : Int) : x ∈ int a b ↔ x ∈ a ∧ x ∈ b := by
  unfold int; rw [sel_mem ha hb]; simp only [Bool.and_eq_true, decide_eq_true_eq]
  exact ⟨fun h => h.2, fun h => ⟨.inl h.1, h⟩⟩
theorem mns_mem {a b : List Int} (ha : Rise a) (hb : Rise b) (x : Int) : x ∈ mns a b ↔ x ∈ a ∧ x ∉ b := by
  unfold mns; rw [sel_mem ha hb]; simp only [Bool.and_eq_true, decide_eq_true_eq, Bool.not_eq_true', decide_eq_false_iff_not]
  exact ⟨fun h => h.2, fun h => ⟨.inl h.1, h⟩⟩
theorem step64 (j : Nat) (h : j ≤ 1000000000000000) : wrap64 ((j : Int) + 1) = ((j + 1 : Nat) : Int) := by rw [w64 (by omega) (by omega)]; omega
end Go.Proofs.Ytbllchfgjginoaa
/-
  slices.DeleteFunc over held sources; memb.work.only.
-/
namespace Go.Proofs.Ytbllchfgjginoaa
open Go.RowKit Go.Lib Go.Proofs.YtbllchfgjginoaaW.PrintWords Go.Proofs.YtbllchfgjginoaaW.PrintLast Go.Proofs.YtbllchfgjginoaaW.PrintMore Go.Proofs.Ytbllchfgjginoaa.PMe
set_option linter.unusedVariables false
set_option linter.unusedSimpArgs false
set_option maxHeartbeats 8000000 in
set_option maxRecDepth 100000 in
theorem only1_w {gl : Nat} {l : List Int} {a t : Int} {b : Bool} (hb : decide (a ∈ l) = b) (hr : Rise l) (hn : l.length ≤ 1000000) (A : Option Addr) (c : Nat) (w : World) (hl : Kd.C (Kd.int .u32) w A l.length l) (hc : l.length ≤ c) (hg : w.heap[gl]? = some (.cells #[.slice A l.length c] 29 (0, 0))) :
    Calls Try.prog 73 #[.agg #[.int .u32 a, .int .i64 t], .pointer (some ⟨gl, 0, none⟩)] w fun e w' => e = .returned (.bool (!b)) ∧ Below w.heap.size w w' := by
  have hu49 := Try.underlying49
  have HB := Aside0.mk (Below.refl w.heap.size w)
  have hgl := Aside0.mk hg
  have HC_l := Aside0.mk hl
  have HK_l := Aside0.mk hc
  have XH := Aside0.mk (has_some l (by omega) a hr 1000001 (by omega))
  rw [hb] at XH
  clear hl hc hg hr hn hb
  go_enter Try.func73, Try.ntmps73
  go_wp2_with (first | ((with_reducible refine gate_dst (N := 2) rfl ?_); (try (refine gate_guard (by rfl) ?_; dsimp only)); refine box_event ?hg (N := 2) ?hd (cs := #[.int .u32 a, .int .i64 t]) (t := 49) ?hr ?_; (case hd => rfl); (case hg => rfl); (case hr => first | (go_simp; done) | (go_simp; rfl)); intro gx hg w1_ hbox hB; have HBo := Aside0.mk HB.out; have nHB := Aside0.mk (HB.out.trans (hB.mono HB.out.size)); clear HB; have HB := nHB; clear nHB; have BK_gx := Aside0.mk hbox; have GE_gx := Aside0.mk (show w.heap.size ≤ gx by rw [hg]; exact HBo.out.size); clear hg hbox hB; have hc_gx_0 : w1_.cell? ⟨gx, 0, none⟩ = some (.int .u32 a) := (blk_cell BK_gx.out 0).trans rfl; have hf_gx_0 := blk_frozen BK_gx.out 0; have hc_gx_1 : w1_.cell? ⟨gx, 1, none⟩ = some (.int .i64 t) := (blk_cell BK_gx.out 1).trans rfl; have hf_gx_1 := blk_frozen BK_gx.out 1; clear HBo; have hc_gl_0 : w1_.cell? ⟨gl, 0, none⟩ = some (.slice A l.length c) := (blk_cell (blk_below hgl.out HB.out) 0).trans rfl; have hf_gl_0 := blk_frozen (blk_below hgl.out HB.out) 0) | (go_at_call 57; (with_reducible refine (set_Has.calls 1000001 _ _ l a b _ (Kd.C_below HC_l.out HB.out) HK_l.out XH.out).mono ?_); rintro e w9 ⟨rfl, hD⟩; have HD := Aside0.mk hD; clear hD))
  go_ret
  exact ⟨rfl, by obtain ⟨n_, hn_⟩ := HD.out; rw [hn_]; exact HB.out.trans (pw_below_drewN (Below.refl _ _) n_)⟩
def onlyS (xs : List S49) (l : List Int) : List S49 := xs.filter fun x => decide (x.f0 ∈ l)
/-- Where the first one stands that does not stay. -/
def outS (xs : List S49) (l : List Int) : Nat := (xs.takeWhile fun x => decide (x.f0 ∈ l)).length
theorem outS_le (xs : List S49) (l : List Int) : outS xs l ≤ xs.length := by unfold outS; exact (List.takeWhile_prefix _).length_le
theorem outS_lt {l : List Int} : ∀ {xs : List S49} {k : Nat}, k < outS xs l → (rd_T49 xs k).f0 ∈ l
  | [], k, h => by simp [outS] at h
  | x :: xs, k, h => by
    unfold outS at h
    rw [List.takeWhile_cons] at h
    by_cases c : x.f0 ∈ l
    · rw [if_pos (decide_eq_true c)] at h
      cases k with
      | zero => exact c
      | succ k =>
        have h2 : k < outS xs l := by unfold outS; simp only [List.length_cons] at h; omega
        have := outS_lt h2
        rw [rd49 xs k (Nat.lt_of_lt_of_le h2 (outS_le xs l))] at this
        rw [rd49 (x :: xs) (k + 1) (by have := outS_le xs l; simp only [List.length_cons]; omega)]
        exact this
    · rw [if_neg (by simpa using c)] at h
      simp at h
theorem outS_at {l : List Int} : ∀ {xs : List S49}, outS xs l < xs.length → (rd_T49 xs (outS xs l)).f0 ∉ l
  | [], h => by simp at h
  | x :: xs, h => by
    by_cases c : x.f0 ∈ l
    · have e : outS (x :: xs) l = outS xs l + 1 := by unfold outS; rw [List.takeWhile_cons, if_pos (decide_eq_true c)]; rfl
      rw [e, List.length_cons] at h
      have h2 := outS_at (xs := xs) (l := l) (by omega)
      rw [e, rd49 (x :: xs) (outS xs l + 1) (by simp only [List.length_cons]; omega)]
      rw [rd49 xs (outS xs l) (by omega)] at h2
      exact h2
    · have e : outS (x :: xs) l = 0 := by unfold outS; rw [List.takeWhile_cons, if_neg (by simpa using c)]; rfl
      rw [e]
      exact c
theorem outS_uniq {xs : List S49} {l : List Int} {i : Nat} (h1 : ∀ k : Nat, k < i → (rd_T49 xs k).f0 ∈ l) (h2 : i < xs.length → (rd_T49 xs i).f0 ∉ l) (hi : i ≤ xs.length) : outS xs l = i := by
  rcases Nat.lt_trichotomy (outS xs l) i with h | h | h
  · exact absurd (h1 _ h) (outS_at (by omega))
  · exact h
  · exact absurd (outS_lt h) (h2 (by have := outS_le xs l; omega))
set_option maxHeartbeats 8000000 in
set_option maxRecDepth 100000 in
theorem index_w {gl : Nat} {l : List Int} {xs : List S49} {r : Int} (hq : (if outS xs l < xs.length then (outS xs l : Int) else -1) = r) (hr : Rise l) (hn : l.length ≤ 1000000) (hm : xs.length ≤ 1000000) (A : Option Addr) (c : Nat) (B : Option Addr) (d : Nat) (w : World) (hx : Kd.C k49 w B xs.length xs) (hl : Kd.C (Kd.int .u32) w A l.length l) (hc : l.length ≤ c) (hg : w.heap[gl]? = some (.cells #[.slice A l.length c] 29 (0, 0))) :
    Calls Try.prog 80 #[.slice B xs.length d, .func (.func 73) #[] #[.pointer (some ⟨gl, 0, none⟩)]] w fun e w' => e = .returned (.int .i64 r) ∧ Below w.heap.size w w' := by
  have hu49 := Try.underlying49
  have HB := Aside0.mk (Below.refl w.heap.size w)
  have HG := Aside0.mk hg
  have HC_l := Aside0.mk hl
  have HK_l := Aside0.mk hc
  have HC_x := Aside0.mk hx
  have XQ := Aside0.mk hq
  have XR := Aside0.mk hr
  have XN := Aside0.mk hn
  have XM := Aside0.mk hm
  clear hl hc hg hr hn hm hx hq
  go_enter Try.func80, Try.ntmps80
  go_wp2
  go_loopg [8] xs.length (fun gk v8 w' => ∃ i : Nat, v8 = .int .i64 (i : Int) ∧ Aside0 (i ≤ xs.length ∧ gk = xs.length - i) ∧ Aside0 (∀ k : Nat, k < i → (rd_T49 xs k).f0 ∈ l) ∧ Aside0 (Below w.heap.size w w'))
  case atStart => exact ⟨0, rfl, ⟨Nat.zero_le _, by omega⟩, ⟨fun k hk => absurd hk (by omega)⟩, HB⟩
  case round =>
    clear HB
    obtain ⟨i, rfl, HI, HIN, HB⟩ := hrel
    obtain ⟨hi, hgk⟩ := HI.out
    by_cases hlt : i < xs.length
    · have c9 : decide ((i : Int) < (xs.length : Int)) = true := decide_eq_true (by omega)
      have p1 : (0 : Int) ≤ (i : Int) := by omega
      have p2 : (i : Int) < (xs.length : Int) := by omega
      obtain ⟨ad, he, hx0, hx1⟩ := at_T49 (Kd.C_below HC_x.out HB.out) (i : Int) p1 p2
      subst he
      rw [Int.toNat_natCast] at hx0 hx1
      obtain ⟨x, hx⟩ : ∃ x, x = rd_T49 xs (i : Int) := ⟨_, rfl⟩
      rw [← hx] at hx0 hx1
      have HX := Aside0.mk hx
      clear hx
      replace p1 := eq_true p1
      replace p2 := eq_true p2
      obtain ⟨b, hb⟩ : ∃ b, decide (x.f0 ∈ l) = b := ⟨_, rfl⟩
      have XBB := Aside0.mk hb
      clear hb
      cases b with
      | true =>
        go_wp2_with (first | (go_at_call 73; (with_reducible refine (only1_w XBB.out XR.out XN.out A c _ (Kd.C_below HC_l.out HB.out) HK_l.out (blk_below HG.out HB.out)).mono ?_); rintro e wx ⟨rfl, hB⟩; have nB := mvH HB hB; clear HB hx0 hx1 hB; have HB := nB; clear nB))
        go_roundg (xs.length - (i + 1))
        case measure => omega
        case rel =>
          refine ⟨i + 1, ?_, ⟨by omega, rfl⟩, ⟨fun k hk => ?_⟩, HB⟩
          · show Value.int .i64 (wrap64 ((i : Int) + 1)) = _
            have h1 := XM.out
            have h2 : wrap64 ((i : Int) + 1) = ((i + 1 : Nat) : Int) := by unfold wrap64; omega
            rw [h2]
          · rcases Nat.lt_or_ge k i with h | h
            · exact HIN.out k h
            · obtain rfl : k = i := by omega
              rw [← HX.out]
              exact of_decide_eq_true XBB.out
      | false =>
        have HOUT := Aside0.mk (outS_uniq HIN.out (fun _ => by rw [← HX.out]; exact of_decide_eq_false XBB.out) (Nat.le_of_lt hlt))
        have HLT := Aside0.mk hlt
        go_wp2_with (first | (go_at_call 73; (with_reducible refine (only1_w XBB.out XR.out XN.out A c _ (Kd.C_below HC_l.out HB.out) HK_l.out (blk_below HG.out HB.out)).mono ?_); rintro e wx ⟨rfl, hB⟩; have nB := mvH HB hB; clear HB hx0 hx1 hB; have HB := nB; clear nB))
        go_ret
        have hrr : r = (i : Int) := by rw [← XQ.out, HOUT.out, if_pos HLT.out]
        exact ⟨by rw [hrr]; rfl, HB.out⟩
    · have c9 : decide ((i : Int) < (xs.length : Int)) = false := decide_eq_false (by omega)
      have HOUT := Aside0.mk (outS_uniq HIN.out (fun h => absurd h hlt) hi)
      have HLT := Aside0.mk hlt
      clear hgk
      go_wp2
      go_ret
      have hrr : r = -1 := by rw [← XQ.out, HOUT.out, if_neg HLT.out]
      exact ⟨by rw [hrr]; rfl, HB.out⟩
end Go.Proofs.Ytbllchfgjginoaa
/-
  slices.DeleteFunc over held sources; memb.work.only.
-/
namespace Go.Proofs.Ytbllchfgjginoaa
open Go.RowKit Go.Lib Go.Proofs.YtbllchfgjginoaaW.PrintWords Go.Proofs.YtbllchfgjginoaaW.PrintLast Go.Proofs.YtbllchfgjginoaaW.PrintMore Go.Proofs.Ytbllchfgjginoaa.PMe
set_option linter.unusedVariables false
set_option linter.unusedSimpArgs false
theorem grow_below {w w1 : World} (h : Below w.heap.size w w1) (row : Option Nat) : w.grownBy w1 row := ⟨h.os, h.tape, h.output, h.size, fun k hk _ => h.block k hk⟩
theorem grow_trans {w w1 w2 : World} {row : Option Nat} (h : w.grownBy w1 row) (h' : w1.grownBy w2 row) : w.grownBy w2 row :=
  ⟨h'.os.trans h.os, h'.tape.trans h.tape, h'.output.trans h.output, Nat.le_trans h.size h'.size, fun k hk hne => (h'.block k (Nat.lt_of_lt_of_le hk h.size) hne).trans (h.block k hk hne)⟩
theorem wpList_clear_runI {P : Program} (w : World) {ops : Array Oper} {rest : List Oper} {o : Oper} {a : Act} {Q : Exit → Act → World → Prop} (hgd : o.guard = none) (x : Operand) (t : TypeId)
    (ho : o.op = .call { callee := .builtin .clear, args := #[x], argTypes := #[t] }) (v : Value) (hx : a.eval x = v) {v' : Value} {w' : World}
    (hr : (Builtin.clear_ #[t] o.type #[v]).run P w = .ok v' w') (h : wpList P ops Q rest (a.put o.dst v') w') : wpList P ops Q (o :: rest) a w :=
  wpList_plain hgd fun _ hK => by
    unfold Oper.wp execOp
    simp only [ho, resolve, invoke, builtin, Sem.run_bind, Sem.run_pure, Result.andThen_ok, List.map_toArray, List.map_cons, List.map_nil, hx, hr]
    exact hK _ _ h
def ZS (m : Nat) : List Value := (Builtin.zeroCells (Value.agg #[.int .u32 0, .int .i64 0]).cells m).toList
theorem ZS_reps (m : Nat) : Reps (fun (x : S49) c => c = [.int .u32 x.f0, .int .i64 x.f1]) 2 (List.replicate m (⟨0, 0⟩ : S49)) (ZS m) :=
  Kd.reps_zeros (z := Value.agg #[.int .u32 0, .int .i64 0]) (by kernel_rfl) (by decide) (by kernel_rfl) m
theorem ZS_len (m : Nat) : (ZS m).length = m * 2 := by have := (ZS_reps m).1; rw [List.length_replicate] at this; exact this
theorem ZS_one (m : Nat) : ∀ v ∈ ZS m, v.oneCell' = true := Kd.reps_one (ZS_reps m) (by decide) (fun p c hp => by rw [hp]; intro u hu; simp only [List.mem_cons] at hu; rcases hu with rfl | rfl | hu <;> first | rfl | cases hu)
set_option maxRecDepth 100000 in
theorem run_clearN (w : World) (ty : TypeId) (g o m c : Nat) (hm : 0 < m) (cur : Array Value) (hg : w.heap[g]? = some (.cells cur 49 (0, 0))) (hfit : o + m * 2 ≤ cur.size) :
    (Builtin.clear_ #[26] ty #[.slice (some ⟨g, o, none⟩) m c]).run Try.prog w = .ok (.tuple #[]) (w.setRow g (cur.toList.take o ++ ZS m ++ cur.toList.drop (o + m * 2)).toArray) := by
  obtain ⟨m, rfl⟩ : ∃ k, m = k + 1 := ⟨m - 1, by omega⟩
  have hst := run_storeCells_at Try.prog g o 49 (ZS (m + 1)) 0 cur w hg (by rw [ZS_len]; omega) (ZS_one (m + 1))
  obtain ⟨i0, hi0, hz0⟩ := Option.map_eq_some_iff.1 info49_
  simp only [Prod.mk.injEq] at hz0
  obtain ⟨hz0, hzs, hzb⟩ := hz0
  have hu := Try.underlying26
  rw [ZS_len] at hst
  unfold ZS at hst ⊢
  simp only [Nat.add_zero, Nat.add_assoc] at hst
  simp only [Builtin.clear_, Sem.run_bind, run_underlying hu, zeroValue, typeInfo]
  simp [hi0, hz0, run_underlying hu]
  simp only [List.append_assoc] at hst
  rw [hst]
  simp [Result.andThen]
theorem R49_cells {w : World} {base g n c : Nat} {xs : List S49} (h : Kd.R k49 49 w base (fun _ => True) (.slice (some ⟨g, 0, none⟩) n c) xs) (j : Nat) (hj : j < n * 2) : (∃ u, w.cell? ⟨g, j, none⟩ = some u) ∧ w.frozen? ⟨g, j, none⟩ = false := by
  obtain rfl := (Kd.R_reads' h).1
  obtain ⟨h0, inner, hown, hr⟩ := h
  have hl : inner.length = xs.length * 2 := hown.1
  exact ⟨⟨_, (hown.cellAt j hj).trans (List.getElem?_eq_getElem (by omega))⟩, hown.frozenAt j⟩
theorem R49_put {w : World} {base g n c : Nat} {xs : List S49} (h : Kd.R k49 49 w base (fun _ => True) (.slice (some ⟨g, 0, none⟩) n c) xs) (i : Nat) (hi : i < n) (x : S49) :
    Kd.R k49 49 ((w.setCell ⟨g, i * 2, none⟩ (.int .u32 x.f0)).setCell ⟨g, i * 2 + 1, none⟩ (.int .i64 x.f1)) base (fun _ => True) (.slice (some ⟨g, 0, none⟩) n c) (xs.set i x) ∧ w.grownBy ((w.setCell ⟨g, i * 2, none⟩ (.int .u32 x.f0)).setCell ⟨g, i * 2 + 1, none⟩ (.int .i64 x.f1)) (some g) := by
  obtain rfl := (Kd.R_reads' h).1
  obtain ⟨h0, inner, hown, hr⟩ := h
  obtain ⟨h1, g1⟩ := hown.stored (i * 2) (.int .u32 x.f0)
  obtain ⟨h2, g2⟩ := h1.stored (i * 2 + 1) (.int .i64 x.f1)
  have hil : inner.length = xs.length * 2 := hown.1
  have e : (inner.set (i * 2) (.int .u32 x.f0)).set (i * 2 + 1) (.int .i64 x.f1) = inner.take (i * 2) ++ [.int .u32 x.f0, .int .i64 x.f1] ++ inner.drop (i * 2 + 2) := by
    apply List.ext_getElem?
    intro j
    rw [List.getElem?_append, List.getElem?_append, List.getElem?_take, List.getElem?_drop]
    simp only [List.getElem?_set, List.length_set, List.length_append, List.length_take, List.length_cons, List.length_nil]
    have hm : min (i * 2) inner.length = i * 2 := by omega
    rw [hm]
    rcases Nat.lt_or_ge j (i * 2) with hj | hj
    · rw [if_neg (by omega), if_neg (by omega), if_pos (by omega), if_pos hj, if_pos hj]
    · rcases Nat.lt_or_ge j (i * 2 + 2) with hj2 | hj2
      · rw [if_pos (show j < i * 2 + (0 + 1 + 1) by omega), if_neg (show ¬ j < i * 2 by omega)]
        obtain rfl | rfl : j = i * 2 ∨ j = i * 2 + 1 := by omega
        · rw [if_neg (by omega), if_pos rfl, if_pos (by omega), Nat.sub_self]; rfl
        · rw [if_pos rfl, if_pos (by omega), Nat.add_sub_cancel_left]; rfl
      · rw [if_neg (by omega), if_neg (by omega), if_neg (show ¬ j < i * 2 + (0 + 1 + 1) by omega), show i * 2 + 2 + (j - (i * 2 + (0 + 1 + 1))) = j by omega]
  refine ⟨⟨h0, _, by rw [List.length_set]; exact h2, ?_⟩, grow_trans g1 g2⟩
  rw [e]
  exact Kd.reps_set (size := 2) (x := x) (seg := [.int .u32 x.f0, .int .i64 x.f1]) (Reps.imp_ hr (fun p c hp => by rw [k49_openM hp]; exact k49_mkM _ _ _ _)) hi (k49_mkM _ _ _ _) rfl
/-- What is left of a row, when all behind i is struck out. -/
theorem R49_end {w : World} {base g n c : Nat} {xs : List S49} (h : Kd.R k49 49 w base (fun _ => True) (.slice (some ⟨g, 0, none⟩) n c) xs) (i : Nat) (hi : i < n) :
    n ≤ c ∧ ∃ w1, (∀ ty dc, (Builtin.clear_ #[26] ty #[.slice (some ⟨g, i * 2, none⟩) (n - i) dc]).run Try.prog w = .ok (.tuple #[]) w1) ∧ w.grownBy w1 (some g) ∧ Kd.R k49 49 w1 base (fun _ => True) (.slice (some ⟨g, 0, none⟩) i c) (xs.take i) := by
  obtain rfl := (Kd.R_reads' h).1
  obtain ⟨h0, inner, hown, hr⟩ := h
  have hil : inner.length = xs.length * 2 := hown.1
  rcases hown.2 with ⟨hz, h00⟩ | ⟨g', cap, cur, hz, hbg, hg, hnc, hcm, hcs, htake⟩
  · exact absurd hz (by simp)
  simp only [Value.slice.injEq, Option.some.injEq, Addr.mk.injEq, and_true, true_and] at hz
  obtain ⟨rfl, rfl⟩ := hz
  have hcs' : cur.size = c * 2 := hcs
  have hcurl : cur.toList.length = c * 2 := by rw [Array.length_toList, hcs']
  refine ⟨hnc, w.setRow g (cur.toList.take (i * 2) ++ ZS (xs.length - i) ++ cur.toList.drop (i * 2 + (xs.length - i) * 2)).toArray, fun ty dc => run_clearN w ty g (i * 2) (xs.length - i) dc (by omega) cur hg (by omega), setRow_grown w g _, fun _ _ => trivial, inner.take (i * 2), ?_, ?_⟩
  · have hl : (xs.take i).length = i := by rw [List.length_take]; omega
    rw [hl]
    refine ⟨by rw [List.length_take]; show min (i * 2) inner.length = i * 2; omega, .inr ⟨g, c, _, rfl, hbg, setRow_heap w g cur _ 49 _ hg, by omega, hcm, ?_, ?_⟩⟩
    · show _ = c * 2
      rw [List.size_toArray]
      simp only [List.length_append, List.length_take, List.length_drop, hcurl, ZS_len]; omega
    · show List.take (i * 2) _ = _
      rw [List.toList_toArray, List.append_assoc, List.take_left' (by rw [List.length_take, hcurl]; omega), ← htake, List.take_take]
      congr 1
      show i * 2 = min (i * 2) (xs.length * 2)
      omega
  · exact Kd.reps_take (size := 2) (Reps.imp_ hr (fun p c hp => by rw [k49_openM hp]; exact k49_mkM _ _ _ _)) (by omega)
theorem only_succ {xs : List S49} {j : Nat} (h : j < xs.length) (l : List Int) : onlyS (xs.take (j + 1)) l = onlyS (xs.take j) l ++ (if (rd_T49 xs j).f0 ∈ l then [rd_T49 xs j] else []) := by
  unfold onlyS
  rw [rd49 xs j h, ← List.take_append_getElem h, List.filter_append]
  congr 1
  by_cases c : xs[j].f0 ∈ l
  · rw [if_pos c, List.filter_cons_of_pos (by simpa using c)]; rfl
  · rw [if_neg c, List.filter_cons_of_neg (by simpa using c)]; rfl
theorem only_out (xs : List S49) (l : List Int) (h : outS xs l < xs.length) : onlyS (xs.take (outS xs l + 1)) l = xs.take (outS xs l) := by
  rw [only_succ h, if_neg (outS_at h), List.append_nil]
  unfold onlyS
  rw [List.filter_eq_self]
  intro x hx
  obtain ⟨k, hk, rfl⟩ := List.mem_iff_getElem.1 hx
  rw [List.length_take] at hk
  have h2 := outS_lt (xs := xs) (l := l) (k := k) (by omega)
  rw [rd49 xs k (by omega)] at h2
  rw [List.getElem_take]
  exact decide_eq_true h2
theorem only_all (xs : List S49) (l : List Int) (h : ¬ outS xs l < xs.length) : onlyS xs l = xs := by
  unfold onlyS
  rw [List.filter_eq_self]
  intro x hx
  obtain ⟨k, hk, rfl⟩ := List.mem_iff_getElem.1 hx
  have h2 := outS_lt (xs := xs) (l := l) (k := k) (by omega)
  rw [rd49 xs k hk] at h2
  exact decide_eq_true h2
set_option maxHeartbeats 8000000 in
set_option maxRecDepth 100000 in
theorem deletef_w {base gl : Nat} {v vl : Value} {xs : List S49} {l : List Int} {w : World} (hS : Kd.R k49 49 w base (fun _ => True) v xs) (hl : RA w base vl l) (hg : w.heap[gl]? = some (.cells #[vl] 29 (0, 0))) (hr : Rise l) (hn : l.length ≤ 1000000) (hm : xs.length ≤ 1000000) :
    Calls Try.prog 72 #[v, .func (.func 73) #[] #[.pointer (some ⟨gl, 0, none⟩)]] w fun e w' => ∃ v', e = .returned v' ∧ Kd.R k49 49 w' base (fun _ => True) v' (onlyS xs l) ∧ w.grownBy w' v.ownBlock := by
  have hu49 := Try.underlying49
  obtain ⟨A_l, c_l, rfl⟩ := Kd.R_slice hl
  obtain ⟨A, c, rfl⟩ := Kd.R_slice hS
  have HS := Aside0.mk hS
  have HL := Aside0.mk hl
  have HG := Aside0.mk hg
  have XR := Aside0.mk hr
  have XN := Aside0.mk hn
  have XM := Aside0.mk hm
  clear hS hl hg hr hn hm
  by_cases hq : outS xs l < xs.length
  case neg =>
    have HQ := Aside0.mk (index_w (r := -1) (by rw [if_neg hq]) XR.out XN.out XM.out A_l c_l A c w (Kd.R_reads' HS.out).2.2 (Kd.R_reads' HL.out).2.2 (Kd.R_reads' HL.out).2.1 HG.out)
    have HALL := Aside0.mk (only_all xs l hq)
    clear hq
    go_enter Try.func72, Try.ntmps72
    go_wp2_with (first | (go_at_call 80; (with_reducible refine HQ.out.mono ?_); rintro e w1 ⟨rfl, hB⟩; have HB := Aside0.mk hB; clear hB))
    go_ret
    exact ⟨_, rfl, by rw [HALL.out]; exact Kd.R_below HS.out HB.out, grow_below HB.out _⟩
  have HQ := Aside0.mk (index_w (r := (outS xs l : Int)) (by rw [if_pos hq]) XR.out XN.out XM.out A_l c_l A c w (Kd.R_reads' HS.out).2.2 (Kd.R_reads' HL.out).2.2 (Kd.R_reads' HL.out).2.1 HG.out)
  have HOO := Aside0.mk (only_out xs l hq)
  obtain ⟨q, hqq⟩ : ∃ q, q = outS xs l := ⟨_, rfl⟩
  rw [← hqq] at HQ HOO hq
  have HLT := Aside0.mk hq
  obtain ⟨g, cap, ev_, hgb, _, _⟩ := Kd.R_form HS.out (by omega)
  simp only [Value.slice.injEq, true_and] at ev_
  obtain ⟨rfl, rfl⟩ := ev_
  have c12 : ((q : Int) == -1) = false := beq_eq_false_iff_ne.2 (by omega)
  clear hq hqq hgb
  go_enter Try.func72, Try.ntmps72
  go_wp2_with (first | (go_at_call 80; (with_reducible refine HQ.out.mono ?_); rintro e w1 ⟨rfl, hB⟩; have HG1 := Aside0.mk (grow_below hB (some g)); have HS1 := Aside0.mk (Kd.R_below HS.out hB); clear hB))
  clear c12
  go_loopg [5, 6] (xs.length - (q + 1)) (fun gk v5 v6 w' => ∃ (i j : Nat) (zs : List S49), v5 = .int .i64 (i : Int) ∧ v6 = .int .i64 (j : Int) ∧ Aside0 (i < j ∧ j ≤ xs.length ∧ gk = xs.length - j ∧ zs.length = xs.length) ∧ Aside0 (zs.take i = onlyS (xs.take j) l ∧ ∀ k : Nat, j ≤ k → rd_T49 zs k = rd_T49 xs k) ∧ Aside0 (Kd.R k49 49 w' base (fun _ => True) (.slice (some ⟨g, 0, none⟩) xs.length c) zs) ∧ Aside0 (w.grownBy w' (some g)))
  case atStart =>
    refine ⟨q, q + 1, xs, rfl, ?_, ⟨by omega, by have := HLT.out; omega, rfl, rfl⟩, ⟨HOO.out.symm, fun _ _ => rfl⟩, HS1, HG1⟩
    show Value.int .i64 (wrap64 ((q : Int) + 1)) = _
    have h1 := XM.out
    have h3 := HLT.out
    have h2 : wrap64 ((q : Int) + 1) = ((q + 1 : Nat) : Int) := by unfold wrap64; omega
    rw [h2]
  case round =>
    clear HS1 HG1
    obtain ⟨i, j, zs, rfl, rfl, HI, HZ, HS1, HG1⟩ := hrel
    obtain ⟨hij, hjn, hgk, hzl⟩ := HI.out
    have HLc := Aside0.mk (show RA wr base (.slice A_l l.length c_l) l from Kd.R_over' HL.out (Kd.R_typed HS.out) (by decide) HG1.out)
    have HGc := Aside0.mk (show wr.heap[gl]? = some (.cells #[.slice A_l l.length c_l] 29 (0, 0)) from (HG1.out.block gl (Array.getElem?_eq_some_iff.1 HG.out).1 (Kd.R_ne HS.out HG.out (by decide))).trans HG.out)
    by_cases hlt : j < xs.length
    · have HB := Aside0.mk (Below.refl wr.heap.size wr)
      have c19 : decide ((j : Int) < (xs.length : Int)) = true := decide_eq_true (by omega)
      have p1 : (0 : Int) ≤ (j : Int) := by omega
      have p2 : (j : Int) < (xs.length : Int) := by omega
      obtain ⟨ad, he, hx0, hx1⟩ := at_T49 (Kd.R_reads' HS1.out).2.2 (j : Int) p1 (by rw [hzl]; exact p2)
      simp only [Option.some.injEq] at he
      subst he
      rw [Int.toNat_natCast] at hx0 hx1
      simp only [add0_, Nat.zero_add] at hx0 hx1
      obtain ⟨x, hx⟩ : ∃ x, x = rd_T49 zs (j : Int) := ⟨_, rfl⟩
      rw [← hx] at hx0 hx1
      have HXX := Aside0.mk (show x = rd_T49 xs (j : Int) by rw [hx]; exact HZ.out.2 j (Nat.le_refl _))
      have HNX := Aside0.mk (only_succ hlt l)
      rw [← HXX.out] at HNX
      clear hx
      replace p1 := eq_true p1
      replace p2 := eq_true p2
      have HGB := Aside0.mk (Kd.R_lt HS1.out g (by rfl))
      go_upto_region 8 with (first | ((with_reducible refine gate_dst (N := 7) rfl ?_); (try (refine gate_guard (by rfl) ?_; dsimp only)); refine box_event ?hg (N := 7) ?hd (cs := #[.int .u32 0, .int .i64 0]) (t := 49) ?hr ?_; (case hd => rfl); (case hg => rfl); (case hr => first | (go_simp; done) | (go_simp; rfl)); intro gx hg w11_ hbox hB0; have hG := Aside0.mk (show wr.heap.size ≤ gx from Nat.le_of_eq hg.symm); clear hg; have hBX := Aside0.mk hbox; have hB1 := Aside0.mk hB0; clear hB0; have hc_gx_0 : w11_.cell? ⟨gx, 0, none⟩ = some (.int .u32 0) := (blk_cell hbox 0).trans rfl; have hf_gx_0 := blk_frozen hbox 0; have hc_gx_1 : w11_.cell? ⟨gx, 1, none⟩ = some (.int .i64 0) := (blk_cell hbox 1).trans rfl; have hf_gx_1 := blk_frozen hbox 1; clear hbox))
      have hB : Below wr.heap.size wr ((w11_.setCell ⟨gx, 0, none⟩ (.int .u32 x.f0)).setCell ⟨gx, 1, none⟩ (.int .i64 x.f1)) := (below_set (below_set hB1.out hG.out) hG.out)
      have hBN : ((w11_.setCell ⟨gx, 0, none⟩ (.int .u32 x.f0)).setCell ⟨gx, 1, none⟩ (.int .i64 x.f1)).heap[gx]? = some (.cells #[.int .u32 x.f0, .int .i64 x.f1] 49 (0, 0)) := (blk_put (cs := #[.int .u32 x.f0, .int .i64 0]) (blk_put (cs := #[.int .u32 0, .int .i64 0]) hBX.out 0 (.int .u32 x.f0) rfl) 1 (.int .i64 x.f1) rfl)
      clear hBX hB1
      clear hc_gx_0 hf_gx_0 hc_gx_1 hf_gx_1
      generalize ((w11_.setCell ⟨gx, 0, none⟩ (.int .u32 x.f0)).setCell ⟨gx, 1, none⟩ (.int .i64 x.f1)) = w12_ at hB hBN ⊢
      have HBo := Aside0.mk HB.out
      have nHB := Aside0.mk (HB.out.trans (hB.mono HB.out.size))
      clear HB
      have HB := nHB
      clear nHB
      have nS := Aside0.mk (Kd.R_below HS1.out hB)
      clear HS1
      have HS1 := nS
      clear nS
      have nG := Aside0.mk (grow_trans HG1.out (grow_below hB (some g)))
      clear HG1
      have HG1 := nG
      clear nG
      have nL := Aside0.mk (Kd.R_below HLc.out hB)
      clear HLc
      have HLc := nL
      clear nL
      have nC := Aside0.mk (blk_below HGc.out hB)
      clear HGc
      have HGc := nC
      clear nC
      have BK_gx := Aside0.mk hBN
      have GE_gx := Aside0.mk (Nat.le_trans HBo.out.size hG.out)
      clear HBo hG hBN hB
      have hc_gx_0 : w12_.cell? ⟨gx, 0, none⟩ = some (.int .u32 x.f0) := (blk_cell BK_gx.out 0).trans rfl
      have hf_gx_0 := blk_frozen BK_gx.out 0
      have hc_gx_1 : w12_.cell? ⟨gx, 1, none⟩ = some (.int .i64 x.f1) := (blk_cell BK_gx.out 1).trans rfl
      have hf_gx_1 := blk_frozen BK_gx.out 1
      clear hx0 hx1
      obtain ⟨b, hb⟩ : ∃ b, decide (x.f0 ∈ l) = b := ⟨_, rfl⟩
      have XBB := Aside0.mk hb
      clear hb
      cases b with
      | false =>
        go_wp2_with (first | (go_at_call 73; (with_reducible refine (only1_w XBB.out XR.out XN.out A_l c_l _ (Kd.R_reads' HLc.out).2.2 (Kd.R_reads' HLc.out).2.1 HGc.out).mono ?_); rintro e w13_ ⟨rfl, hB⟩; have nHB := Aside0.mk (HB.out.trans (hB.mono HB.out.size)); clear HB; have HB := nHB; clear nHB; clear hc_gx_0 hf_gx_0 hc_gx_1 hf_gx_1; have nBK := Aside0.mk (blk_below (g := gx) (o := .cells #[.int .u32 x.f0, .int .i64 x.f1] 49 (0, 0)) BK_gx.out hB); clear BK_gx; have BK_gx := nBK; clear nBK; have hc_gx_0 : w13_.cell? ⟨gx, 0, none⟩ = some (.int .u32 x.f0) := (blk_cell BK_gx.out 0).trans rfl; have hf_gx_0 := blk_frozen BK_gx.out 0; have hc_gx_1 : w13_.cell? ⟨gx, 1, none⟩ = some (.int .i64 x.f1) := (blk_cell BK_gx.out 1).trans rfl; have hf_gx_1 := blk_frozen BK_gx.out 1; have nS := Aside0.mk (Kd.R_below HS1.out hB); clear HS1; have HS1 := nS; clear nS; have nG := Aside0.mk (grow_trans HG1.out (grow_below hB (some g))); clear HG1; have HG1 := nG; clear nG; have nL := Aside0.mk (Kd.R_below HLc.out hB); clear HLc; have HLc := nL; clear nL; have nC := Aside0.mk (blk_below HGc.out hB); clear HGc; have HGc := nC; clear nC; clear hB))
        go_roundg (xs.length - (j + 1))
        case measure => omega
        case rel =>
          refine ⟨i, j + 1, zs, rfl, ?_, ⟨by omega, by omega, rfl, hzl⟩, ⟨?_, fun k hk => HZ.out.2 k (by omega)⟩, HS1, HG1⟩
          · show Value.int .i64 (wrap64 ((j : Int) + 1)) = _
            have h1 := XM.out
            have h2 : wrap64 ((j : Int) + 1) = ((j + 1 : Nat) : Int) := by unfold wrap64; omega
            rw [h2]
          · rw [HNX.out, if_neg (of_decide_eq_false XBB.out), List.append_nil]; exact HZ.out.1
      | true =>
        go_upto_region 9 with (first | (go_at_call 73; (with_reducible refine (only1_w XBB.out XR.out XN.out A_l c_l _ (Kd.R_reads' HLc.out).2.2 (Kd.R_reads' HLc.out).2.1 HGc.out).mono ?_); rintro e w13_ ⟨rfl, hB⟩; have nHB := Aside0.mk (HB.out.trans (hB.mono HB.out.size)); clear HB; have HB := nHB; clear nHB; clear hc_gx_0 hf_gx_0 hc_gx_1 hf_gx_1; have nBK := Aside0.mk (blk_below (g := gx) (o := .cells #[.int .u32 x.f0, .int .i64 x.f1] 49 (0, 0)) BK_gx.out hB); clear BK_gx; have BK_gx := nBK; clear nBK; have hc_gx_0 : w13_.cell? ⟨gx, 0, none⟩ = some (.int .u32 x.f0) := (blk_cell BK_gx.out 0).trans rfl; have hf_gx_0 := blk_frozen BK_gx.out 0; have hc_gx_1 : w13_.cell? ⟨gx, 1, none⟩ = some (.int .i64 x.f1) := (blk_cell BK_gx.out 1).trans rfl; have hf_gx_1 := blk_frozen BK_gx.out 1; have nS := Aside0.mk (Kd.R_below HS1.out hB); clear HS1; have HS1 := nS; clear nS; have nG := Aside0.mk (grow_trans HG1.out (grow_below hB (some g))); clear HG1; have HG1 := nG; clear nG; have nL := Aside0.mk (Kd.R_below HLc.out hB); clear HLc; have HLc := nL; clear nL; have nC := Aside0.mk (blk_below HGc.out hB); clear HGc; have HGc := nC; clear nC; clear hB))
        have p3 : (0 : Int) ≤ (i : Int) := by omega
        have p4 : (i : Int) < (xs.length : Int) := by omega
        replace p3 := eq_true p3
        replace p4 := eq_true p4
        obtain ⟨⟨y0_, hy0_⟩, hfy0_⟩ := R49_cells HS1.out (i * 2) (by omega)
        obtain ⟨⟨y1_, hy1_⟩, hfy1_⟩ := R49_cells HS1.out (i * 2 + 1) (by omega)
        have HEND := Aside0.mk (R49_put HS1.out i (by omega) x)
        have HIJ := Aside0.mk (And.intro hij hjn)
        clear hij hjn
        go_wp2
        go_roundg (xs.length - (j + 1))
        case measure => have := HIJ.out; omega
        case rel =>
          obtain ⟨hS2, hG2⟩ := HEND.out
          have hij := HIJ.out
          refine ⟨i + 1, j + 1, zs.set i x, ?_, ?_, ⟨by omega, by omega, rfl, by rw [List.length_set]; exact hzl⟩, ⟨?_, fun k hk => ?_⟩, ⟨hS2⟩, ⟨grow_trans HG1.out hG2⟩⟩
          · show Value.int .i64 (wrap64 ((i : Int) + 1)) = _
            have h1 := XM.out
            have h2 : wrap64 ((i : Int) + 1) = ((i + 1 : Nat) : Int) := by unfold wrap64; omega
            rw [h2]
          · show Value.int .i64 (wrap64 ((j : Int) + 1)) = _
            have h1 := XM.out
            have h2 : wrap64 ((j : Int) + 1) = ((j + 1 : Nat) : Int) := by unfold wrap64; omega
            rw [h2]
          · rw [HNX.out, if_pos (of_decide_eq_true XBB.out), ← HZ.out.1]
            apply List.ext_getElem?
            intro z
            rw [List.getElem?_append, List.getElem?_take, List.getElem?_set, List.length_take, List.getElem?_take]
            have hm : min i zs.length = i := by omega
            rw [hm]
            rcases Nat.lt_trichotomy z i with hz | hz | hz
            · rw [if_pos (by omega), if_neg (by omega), if_pos hz, if_pos hz]
            · subst hz
              rw [if_pos (by omega), if_pos rfl, if_pos (by omega), if_neg (by omega), Nat.sub_self]; rfl
            · rw [if_neg (by omega), if_neg (by omega)]
              symm
              rw [List.getElem?_eq_none_iff]; simp; omega
          · rw [← HZ.out.2 k (by omega)]
            show (zs.set i x).getD _ _ = zs.getD _ _
            rw [Int.toNat_natCast, List.getD_eq_getElem?_getD, List.getD_eq_getElem?_getD, List.getElem?_set, if_neg (by omega)]
    · have c19 : decide ((j : Int) < (xs.length : Int)) = false := decide_eq_false (by omega)
      have hje : j = xs.length := by omega
      obtain ⟨hnc, w9, hclr, hg9, hR9⟩ := R49_end HS1.out i (by omega)
      have HFIN := Aside0.mk (show Kd.R k49 49 w9 base (fun _ => True) (.slice (some ⟨g, 0, none⟩) i c) (onlyS xs l) by have h1 := hR9; rw [HZ.out.1, hje, List.take_length] at h1; exact h1)
      have HG9 := Aside0.mk (grow_trans HG1.out hg9)
      have hx1 : (0 : Int) ≤ (i : Int) := by omega
      have hx3 : (i : Int) ≤ (xs.length : Int) := by omega
      have hx4 : i ≤ xs.length := by omega
      have hx5 : i ≤ c := by omega
      have hx6 : ¬ (c = i) := by omega
      clear hje hgk hg9 hR9 hzl hij hjn hnc
      go_wp2_with (at_builtin; refine wpList_clear_runI _ rfl _ 26 rfl _ rfl (hclr _ _) ?_)
      all_goals go_ret
      all_goals exact ⟨_, rfl, HFIN.out, HG9.out⟩
set_option maxHeartbeats 8000000 in
set_option maxRecDepth 100000 in
theorem only_w {base gw : Nat} {m : WM} {vS vB vA : Value} {w : World} (h : Wk base gw m vS vB vA w) {v : Value} {l : List Int} (hl : RA w base v l) (hr : Rise l) (hn : l.length ≤ 1000000) (hm : m.srcs.length ≤ 1000000) :
    Calls Try.prog 56 #[.pointer (some ⟨gw, 0, none⟩), v] w fun e w' => e = .returned (.tuple #[]) ∧ (∃ vS', Wk base gw { m with srcs := onlyS m.srcs l } vS' vB vA w') ∧ Fr base gw w w' := by
  have hu73 := Try.underlying73
  have hu28 := Try.underlying28
  have hu29 := Try.underlying29
  obtain ⟨A_l, c_l, rfl⟩ := Kd.R_slice hl
  obtain ⟨A1, c1, e1⟩ := Kd.R_slice h.S
  subst e1
  have HW := Aside0.mk h
  have HL := Aside0.mk hl
  have XR := Aside0.mk hr
  have XN := Aside0.mk hn
  have XM := Aside0.mk hm
  clear h hl hr hn hm
  have HB := Aside0.mk (Below.refl w.heap.size w)
  go_enter Try.func56, Try.ntmps56
  go_wp2_with (first | ((with_reducible refine gate_dst (N := 3) rfl ?_); (try (refine gate_guard (by rfl) ?_; dsimp only)); refine box_event ?hg (N := 3) ?hd (cs := #[.slice A_l l.length c_l]) (t := 29) ?hr ?_; (case hd => rfl); (case hg => rfl); (case hr => first | (go_simp; done) | (go_simp; rfl)); intro gl hg w1_ hbox hB; have HBo := Aside0.mk HB.out; have nHB := Aside0.mk (HB.out.trans (hB.mono HB.out.size)); clear HB; have HB := nHB; clear nHB; have BK_gl := Aside0.mk hbox; have GE_gl := Aside0.mk (show w.heap.size ≤ gl by rw [hg]; exact HBo.out.size); clear hg hbox hB; have hc_gl_0 : w1_.cell? ⟨gl, 0, none⟩ = some (.slice A_l l.length c_l) := (blk_cell BK_gl.out 0).trans rfl; have hf_gl_0 := blk_frozen BK_gl.out 0; clear HBo; have HW1 := Aside0.mk (HW.out.below HB.out); have hw3 : w1_.cell? ⟨gw, 3, none⟩ = some (.slice A1 m.srcs.length c1) := (blk_cell HW1.out.blk 3).trans rfl; have hf3 := blk_frozen HW1.out.blk 3; have HD := Aside0.mk (deletef_w HW1.out.S (Kd.R_below HL.out HB.out) BK_gl.out XR.out XN.out XM.out)) | (go_at_call 72; (with_reducible refine HD.out.mono ?_); rintro e w2 ⟨v2, rfl, hS2, hG2⟩; obtain ⟨A2, c2, e2_⟩ := Kd.R_slice hS2; subst e2_; have HS2 := Aside0.mk hS2; have HO2 := Aside0.mk (HW1.out.overS hG2 hS2); have HK2 := Aside0.mk (show w2.heap[gw]? = _ from HO2.out.1.trans HW1.out.blk); clear hS2 hG2 hw3 hf3; have hw3 : w2.cell? ⟨gw, 3, none⟩ = some (.slice A1 m.srcs.length c1) := (blk_cell HK2.out 3).trans rfl; have hf3 := blk_frozen HK2.out 3))
  go_end0
  obtain ⟨_, hB3, hA3, hF3⟩ := HO2.out
  exact ⟨rfl, ⟨.slice A2 (onlyS m.srcs l).length c2, ⟨blk_put (cs := #[.int .u32 m.g, .bool m.ex, .int .i64 m.left, .slice A1 m.srcs.length c1, .int .i64 m.keep, .int .i64 m.last, vB, vA]) HK2.out 3 _ rfl, HW.out.ge, Kd.R_set HS2.out HK2.out (by decide) 3 _, Kd.R_set hB3 HK2.out (by decide) 3 _, Kd.R_set hA3 HK2.out (by decide) 3 _⟩⟩, ((Fr.of_below HB.out).trans hF3).trans (Fr.set 3 _)⟩
end Go.Proofs.Ytbllchfgjginoaa
