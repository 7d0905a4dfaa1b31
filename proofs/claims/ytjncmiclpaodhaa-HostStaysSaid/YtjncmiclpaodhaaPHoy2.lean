/-
  Filters in plain lists, for chapter 07 (out of chapter 06's plain laws).
-/
import Derived.Test.YtjncmiclpaodhaaPHoy1
import Derived.Test.YtjncmiclpaodhaaPHox1
import Derived.Test.YtjncmiclpaodhaaMkP
namespace Go.Proofs.Ytjncmiclpaodhaa
open Go.RowKit Go.Proofs.YtjncmiclpaodhaaW.PrintWords Go.Proofs.Ytjncmiclpaodhaa.PHo
set_option linter.unusedVariables false
set_option linter.unusedSimpArgs false
theorem list_eq_getD (a b : List Int) (hl : a.length = b.length) : a = b ↔ ∀ i, i < a.length → a.getD i 0 = b.getD i 0 := by
  constructor
  · rintro rfl i _; rfl
  · intro h
    refine List.ext_getElem hl fun i h1 h2 => ?_
    rw [← getD_eq a i h1, ← getD_eq b i h2]
    exact h i h1
open Classical in
theorem rows_loop (a b : List Int) (hl : a.length = b.length) (hm : a.length ≤ 1000000000) : ∀ n k (j : Nat), a.length ≤ j + n → n < k →
    stolonref01_Rows.l0 k a b j = some (decide (∀ i, j ≤ i → i < a.length → a.getD i 0 = b.getD i 0)) := by
  intro n
  induction n with
  | zero =>
    intro k j h2 hk
    obtain ⟨k, rfl⟩ : ∃ k', k = k' + 1 := ⟨k - 1, by omega⟩
    rw [stolonref01_Rows.l0, if_neg (by omega)]
    congr 1
    symm
    rw [decide_eq_true_eq]
    intro i hi hl; omega
  | succ n ih =>
    intro k j h2 hk
    obtain ⟨k, rfl⟩ : ∃ k', k = k' + 1 := ⟨k - 1, by omega⟩
    rw [stolonref01_Rows.l0]
    by_cases hj : j < a.length
    · rw [if_pos (by omega), if_pos (by omega), if_pos (by omega)]
      rw [rd_eq, rd_eq, show ((j : Int)).toNat = j from by omega]
      split
      · rename_i he
        rw [w64 (by omega) (by omega), show (j : Int) + 1 = ((j + 1 : Nat) : Int) from by omega, ih k (j + 1) (by omega) (by omega)]
        congr 1
        rw [decide_eq_decide]
        constructor
        · intro h i hi hl
          rcases Nat.lt_or_ge j i with h' | h'
          · exact h i (by omega) hl
          · obtain rfl : i = j := by omega
            exact he
        · intro h i hi hl
          exact h i (by omega) hl
      · rename_i he
        congr 1
        symm
        rw [decide_eq_false_iff_not]
        intro h
        exact he (h j (Nat.le_refl _) hj)
    · rw [if_neg (by omega)]
      congr 1
      symm
      rw [decide_eq_true_eq]
      intro i hi hl; omega
theorem rows_some (a b : List Int) (hm : a.length ≤ 1000000000) (k : Nat) (hk : a.length < k) : stolonref01_Rows.f k a b = some (decide (a = b)) := by
  unfold stolonref01_Rows.f
  by_cases hl : a.length = b.length
  · rw [if_pos (by omega)]
    have := rows_loop a b hl hm a.length k 0 (by omega) hk
    rw [show ((0 : Nat) : Int) = 0 from rfl] at this
    rw [this]
    congr 1
    rw [decide_eq_decide, list_eq_getD a b hl]
    constructor
    · intro h i hi; exact h i (by omega) hi
    · intro h i _ hi; exact h i hi
  · rw [if_neg (by omega)]
    congr 1
    symm
    rw [decide_eq_false_iff_not]
    rintro rfl
    exact hl rfl
def uni (a b : List Int) : List Int := selOf (fun x y => x || y) (bothOf a b)
def int (a b : List Int) : List Int := selOf (fun x y => x && y) (bothOf a b)
theorem uni_some {a b : List Int} (h : a.length ≤ 1000000000) (h' : b.length ≤ 1000000000) : set_Union.f a b = some (uni a b) := by rw [set_Union.f, if_pos ⟨h, h'⟩]; rfl
theorem int_some {a b : List Int} (h : a.length ≤ 1000000000) (h' : b.length ≤ 1000000000) : set_Inter.f a b = some (int a b) := by rw [set_Inter.f, if_pos ⟨h, h'⟩]; rfl
theorem uni_len (a b : List Int) : (uni a b).length ≤ a.length + b.length := sel_len2 _ _ _
theorem int_len (a b : List Int) : (int a b).length ≤ a.length + b.length := sel_len2 _ _ _
theorem uni_rise {a b : List Int} (ha : Rise a) (hb : Rise b) : Rise (uni a b) := sel_rise ha hb
theorem int_rise {a b : List Int} (ha : Rise a) (hb : Rise b) : Rise (int a b) := sel_rise ha hb
theorem uni_mem {a b : List Int} (ha : Rise a) (hb : Rise b) (x : Int) : x ∈ uni a b ↔ x ∈ a ∨ x ∈ b := by
  unfold uni; rw [sel_mem ha hb]; simp
theorem int_mem {a b : List Int} (ha : Rise a) (hb : Rise b) (x : Int) : x ∈ int a b ↔ x ∈ a ∧ x ∈ b := by
  unfold int; rw [sel_mem ha hb]; simp only [Bool.and_eq_true, decide_eq_true_eq]
  exact ⟨fun h => h.2, fun h => ⟨.inl h.1, h⟩⟩
theorem rdT (l : List S26) (i : Nat) (h : i < l.length) : rd_T26 l (i : Int) = l[i] := by
  show l.getD _ _ = _
  rw [Int.toNat_natCast, List.getD_eq_getElem?_getD, List.getElem?_eq_getElem h]; rfl
def stepS (s : List Int × List Int × Bool) (f : S26) : List Int × List Int × Bool :=
  if f.f0 = true then (if s.2.2 = true then (s.1, int s.2.1 f.f1, s.2.2) else (s.1, f.f1, true)) else (uni s.1 f.f1, s.2.1, s.2.2)
def finS (s : List Int × List Int × Bool) : Bool × List Int := if s.2.2 = true then (true, mns s.2.1 s.1) else (false, s.1)
def wants (f : Bool × List Int) (a : Int) : Bool := decide (a ∈ f.2) != f.1
theorem step_keeps {s : List Int × List Int × Bool} {f : S26} (h1 : Rise s.1) (h2 : Rise s.2.1) (h3 : Rise f.f1) : Rise (stepS s f).1 ∧ Rise (stepS s f).2.1 := by
  unfold stepS
  split
  · split
    · exact ⟨h1, int_rise h2 h3⟩
    · exact ⟨h1, h3⟩
  · exact ⟨uni_rise h1 h3, h2⟩
theorem step_len {s : List Int × List Int × Bool} {f : S26} (h3 : f.f1.length ≤ 200) : (stepS s f).1.length ≤ s.1.length + 200 ∧ (stepS s f).2.1.length ≤ s.2.1.length + 200 := by
  unfold stepS
  have := int_len s.2.1 f.f1
  have := uni_len s.1 f.f1
  split
  · split
    · exact ⟨by show s.1.length ≤ _; omega, by show (int s.2.1 f.f1).length ≤ _; omega⟩
    · exact ⟨by show s.1.length ≤ _; omega, by show f.f1.length ≤ _; omega⟩
  · exact ⟨by show (uni s.1 f.f1).length ≤ _; omega, by show s.2.1.length ≤ _; omega⟩
theorem step_wants {s : List Int × List Int × Bool} {f : S26} (h1 : Rise s.1) (h2 : Rise s.2.1) (h3 : Rise f.f1) (a : Int) :
    wants (finS (stepS s f)) a = (wants (finS s) a || wants (f.f0, f.f1) a) := by
  obtain ⟨s1, s2, s3⟩ := s
  obtain ⟨f0, f1⟩ := f
  simp only at h1 h2 h3
  have m1 := mns_mem (int_rise h2 h3) h1 a
  have m2 := int_mem h2 h3 a
  have m3 := mns_mem h2 h1 a
  have m4 := mns_mem h3 h1 a
  have m5 := mns_mem h2 (uni_rise h1 h3) a
  have m6 := uni_mem h1 h3 a
  cases f0 <;> cases s3 <;> simp [stepS, finS, wants, m1, m2, m3, m4, m5, m6] <;>
    by_cases q1 : a ∈ s1 <;> by_cases q2 : a ∈ s2 <;> by_cases q3 : a ∈ f1 <;> simp [q1, q2, q3]
theorem filter_loop (l : List S26) (hm : l.length ≤ 200) (hl : ∀ f ∈ l, Rise f.f1 ∧ f.f1.length ≤ 200) : ∀ n k (j : Nat) (s : List Int × List Int × Bool), j ≤ l.length → l.length = j + n → n < k → s.1.length ≤ 200 * j → s.2.1.length ≤ 200 * j →
    set_Filter.l0 k s.1 s.2.1 s.2.2 l l.length j = some (finS ((l.drop j).foldl stepS s)) := by
  intro n
  induction n with
  | zero =>
    intro k j s hj h2 hk h3 h4
    obtain ⟨k, rfl⟩ : ∃ k', k = k' + 1 := ⟨k - 1, by omega⟩
    rw [set_Filter.l0, if_neg (by omega), List.drop_of_length_le (by omega), List.foldl_nil]
    unfold finS
    split
    · rw [mns_some (by omega) (by omega)]; rfl
    · rfl
  | succ n ih =>
    intro k j s hj h2 hk h3 h4
    obtain ⟨k, rfl⟩ : ∃ k', k = k' + 1 := ⟨k - 1, by omega⟩
    have hlt : j < l.length := by omega
    have hf := hl l[j] (List.getElem_mem _)
    have e2 : wrap64 ((j : Int) + 1) = ((j + 1 : Nat) : Int) := by rw [w64 (by omega) (by omega)]; omega
    have hlen := step_len (s := s) hf.2
    have := ih k (j + 1) (stepS s l[j]) (by omega) (by omega) (by omega) (by omega) (by omega)
    rw [set_Filter.l0, if_pos (by omega), if_pos (by omega), if_pos (by omega), rdT l j hlt, e2, List.drop_eq_getElem_cons hlt, List.foldl_cons, ← this]
    unfold stepS
    split
    · split
      · rename_i he
        rw [int_some (by omega) (by omega), Option.bind_some]
      · rfl
    · rw [uni_some (by omega) (by omega), Option.bind_some]
theorem filter_some (l : List S26) (hm : l.length ≤ 200) (hl : ∀ f ∈ l, Rise f.f1 ∧ f.f1.length ≤ 200) (k : Nat) (hk : l.length < k) : set_Filter.f k l = some (finS (l.foldl stepS ([], [], false))) := by
  unfold set_Filter.f
  have := filter_loop l hm hl l.length k 0 ([], [], false) (by omega) (by omega) hk (by simp) (by simp)
  rw [List.drop_zero] at this
  exact this
theorem fold_keeps : ∀ (l : List S26) (s : List Int × List Int × Bool), (∀ f ∈ l, Rise f.f1 ∧ f.f1.length ≤ 200) → Rise s.1 → Rise s.2.1 →
    Rise (l.foldl stepS s).1 ∧ Rise (l.foldl stepS s).2.1 ∧ (l.foldl stepS s).1.length ≤ s.1.length + 200 * l.length ∧ (l.foldl stepS s).2.1.length ≤ s.2.1.length + 200 * l.length ∧
    ∀ a, wants (finS (l.foldl stepS s)) a = (wants (finS s) a || l.any (fun f => wants (f.f0, f.f1) a))
  | [], s, _, h1, h2 => ⟨h1, h2, by simp, by simp, fun a => by simp⟩
  | f :: l, s, hl, h1, h2 => by
    have hf := hl f List.mem_cons_self
    have hk := step_keeps h1 h2 hf.1
    have hn := step_len (s := s) hf.2
    obtain ⟨r1, r2, r3, r4, r5⟩ := fold_keeps l (stepS s f) (fun g hg => hl g (List.mem_cons_of_mem _ hg)) hk.1 hk.2
    rw [List.foldl_cons]
    refine ⟨r1, r2, by simp only [List.length_cons]; omega, by simp only [List.length_cons]; omega, fun a => ?_⟩
    rw [r5, step_wants h1 h2 hf.1, List.any_cons, Bool.or_assoc]
theorem fin_rise {s : List Int × List Int × Bool} (h1 : Rise s.1) (h2 : Rise s.2.1) : Rise (finS s).2 := by
  unfold finS
  split
  · exact mns_rise h2 h1
  · exact h1
theorem fin_len (s : List Int × List Int × Bool) : (finS s).2.length ≤ s.1.length + s.2.1.length := by
  unfold finS
  have := mns_len s.2.1 s.1
  split
  · show (mns s.2.1 s.1).length ≤ _; omega
  · show s.1.length ≤ _; omega
end Go.Proofs.Ytjncmiclpaodhaa
-- written by a program of this session (hprint.py), over the kit's printer
namespace Go.Proofs.Ytjncmiclpaodhaa.PHo
open Go.RowKit Go.Proofs.YtjncmiclpaodhaaW.PrintWords Go.Proofs.YtjncmiclpaodhaaW.PrintLast Go.Proofs.YtjncmiclpaodhaaW.PrintMore
attribute [local go_sem] max2_int min2_int max_two min_two max_three min_three max_four min_four   -- for this text's walks alone
set_option linter.unusedVariables false
set_option linter.unusedSimpArgs false
/-! ### stolonref07_Few: function 13 -/
def stolonref07_Few.l0 : Nat → Int → Int → List (S42) → Option (Bool)
 | 0, _, _, _ => none
 | k + 1, x3, x4, x330000 => if x4 < (x330000.length : Int) then (if x3 ≤ 600 then (if 0 ≤ x4 then (stolonref07_Few.l0 k (wrap64 (x3 + (((rd_T42 x330000 x4).f2.f1).length : Int))) (wrap64 (x4 + 1)) x330000) else (none)) else (some (decide (x3 ≤ 600)))) else (some (decide (x3 ≤ 600)))
def stolonref07_Few.f (k : Nat) (l0_0 : List (S42)) : Option (Bool) := stolonref07_Few.l0 k (l0_0.length : Int) 0 l0_0
theorem stolonref07_Few.mono_l : ∀ k, (∀ y0 y1 y2, LeO (stolonref07_Few.l0 k y0 y1 y2) (stolonref07_Few.l0 (k + 1) y0 y1 y2))
 | 0 => fun _ _ _ r h => by simp [stolonref07_Few.l0] at h
 | k + 1 => by
  have ih0 := stolonref07_Few.mono_l k
  · intro y0 y1 y2
    unfold stolonref07_Few.l0
    repeat' first
    | (with_reducible exact ih0 _ _ _)
    | (with_reducible exact LeO.refl _)
    | (with_reducible exact LeO.none _)
    | (with_reducible refine LeO.ite ?_ ?_)
    | (with_reducible refine LeO.bind ?_ (fun _ => ?_))
    | exact ih0 _ _ _
    | exact LeO.none _
    | refine LeO.ite ?_ ?_
    | refine LeO.bind ?_ (fun _ => ?_)
theorem stolonref07_Few.mono : ∀ a0 k, LeO (stolonref07_Few.f k a0) (stolonref07_Few.f (k + 1) a0) := by
 intro a0 k
 have ih0 := stolonref07_Few.mono_l k
 unfold stolonref07_Few.f
 repeat' first
  | (with_reducible exact ih0 _ _ _)
  | (with_reducible exact LeO.refl _)
  | (with_reducible exact LeO.none _)
  | (with_reducible refine LeO.ite ?_ ?_)
  | (with_reducible refine LeO.bind ?_ (fun _ => ?_))
  | exact ih0 _ _ _
  | exact LeO.none _
  | refine LeO.ite ?_ ?_
  | refine LeO.bind ?_ (fun _ => ?_)
set_option maxHeartbeats 8000000 in
set_option maxRecDepth 100000 in
theorem stolonref07_Few.calls (k : Nat) (A0_0 : Option Addr) (c0_0 : Nat) (l0_0 : List (S42)) (r : Bool) (w : World) (hr0_0 : Kd.C k42 w A0_0 l0_0.length l0_0) (hc0_0 : l0_0.length ≤ c0_0) (h : stolonref07_Few.f k l0_0 = some r) :
 Calls Try.prog 13 #[.agg #[.slice A0_0 l0_0.length c0_0]] w fun e w' => e = .returned (.bool r) ∧ Below w.heap.size w w' := by
 have hu40 := Try.underlying40
 have HR0_0 := Aside0.mk hr0_0
 have HC0_0 := Aside0.mk hc0_0
 clear hr0_0 hc0_0
 have HB := Aside0.mk (Below.refl w.heap.size w)
 have H : (stolonref07_Few.l0 k (l0_0.length : Int) 0 l0_0) = some r := h
 clear h
 have H' := Aside0.mk H
 clear H
 go_enter Try.func13, Try.ntmps13
 go_wp2_with (first | ((with_reducible refine gate_dst (N := 1) rfl ?_); refine box_event ?hg (N := 1) ?hd (cs := #[.slice A0_0 l0_0.length c0_0]) (t := 40) ?hr ?_; (case hd => rfl); (case hg => rfl); (case hr => first | (go_simp; done) | (go_simp; rfl)); intro gb329 hg w2 hbox hb; have n0_ := Aside0.mk (below_step HB.out hb); have n1_ := Aside0.mk (hbox); have n2_ := Aside0.mk ((by rw [hg]; exact (below_size HB.out) : w.heap.size ≤ gb329)); have n3_ := Aside0.mk ((by rw [hg]; exact (below_size HB.out) : w.heap.size ≤ gb329)); clear HB; have HB := n0_; have BK329 := n1_; have GW329 := n2_; have GE329 := n3_; clear n0_ n1_ n2_ n3_; clear hb hbox hg; have hcz3_0 : w2.cell? ⟨gb329, 0, none⟩ = some (.slice A0_0 l0_0.length c0_0) := (blk_cell BK329.out 0).trans rfl; have hfz3_0 := blk_frozen BK329.out 0))
 go_loopg [3, 4] k (fun kq v3 v4 w' => ∃ (x3_1 : Int) (x4_1 : Int), v3 = .int .i64 x3_1 ∧ v4 = .int .i64 x4_1 ∧ Aside0 (stolonref07_Few.l0 kq x3_1 x4_1 l0_0 = some r) ∧ Aside0 (kq ≤ k) ∧ Aside0 (w'.heap[gb329]? = some (.cells #[(.slice A0_0 l0_0.length c0_0)] 40 (0, 0))) ∧ Aside0 (Below w.heap.size w w'))
 case atStart => exact ⟨((l0_0.length : Int)), (0), (by first | rfl | (simp; done) | (simp [*]; done)), (by first | rfl | (simp; done) | (simp [*]; done)), H', ⟨Nat.le_refl _⟩, ⟨BK329.out⟩, ⟨HB.out⟩⟩
 case round =>
  clear H'
  try clear c1
  try clear p2
  try clear hcz3_0
  try clear hfz3_0
  obtain ⟨x3_1, x4_1, rfl, rfl, HA, HK1, BK329, HB⟩ := hrel
  cases gk with
  | zero => exact absurd HA.out (by simp [stolonref07_Few.l0])
  | succ k1 =>
   have H := HA.out
   clear HA
   simp only [stolonref07_Few.l0] at H
   by_cases c4 : x4_1 < (l0_0.length : Int)
   · rw [if_pos c4] at H
     have c4b0 : decide (x4_1 < (l0_0.length : Int)) = true := decide_eq_true c4
     clear c4
     by_cases c5 : x3_1 ≤ 600
     · rw [if_pos c5] at H
       have c5b0 : decide (x3_1 ≤ 600) = true := decide_eq_true c5
       clear c5
       by_cases c6 : 0 ≤ x4_1
       case neg => rw [if_neg c6] at H; exact absurd H (by simp)
       rw [if_pos c6] at H
       have c6b0 : decide (0 ≤ x4_1) = true := decide_eq_true c6
       clear c6
       have H' := Aside0.mk H
       clear H
       have hcz7_0 : wr.cell? ⟨gb329, 0, none⟩ = some (.slice A0_0 l0_0.length c0_0) := (blk_cell BK329.out 0).trans rfl
       have hfz7_0 := blk_frozen BK329.out 0
       have p330 : 0 ≤ (x4_1 : Int) := of_decide_eq_true (by first | (with_reducible assumption) | assumption)
       have q330 : x4_1 < (l0_0.length : Int) := of_decide_eq_true (by first | (with_reducible assumption) | assumption)
       obtain ⟨ad330, A330_3, c330_3, e330, hx330_0, hx330_1, hx330_2, hx330_3, hl330_3, hi330_3⟩ := at_T42 HR0_0.out x4_1 p330 q330
       cases e330
       replace hx330_0 := (HB.out.cell (World.block_lt_of_cell? w _ hx330_0)).trans hx330_0
       replace hx330_1 := (HB.out.cell (World.block_lt_of_cell? w _ hx330_1)).trans hx330_1
       replace hx330_2 := (HB.out.cell (World.block_lt_of_cell? w _ hx330_2)).trans hx330_2
       replace hx330_3 := (HB.out.cell (World.block_lt_of_cell? w _ hx330_3)).trans hx330_3
       have HR330_3 := Aside0.mk hi330_3
       have HC330_3 := Aside0.mk hl330_3
       clear hi330_3 hl330_3
       replace p330 := eq_true p330
       replace q330 := eq_true q330
       go_wp2
       go_roundg k1
       case measure => have := HK1.out; omega
       case rel => exact ⟨(wrap64 (x3_1 + (((rd_T42 l0_0 x4_1).f2.f1).length : Int))), (wrap64 (x4_1 + 1)), (by first | rfl | (simp; done) | (simp [*]; done)), (by first | rfl | (simp; done) | (simp [*]; done)), H', ⟨by have := HK1.out; omega⟩, ⟨BK329.out⟩, ⟨HB.out⟩⟩
     · rw [if_neg c5] at H
       have c5b0 : decide (x3_1 ≤ 600) = false := decide_eq_false c5
       clear c5
       obtain rfl := Option.some.inj H
       have hcz8_0 : wr.cell? ⟨gb329, 0, none⟩ = some (.slice A0_0 l0_0.length c0_0) := (blk_cell BK329.out 0).trans rfl
       have hfz8_0 := blk_frozen BK329.out 0
       go_wp2
       go_ret
       exact ⟨by first | rfl | (simp [errW_none, errW_some] <;> rfl) | (simp [*, errW_none, errW_some] <;> rfl), by repeat (first | (with_reducible first | exact HB.out | apply below_alloc | apply pw_below_drewN | apply below_drew1 | refine below_set ?_ GE329.out) | exact HB.out)⟩
   · rw [if_neg c4] at H
     have c4b0 : decide (x4_1 < (l0_0.length : Int)) = false := decide_eq_false c4
     clear c4
     obtain rfl := Option.some.inj H
     have hcz9_0 : wr.cell? ⟨gb329, 0, none⟩ = some (.slice A0_0 l0_0.length c0_0) := (blk_cell BK329.out 0).trans rfl
     have hfz9_0 := blk_frozen BK329.out 0
     go_wp2
     go_ret
     exact ⟨by first | rfl | (simp [errW_none, errW_some] <;> rfl) | (simp [*, errW_none, errW_some] <;> rfl), by repeat (first | (with_reducible first | exact HB.out | apply below_alloc | apply pw_below_drewN | apply below_drew1 | refine below_set ?_ GE329.out) | exact HB.out)⟩
/-! ### stolonref01_Asked: function 49 -/
def stolonref01_Asked.f (a0 : Int) : Option (Bool) := if a0 ≥ 3758096640 then (some (decide (a0 ≤ 4026531839))) else (some false)
set_option maxHeartbeats 8000000 in
set_option maxRecDepth 100000 in
theorem stolonref01_Asked.calls (a0 : Int) (r : Bool) (w : World) (h : stolonref01_Asked.f a0 = some r) :
 Calls Try.prog 49 #[.int .u32 a0] w fun e w' => e = .returned (.bool r) ∧ Drawn0 w w' := by
 have H : (if a0 ≥ 3758096640 then (some (decide (a0 ≤ 4026531839))) else (some false)) = some r := h
 clear h
 by_cases c2 : a0 ≥ 3758096640
 · rw [if_pos c2] at H
   have c2b0 : decide (3758096640 ≤ a0) = true := decide_eq_true c2
   clear c2
   obtain rfl := Option.some.inj H
   go_enter Try.func49, Try.ntmps49
   go_wp2
   go_ret
   exact ⟨by first | rfl | (simp; done) | (simp [*]; done), by repeat (first | exact Drawn0.refl _ | apply Drawn0.step)⟩
 · rw [if_neg c2] at H
   have c2b0 : decide (3758096640 ≤ a0) = false := decide_eq_false c2
   clear c2
   obtain rfl := Option.some.inj H
   go_enter Try.func49, Try.ntmps49
   go_wp2
   go_ret
   exact ⟨by first | rfl | (simp; done) | (simp [*]; done), by repeat (first | exact Drawn0.refl _ | apply Drawn0.step)⟩
/-! ### stolonref07_socket: function 28 -/
def stolonref07_socket.f (k : Nat) (a0_0 : Int) (a0_1 : Int) (a0_2 : Bool) (l0_3 : List Int) : Option (Bool) := (stolonref01_Asked.f a0_1).bind fun t332 => (if a0_0 ≥ 1 then (if t332 = true then (if (l0_3.length : Int) ≤ 16 then ((stolonref06_Right.f k l0_3).bind fun t333 => (some t333)) else (some false)) else (some false)) else (some false))
theorem stolonref07_socket.mono : ∀ a0 a1 a2 a3 k, LeO (stolonref07_socket.f k a0 a1 a2 a3) (stolonref07_socket.f (k + 1) a0 a1 a2 a3) := by
 intro a0 a1 a2 a3 k
 unfold stolonref07_socket.f
 repeat' first
  | (with_reducible exact stolonref06_Right.mono _ _)
  | (with_reducible exact LeO.refl _)
  | (with_reducible exact LeO.none _)
  | (with_reducible refine LeO.ite ?_ ?_)
  | (with_reducible refine LeO.bind ?_ (fun _ => ?_))
  | exact stolonref06_Right.mono _ _
  | exact LeO.none _
  | refine LeO.ite ?_ ?_
  | refine LeO.bind ?_ (fun _ => ?_)
set_option maxHeartbeats 8000000 in
set_option maxRecDepth 100000 in
theorem stolonref07_socket.calls (k : Nat) (a0_0 : Int) (a0_1 : Int) (a0_2 : Bool) (A0_3 : Option Addr) (c0_3 : Nat) (l0_3 : List Int) (r : Bool) (w : World) (hr0_3 : Kd.C (Kd.int .u32) w A0_3 l0_3.length l0_3) (hc0_3 : l0_3.length ≤ c0_3) (h : stolonref07_socket.f k a0_0 a0_1 a0_2 l0_3 = some r) :
 Calls Try.prog 28 #[.agg #[.int .i64 a0_0, .int .u32 a0_1, .bool a0_2, .slice A0_3 l0_3.length c0_3]] w fun e w' => e = .returned (.bool r) ∧ Below w.heap.size w w' := by
 have hu42 := Try.underlying42
 have HR0_3 := Aside0.mk hr0_3
 have HC0_3 := Aside0.mk hc0_3
 clear hr0_3 hc0_3
 have HB := Aside0.mk (Below.refl w.heap.size w)
 have H : ((stolonref01_Asked.f a0_1).bind fun t332 => (if a0_0 ≥ 1 then (if t332 = true then (if (l0_3.length : Int) ≤ 16 then ((stolonref06_Right.f k l0_3).bind fun t333 => (some t333)) else (some false)) else (some false)) else (some false))) = some r := h
 clear h
 replace H := Option.bind_eq_some_iff.mp H
 obtain ⟨t332, A20, H⟩ := H
 replace H : (if a0_0 ≥ 1 then (if t332 = true then (if (l0_3.length : Int) ≤ 16 then ((stolonref06_Right.f k l0_3).bind fun t333 => (some t333)) else (some false)) else (some false)) else (some false)) = some r := H
 have A2 := Aside0.mk A20
 clear A20
 by_cases c3 : a0_0 ≥ 1
 · rw [if_pos c3] at H
   have c3b0 : decide (1 ≤ a0_0) = true := decide_eq_true c3
   clear c3
   by_cases c4 : t332 = true
   · subst c4
     have H1 : (if (l0_3.length : Int) ≤ 16 then ((stolonref06_Right.f k l0_3).bind fun t333 => (some t333)) else (some false)) = some r := by rw [if_pos rfl] at H; exact H
     clear H
     have H := H1
     clear H1
     by_cases c5 : (l0_3.length : Int) ≤ 16
     · rw [if_pos c5] at H
       have c5b0 : decide ((l0_3.length : Int) ≤ 16) = true := decide_eq_true c5
       have c5b1 : decide (l0_3.length ≤ 16) = true := decide_eq_true (by omega)
       clear c5
       replace H := Option.bind_eq_some_iff.mp H
       obtain ⟨t333, A60, H⟩ := H
       replace H : (some t333) = some r := H
       have A6 := Aside0.mk A60
       clear A60
       obtain rfl := Option.some.inj H
       go_enter Try.func28, Try.ntmps28
       go_wp2_with (first | ((with_reducible refine gate_dst (N := 1) rfl ?_); (try (refine gate_guard (by rfl) ?_; dsimp only)); refine box_event ?hg (N := 1) ?hd (cs := #[.int .i64 a0_0, .int .u32 a0_1, .bool a0_2, .slice A0_3 l0_3.length c0_3]) (t := 42) ?hr ?_; (case hd => rfl); (case hg => rfl); (case hr => first | (go_simp; done) | (go_simp; rfl)); intro gb331 hg w7 hbox hb; have n0_ := Aside0.mk (below_step HB.out hb); have n1_ := Aside0.mk (hbox); have n2_ := Aside0.mk ((by rw [hg]; exact (below_size HB.out) : w.heap.size ≤ gb331)); have n3_ := Aside0.mk ((by rw [hg]; exact (below_size HB.out) : w.heap.size ≤ gb331)); clear HB; have HB := n0_; have BK331 := n1_; have GW331 := n2_; have GE331 := n3_; clear n0_ n1_ n2_ n3_; clear hb hbox hg; obtain ⟨hcz8_0, hcz8_1, hcz8_2, hcz8_3, hfz8_0, hfz8_1, hfz8_2, hfz8_3⟩ := cf4 BK331.out) | ((with_reducible refine gate_callee (f := 49) rfl ?_); refine goesL_ (some 6) rfl rfl Try.func49 (by kernel_rfl) rfl #[.int .u32 a0_1] rfl (by (try simp only [List.map_toArray, List.map_cons, List.map_nil]); first | done | rfl | (simp only [List.length_drop, List.length_take]; rfl)) ?_; (with_reducible refine (stolonref01_Asked.calls a0_1 true _ A2.out).mono ?_); rintro e w' ⟨rfl, ⟨nd, rfl⟩⟩; refine ⟨_, rfl, ?_⟩) | (go_at_call 9; (with_reducible refine (stolonref06_Right.calls k _ _ l0_3 t333 _ ?side1 ?side2 A6.out).mono ?_); (case side1 => repeat (first | exact (Kd.C_below HR0_3.out HB.out) | (with_reducible refine Kd.C_alloc ?_ _) | (with_reducible refine Kd.C_drewN ?_ _) | (with_reducible refine Kd.C_drew ?_))); (case side2 => exact HC0_3.out); rintro e w' ⟨rfl, ⟨nd, rfl⟩⟩))
       go_ret
       exact ⟨by first | rfl | (simp [errW_none, errW_some] <;> rfl) | (simp [*, errW_none, errW_some] <;> rfl), by repeat (first | (with_reducible first | exact HB.out | apply below_alloc | apply pw_below_drewN | apply below_drew1 | refine below_set ?_ GE331.out) | exact HB.out)⟩
     · rw [if_neg c5] at H
       have c5b0 : decide ((l0_3.length : Int) ≤ 16) = false := decide_eq_false c5
       have c5b1 : decide (l0_3.length ≤ 16) = false := decide_eq_false (by omega)
       clear c5
       obtain rfl := Option.some.inj H
       go_enter Try.func28, Try.ntmps28
       go_wp2_with (first | ((with_reducible refine gate_dst (N := 1) rfl ?_); (try (refine gate_guard (by rfl) ?_; dsimp only)); refine box_event ?hg (N := 1) ?hd (cs := #[.int .i64 a0_0, .int .u32 a0_1, .bool a0_2, .slice A0_3 l0_3.length c0_3]) (t := 42) ?hr ?_; (case hd => rfl); (case hg => rfl); (case hr => first | (go_simp; done) | (go_simp; rfl)); intro gb331 hg w9 hbox hb; have n0_ := Aside0.mk (below_step HB.out hb); have n1_ := Aside0.mk (hbox); have n2_ := Aside0.mk ((by rw [hg]; exact (below_size HB.out) : w.heap.size ≤ gb331)); have n3_ := Aside0.mk ((by rw [hg]; exact (below_size HB.out) : w.heap.size ≤ gb331)); clear HB; have HB := n0_; have BK331 := n1_; have GW331 := n2_; have GE331 := n3_; clear n0_ n1_ n2_ n3_; clear hb hbox hg; obtain ⟨hcz10_0, hcz10_1, hcz10_2, hcz10_3, hfz10_0, hfz10_1, hfz10_2, hfz10_3⟩ := cf4 BK331.out) | ((with_reducible refine gate_callee (f := 49) rfl ?_); refine goesL_ (some 6) rfl rfl Try.func49 (by kernel_rfl) rfl #[.int .u32 a0_1] rfl (by (try simp only [List.map_toArray, List.map_cons, List.map_nil]); first | done | rfl | (simp only [List.length_drop, List.length_take]; rfl)) ?_; (with_reducible refine (stolonref01_Asked.calls a0_1 true _ A2.out).mono ?_); rintro e w' ⟨rfl, ⟨nd, rfl⟩⟩; refine ⟨_, rfl, ?_⟩))
       go_ret
       exact ⟨by first | rfl | (simp [errW_none, errW_some] <;> rfl) | (simp [*, errW_none, errW_some] <;> rfl), by repeat (first | (with_reducible first | exact HB.out | apply below_alloc | apply pw_below_drewN | apply below_drew1 | refine below_set ?_ GE331.out) | exact HB.out)⟩
   · replace c4 := Bool.eq_false_iff.mpr c4
     subst c4
     have H1 : (some false) = some r := by rw [if_neg (show ¬ (false = true) by decide)] at H; exact H
     clear H
     have H := H1
     clear H1
     obtain rfl := Option.some.inj H
     go_enter Try.func28, Try.ntmps28
     go_wp2_with (first | ((with_reducible refine gate_dst (N := 1) rfl ?_); (try (refine gate_guard (by rfl) ?_; dsimp only)); refine box_event ?hg (N := 1) ?hd (cs := #[.int .i64 a0_0, .int .u32 a0_1, .bool a0_2, .slice A0_3 l0_3.length c0_3]) (t := 42) ?hr ?_; (case hd => rfl); (case hg => rfl); (case hr => first | (go_simp; done) | (go_simp; rfl)); intro gb331 hg w11 hbox hb; have n0_ := Aside0.mk (below_step HB.out hb); have n1_ := Aside0.mk (hbox); have n2_ := Aside0.mk ((by rw [hg]; exact (below_size HB.out) : w.heap.size ≤ gb331)); have n3_ := Aside0.mk ((by rw [hg]; exact (below_size HB.out) : w.heap.size ≤ gb331)); clear HB; have HB := n0_; have BK331 := n1_; have GW331 := n2_; have GE331 := n3_; clear n0_ n1_ n2_ n3_; clear hb hbox hg; obtain ⟨hcz12_0, hcz12_1, hcz12_2, hcz12_3, hfz12_0, hfz12_1, hfz12_2, hfz12_3⟩ := cf4 BK331.out) | ((with_reducible refine gate_callee (f := 49) rfl ?_); refine goesL_ (some 6) rfl rfl Try.func49 (by kernel_rfl) rfl #[.int .u32 a0_1] rfl (by (try simp only [List.map_toArray, List.map_cons, List.map_nil]); first | done | rfl | (simp only [List.length_drop, List.length_take]; rfl)) ?_; (with_reducible refine (stolonref01_Asked.calls a0_1 false _ A2.out).mono ?_); rintro e w' ⟨rfl, ⟨nd, rfl⟩⟩; refine ⟨_, rfl, ?_⟩))
     go_ret
     exact ⟨by first | rfl | (simp [errW_none, errW_some] <;> rfl) | (simp [*, errW_none, errW_some] <;> rfl), by repeat (first | (with_reducible first | exact HB.out | apply below_alloc | apply pw_below_drewN | apply below_drew1 | refine below_set ?_ GE331.out) | exact HB.out)⟩
 · rw [if_neg c3] at H
   have c3b0 : decide (1 ≤ a0_0) = false := decide_eq_false c3
   clear c3
   obtain rfl := Option.some.inj H
   go_enter Try.func28, Try.ntmps28
   go_wp2_with (first | ((with_reducible refine gate_dst (N := 1) rfl ?_); (try (refine gate_guard (by rfl) ?_; dsimp only)); refine box_event ?hg (N := 1) ?hd (cs := #[.int .i64 a0_0, .int .u32 a0_1, .bool a0_2, .slice A0_3 l0_3.length c0_3]) (t := 42) ?hr ?_; (case hd => rfl); (case hg => rfl); (case hr => first | (go_simp; done) | (go_simp; rfl)); intro gb331 hg w13 hbox hb; have n0_ := Aside0.mk (below_step HB.out hb); have n1_ := Aside0.mk (hbox); have n2_ := Aside0.mk ((by rw [hg]; exact (below_size HB.out) : w.heap.size ≤ gb331)); have n3_ := Aside0.mk ((by rw [hg]; exact (below_size HB.out) : w.heap.size ≤ gb331)); clear HB; have HB := n0_; have BK331 := n1_; have GW331 := n2_; have GE331 := n3_; clear n0_ n1_ n2_ n3_; clear hb hbox hg; obtain ⟨hcz14_0, hcz14_1, hcz14_2, hcz14_3, hfz14_0, hfz14_1, hfz14_2, hfz14_3⟩ := cf4 BK331.out) | ((with_reducible refine gate_callee (f := 49) rfl ?_); refine goesL_ (some 6) rfl rfl Try.func49 (by kernel_rfl) rfl #[.int .u32 a0_1] rfl (by (try simp only [List.map_toArray, List.map_cons, List.map_nil]); first | done | rfl | (simp only [List.length_drop, List.length_take]; rfl)) ?_; (with_reducible refine (stolonref01_Asked.calls a0_1 t332 _ A2.out).mono ?_); rintro e w' ⟨rfl, ⟨nd, rfl⟩⟩; refine ⟨_, rfl, ?_⟩))
   go_ret
   exact ⟨by first | rfl | (simp [errW_none, errW_some] <;> rfl) | (simp [*, errW_none, errW_some] <;> rfl), by repeat (first | (with_reducible first | exact HB.out | apply below_alloc | apply pw_below_drewN | apply below_drew1 | refine below_set ?_ GE331.out) | exact HB.out)⟩
/-! ### stolonref07_Right: function 14 -/
def stolonref07_Right.l0 : Nat → Int → List (S42) → Option (Bool)
 | 0, _, _ => none
 | k + 1, x3, x335000 => if x3 < (x335000.length : Int) then (if 0 ≤ x3 then ((stolonref07_socket.f k ((rd_T42 x335000 x3).f0) ((rd_T42 x335000 x3).f1) ((rd_T42 x335000 x3).f2.f0) ((rd_T42 x335000 x3).f2.f1)).bind fun t336 => (if t336 = true then (if x3 > 0 then (if 0 ≤ (wrap64 (x3 - 1)) then (if (wrap64 (x3 - 1)) < (x335000.length : Int) then (if ((rd_T42 x335000 x3).f0) ≤ ((rd_T42 x335000 (wrap64 (x3 - 1))).f0) then (some false) else (stolonref07_Right.l0 k (wrap64 (x3 + 1)) x335000)) else (none)) else (none)) else (stolonref07_Right.l0 k (wrap64 (x3 + 1)) x335000)) else (some false))) else (none)) else (some (decide ((x335000.length : Int) ≤ 32)))
def stolonref07_Right.f (k : Nat) (l0_0 : List (S42)) : Option (Bool) := stolonref07_Right.l0 k 0 l0_0
theorem stolonref07_Right.mono_l : ∀ k, (∀ y0 y1, LeO (stolonref07_Right.l0 k y0 y1) (stolonref07_Right.l0 (k + 1) y0 y1))
 | 0 => fun _ _ r h => by simp [stolonref07_Right.l0] at h
 | k + 1 => by
  have ih0 := stolonref07_Right.mono_l k
  · intro y0 y1
    unfold stolonref07_Right.l0
    repeat' first
    | (with_reducible exact ih0 _ _)
    | (with_reducible exact stolonref07_socket.mono _ _ _ _ _)
    | (with_reducible exact LeO.refl _)
    | (with_reducible exact LeO.none _)
    | (with_reducible refine LeO.ite ?_ ?_)
    | (with_reducible refine LeO.bind ?_ (fun _ => ?_))
    | exact ih0 _ _
    | exact stolonref07_socket.mono _ _ _ _ _
    | exact LeO.none _
    | refine LeO.ite ?_ ?_
    | refine LeO.bind ?_ (fun _ => ?_)
theorem stolonref07_Right.mono : ∀ a0 k, LeO (stolonref07_Right.f k a0) (stolonref07_Right.f (k + 1) a0) := by
 intro a0 k
 have ih0 := stolonref07_Right.mono_l k
 unfold stolonref07_Right.f
 repeat' first
  | (with_reducible exact ih0 _ _)
  | (with_reducible exact stolonref07_socket.mono _ _ _ _ _)
  | (with_reducible exact LeO.refl _)
  | (with_reducible exact LeO.none _)
  | (with_reducible refine LeO.ite ?_ ?_)
  | (with_reducible refine LeO.bind ?_ (fun _ => ?_))
  | exact ih0 _ _
  | exact stolonref07_socket.mono _ _ _ _ _
  | exact LeO.none _
  | refine LeO.ite ?_ ?_
  | refine LeO.bind ?_ (fun _ => ?_)
set_option maxHeartbeats 8000000 in
set_option maxRecDepth 100000 in
theorem stolonref07_Right.calls (k : Nat) (A0_0 : Option Addr) (c0_0 : Nat) (l0_0 : List (S42)) (r : Bool) (w : World) (hr0_0 : Kd.C k42 w A0_0 l0_0.length l0_0) (hc0_0 : l0_0.length ≤ c0_0) (h : stolonref07_Right.f k l0_0 = some r) :
 Calls Try.prog 14 #[.agg #[.slice A0_0 l0_0.length c0_0]] w fun e w' => e = .returned (.bool r) ∧ Below w.heap.size w w' := by
 have hu40 := Try.underlying40
 have hu42 := Try.underlying42
 have HR0_0 := Aside0.mk hr0_0
 have HC0_0 := Aside0.mk hc0_0
 clear hr0_0 hc0_0
 have HB := Aside0.mk (Below.refl w.heap.size w)
 have H : (stolonref07_Right.l0 k 0 l0_0) = some r := h
 clear h
 have H' := Aside0.mk H
 clear H
 go_enter Try.func14, Try.ntmps14
 go_wp2_with (first | ((with_reducible refine gate_dst (N := 1) rfl ?_); refine box_event ?hg (N := 1) ?hd (cs := #[.slice A0_0 l0_0.length c0_0]) (t := 40) ?hr ?_; (case hd => rfl); (case hg => rfl); (case hr => first | (go_simp; done) | (go_simp; rfl)); intro gb334 hg w2 hbox hb; have n0_ := Aside0.mk (below_step HB.out hb); have n1_ := Aside0.mk (hbox); have n2_ := Aside0.mk ((by rw [hg]; exact (below_size HB.out) : w.heap.size ≤ gb334)); have n3_ := Aside0.mk ((by rw [hg]; exact (below_size HB.out) : w.heap.size ≤ gb334)); clear HB; have HB := n0_; have BK334 := n1_; have GW334 := n2_; have GE334 := n3_; clear n0_ n1_ n2_ n3_; clear hb hbox hg))
 repeat (go_quiet (first | ((with_reducible refine gate_dst (N := 1) rfl ?_); refine box_event ?hg (N := 1) ?hd (cs := #[.slice A0_0 l0_0.length c0_0]) (t := 40) ?hr ?_; (case hd => rfl); (case hg => rfl); (case hr => first | (go_simp; done) | (go_simp; rfl)); intro gb334 hg w2 hbox hb; have n0_ := Aside0.mk (below_step HB.out hb); have n1_ := Aside0.mk (hbox); have n2_ := Aside0.mk ((by rw [hg]; exact (below_size HB.out) : w.heap.size ≤ gb334)); have n3_ := Aside0.mk ((by rw [hg]; exact (below_size HB.out) : w.heap.size ≤ gb334)); clear HB; have HB := n0_; have BK334 := n1_; have GW334 := n2_; have GE334 := n3_; clear n0_ n1_ n2_ n3_; clear hb hbox hg)); try go_wp2_with (first | ((with_reducible refine gate_dst (N := 1) rfl ?_); refine box_event ?hg (N := 1) ?hd (cs := #[.slice A0_0 l0_0.length c0_0]) (t := 40) ?hr ?_; (case hd => rfl); (case hg => rfl); (case hr => first | (go_simp; done) | (go_simp; rfl)); intro gb334 hg w2 hbox hb; have n0_ := Aside0.mk (below_step HB.out hb); have n1_ := Aside0.mk (hbox); have n2_ := Aside0.mk ((by rw [hg]; exact (below_size HB.out) : w.heap.size ≤ gb334)); have n3_ := Aside0.mk ((by rw [hg]; exact (below_size HB.out) : w.heap.size ≤ gb334)); clear HB; have HB := n0_; have BK334 := n1_; have GW334 := n2_; have GE334 := n3_; clear n0_ n1_ n2_ n3_; clear hb hbox hg)))
 go_loopg [3] k (fun kq v3 w' => ∃ (x3_1 : Int), v3 = .int .i64 x3_1 ∧ Aside0 (stolonref07_Right.l0 kq x3_1 l0_0 = some r) ∧ Aside0 (kq ≤ k) ∧ Aside0 (w'.heap[gb334]? = some (.cells #[(.slice A0_0 l0_0.length c0_0)] 40 (0, 0))) ∧ Aside0 (Below w.heap.size w w'))
 case atStart => exact ⟨(0), (by first | rfl | (simp; done) | (simp [*]; done)), H', ⟨Nat.le_refl _⟩, ⟨BK334.out⟩, ⟨HB.out⟩⟩
 case round =>
  clear H'
  try clear c1
  try clear p2
  obtain ⟨x3_1, rfl, HA, HK1, BK334, HB⟩ := hrel
  cases gk with
  | zero => exact absurd HA.out (by simp [stolonref07_Right.l0])
  | succ k1 =>
   have H := HA.out
   clear HA
   simp only [stolonref07_Right.l0] at H
   by_cases c3 : x3_1 < (l0_0.length : Int)
   · rw [if_pos c3] at H
     have c3b0 : decide (x3_1 < (l0_0.length : Int)) = true := decide_eq_true c3
     clear c3
     by_cases c4 : 0 ≤ x3_1
     case neg => rw [if_neg c4] at H; exact absurd H (by simp)
     rw [if_pos c4] at H
     have c4b0 : decide (0 ≤ x3_1) = true := decide_eq_true c4
     clear c4
     replace H := Option.bind_eq_some_iff.mp H
     obtain ⟨t336, A50, H⟩ := H
     replace H : (if t336 = true then (if x3_1 > 0 then (if 0 ≤ (wrap64 (x3_1 - 1)) then (if (wrap64 (x3_1 - 1)) < (l0_0.length : Int) then (if ((rd_T42 l0_0 x3_1).f0) ≤ ((rd_T42 l0_0 (wrap64 (x3_1 - 1))).f0) then (some false) else (stolonref07_Right.l0 k1 (wrap64 (x3_1 + 1)) l0_0)) else (none)) else (none)) else (stolonref07_Right.l0 k1 (wrap64 (x3_1 + 1)) l0_0)) else (some false)) = some r := H
     have A5 := Aside0.mk A50
     clear A50
     by_cases c6 : t336 = true
     · subst c6
       have H1 : (if x3_1 > 0 then (if 0 ≤ (wrap64 (x3_1 - 1)) then (if (wrap64 (x3_1 - 1)) < (l0_0.length : Int) then (if ((rd_T42 l0_0 x3_1).f0) ≤ ((rd_T42 l0_0 (wrap64 (x3_1 - 1))).f0) then (some false) else (stolonref07_Right.l0 k1 (wrap64 (x3_1 + 1)) l0_0)) else (none)) else (none)) else (stolonref07_Right.l0 k1 (wrap64 (x3_1 + 1)) l0_0)) = some r := by rw [if_pos rfl] at H; exact H
       clear H
       have H := H1
       clear H1
       by_cases c7 : x3_1 > 0
       · rw [if_pos c7] at H
         have c7b0 : decide (0 < x3_1) = true := decide_eq_true c7
         clear c7
         obtain ⟨ji8, hji8⟩ : ∃ j_ : Int, (wrap64 (x3_1 - 1)) = j_ := ⟨_, rfl⟩
         replace H : (if 0 ≤ (ji8) then (if (ji8) < (l0_0.length : Int) then (if ((rd_T42 l0_0 x3_1).f0) ≤ ((rd_T42 l0_0 (ji8)).f0) then (some false) else (stolonref07_Right.l0 k1 (wrap64 (x3_1 + 1)) l0_0)) else (none)) else (none)) = some r := by first | (rw [hji8] at H; exact H) | (simp only [hji8] at H ⊢; exact H)
         (try rw [hji8] at A5)
         have hji8w : (IntKind.i64.wrap (x3_1 - 1)) = ji8 := (i64_w _).trans hji8
         by_cases c9 : 0 ≤ (ji8)
         case neg => rw [if_neg c9] at H; exact absurd H (by simp)
         rw [if_pos c9] at H
         have c9b0 : decide (0 ≤ (ji8)) = true := decide_eq_true c9
         clear c9
         by_cases c10 : (ji8) < (l0_0.length : Int)
         case neg => rw [if_neg c10] at H; exact absurd H (by simp)
         rw [if_pos c10] at H
         have c10b0 : decide ((ji8) < (l0_0.length : Int)) = true := decide_eq_true c10
         clear c10
         by_cases c11 : ((rd_T42 l0_0 x3_1).f0) ≤ ((rd_T42 l0_0 (ji8)).f0)
         · rw [if_pos c11] at H
           have c11b0 : decide (((rd_T42 l0_0 x3_1).f0) ≤ ((rd_T42 l0_0 (ji8)).f0)) = true := decide_eq_true c11
           clear c11
           obtain rfl := Option.some.inj H
           have hcz12_0 : wr.cell? ⟨gb334, 0, none⟩ = some (.slice A0_0 l0_0.length c0_0) := (blk_cell BK334.out 0).trans rfl
           have hfz12_0 := blk_frozen BK334.out 0
           have p335 : 0 ≤ (x3_1 : Int) := of_decide_eq_true (by first | (with_reducible assumption) | assumption)
           have q335 : x3_1 < (l0_0.length : Int) := of_decide_eq_true (by first | (with_reducible assumption) | assumption)
           obtain ⟨ad335, A335_3, c335_3, e335, hx335_0, hx335_1, hx335_2, hx335_3, hl335_3, hi335_3⟩ := at_T42 HR0_0.out x3_1 p335 q335
           cases e335
           replace hx335_0 := (HB.out.cell (World.block_lt_of_cell? w _ hx335_0)).trans hx335_0
           replace hx335_1 := (HB.out.cell (World.block_lt_of_cell? w _ hx335_1)).trans hx335_1
           replace hx335_2 := (HB.out.cell (World.block_lt_of_cell? w _ hx335_2)).trans hx335_2
           replace hx335_3 := (HB.out.cell (World.block_lt_of_cell? w _ hx335_3)).trans hx335_3
           have HR335_3 := Aside0.mk hi335_3
           have HC335_3 := Aside0.mk hl335_3
           clear hi335_3 hl335_3
           replace p335 := eq_true p335
           replace q335 := eq_true q335
           go_wp2_with (first | (go_at_call 28; (with_reducible refine (stolonref07_socket.calls k1 ((rd_T42 l0_0 x3_1).f0) ((rd_T42 l0_0 x3_1).f1) ((rd_T42 l0_0 x3_1).f2.f0) _ _ ((rd_T42 l0_0 x3_1).f2.f1) true _ ?side1 ?side2 A5.out).mono ?_); (case side1 => repeat (first | exact (Kd.C_below HR335_3.out HB.out) | (with_reducible refine Kd.C_alloc ?_ _) | (with_reducible refine Kd.C_drewN ?_ _) | (with_reducible refine Kd.C_drew ?_))); (case side2 => exact HC335_3.out); rintro e w13 ⟨rfl, hb⟩; have n0_ := Aside0.mk (blk_below BK334.out hb); have n1_ := Aside0.mk (below_step HB.out hb); clear BK334; clear HB; have BK334 := n0_; have HB := n1_; clear n0_ n1_; (try clear hb); (try clear hb2); (try clear hk); (try clear hi); have hcz14_0 : w13.cell? ⟨gb334, 0, none⟩ = some (.slice (some ad335) l0_0.length c0_0) := (blk_cell BK334.out 0).trans rfl; have hfz14_0 := blk_frozen BK334.out 0; have p337 : 0 ≤ (x3_1 : Int) := of_decide_eq_true (by first | (with_reducible assumption) | assumption); have q337 : x3_1 < (l0_0.length : Int) := of_decide_eq_true (by first | (with_reducible assumption) | assumption); obtain ⟨ad337, A337_3, c337_3, e337, hx337_0, hx337_1, hx337_2, hx337_3, hl337_3, hi337_3⟩ := at_T42 HR0_0.out x3_1 p337 q337; obtain rfl : ad335 = ad337 := (by injection e337); replace hx337_0 := (HB.out.cell (World.block_lt_of_cell? w _ hx337_0)).trans hx337_0; replace hx337_1 := (HB.out.cell (World.block_lt_of_cell? w _ hx337_1)).trans hx337_1; replace hx337_2 := (HB.out.cell (World.block_lt_of_cell? w _ hx337_2)).trans hx337_2; replace hx337_3 := (HB.out.cell (World.block_lt_of_cell? w _ hx337_3)).trans hx337_3; have HR337_3 := Aside0.mk hi337_3; have HC337_3 := Aside0.mk hl337_3; clear hi337_3 hl337_3; replace p337 := eq_true p337; replace q337 := eq_true q337; have p338 : 0 ≤ ((ji8) : Int) := of_decide_eq_true (by first | (with_reducible assumption) | assumption); have q338 : (ji8) < (l0_0.length : Int) := of_decide_eq_true (by first | (with_reducible assumption) | assumption); obtain ⟨ad338, A338_3, c338_3, e338, hx338_0, hx338_1, hx338_2, hx338_3, hl338_3, hi338_3⟩ := at_T42 HR0_0.out (ji8) p338 q338; obtain rfl : ad335 = ad338 := (by injection e338); replace hx338_0 := (HB.out.cell (World.block_lt_of_cell? w _ hx338_0)).trans hx338_0; replace hx338_1 := (HB.out.cell (World.block_lt_of_cell? w _ hx338_1)).trans hx338_1; replace hx338_2 := (HB.out.cell (World.block_lt_of_cell? w _ hx338_2)).trans hx338_2; replace hx338_3 := (HB.out.cell (World.block_lt_of_cell? w _ hx338_3)).trans hx338_3; have HR338_3 := Aside0.mk hi338_3; have HC338_3 := Aside0.mk hl338_3; clear hi338_3 hl338_3; replace p338 := eq_true p338; replace q338 := eq_true q338))
           repeat (go_quiet (first | (go_at_call 28; (with_reducible refine (stolonref07_socket.calls k1 ((rd_T42 l0_0 x3_1).f0) ((rd_T42 l0_0 x3_1).f1) ((rd_T42 l0_0 x3_1).f2.f0) _ _ ((rd_T42 l0_0 x3_1).f2.f1) true _ ?side1 ?side2 A5.out).mono ?_); (case side1 => repeat (first | exact (Kd.C_below HR335_3.out HB.out) | (with_reducible refine Kd.C_alloc ?_ _) | (with_reducible refine Kd.C_drewN ?_ _) | (with_reducible refine Kd.C_drew ?_))); (case side2 => exact HC335_3.out); rintro e w13 ⟨rfl, hb⟩; have n0_ := Aside0.mk (blk_below BK334.out hb); have n1_ := Aside0.mk (below_step HB.out hb); clear BK334; clear HB; have BK334 := n0_; have HB := n1_; clear n0_ n1_; (try clear hb); (try clear hb2); (try clear hk); (try clear hi); have hcz14_0 : w13.cell? ⟨gb334, 0, none⟩ = some (.slice (some ad335) l0_0.length c0_0) := (blk_cell BK334.out 0).trans rfl; have hfz14_0 := blk_frozen BK334.out 0; have p337 : 0 ≤ (x3_1 : Int) := of_decide_eq_true (by first | (with_reducible assumption) | assumption); have q337 : x3_1 < (l0_0.length : Int) := of_decide_eq_true (by first | (with_reducible assumption) | assumption); obtain ⟨ad337, A337_3, c337_3, e337, hx337_0, hx337_1, hx337_2, hx337_3, hl337_3, hi337_3⟩ := at_T42 HR0_0.out x3_1 p337 q337; obtain rfl : ad335 = ad337 := (by injection e337); replace hx337_0 := (HB.out.cell (World.block_lt_of_cell? w _ hx337_0)).trans hx337_0; replace hx337_1 := (HB.out.cell (World.block_lt_of_cell? w _ hx337_1)).trans hx337_1; replace hx337_2 := (HB.out.cell (World.block_lt_of_cell? w _ hx337_2)).trans hx337_2; replace hx337_3 := (HB.out.cell (World.block_lt_of_cell? w _ hx337_3)).trans hx337_3; have HR337_3 := Aside0.mk hi337_3; have HC337_3 := Aside0.mk hl337_3; clear hi337_3 hl337_3; replace p337 := eq_true p337; replace q337 := eq_true q337; have p338 : 0 ≤ ((ji8) : Int) := of_decide_eq_true (by first | (with_reducible assumption) | assumption); have q338 : (ji8) < (l0_0.length : Int) := of_decide_eq_true (by first | (with_reducible assumption) | assumption); obtain ⟨ad338, A338_3, c338_3, e338, hx338_0, hx338_1, hx338_2, hx338_3, hl338_3, hi338_3⟩ := at_T42 HR0_0.out (ji8) p338 q338; obtain rfl : ad335 = ad338 := (by injection e338); replace hx338_0 := (HB.out.cell (World.block_lt_of_cell? w _ hx338_0)).trans hx338_0; replace hx338_1 := (HB.out.cell (World.block_lt_of_cell? w _ hx338_1)).trans hx338_1; replace hx338_2 := (HB.out.cell (World.block_lt_of_cell? w _ hx338_2)).trans hx338_2; replace hx338_3 := (HB.out.cell (World.block_lt_of_cell? w _ hx338_3)).trans hx338_3; have HR338_3 := Aside0.mk hi338_3; have HC338_3 := Aside0.mk hl338_3; clear hi338_3 hl338_3; replace p338 := eq_true p338; replace q338 := eq_true q338)); try go_wp2_with (first | (go_at_call 28; (with_reducible refine (stolonref07_socket.calls k1 ((rd_T42 l0_0 x3_1).f0) ((rd_T42 l0_0 x3_1).f1) ((rd_T42 l0_0 x3_1).f2.f0) _ _ ((rd_T42 l0_0 x3_1).f2.f1) true _ ?side1 ?side2 A5.out).mono ?_); (case side1 => repeat (first | exact (Kd.C_below HR335_3.out HB.out) | (with_reducible refine Kd.C_alloc ?_ _) | (with_reducible refine Kd.C_drewN ?_ _) | (with_reducible refine Kd.C_drew ?_))); (case side2 => exact HC335_3.out); rintro e w13 ⟨rfl, hb⟩; have n0_ := Aside0.mk (blk_below BK334.out hb); have n1_ := Aside0.mk (below_step HB.out hb); clear BK334; clear HB; have BK334 := n0_; have HB := n1_; clear n0_ n1_; (try clear hb); (try clear hb2); (try clear hk); (try clear hi); have hcz14_0 : w13.cell? ⟨gb334, 0, none⟩ = some (.slice (some ad335) l0_0.length c0_0) := (blk_cell BK334.out 0).trans rfl; have hfz14_0 := blk_frozen BK334.out 0; have p337 : 0 ≤ (x3_1 : Int) := of_decide_eq_true (by first | (with_reducible assumption) | assumption); have q337 : x3_1 < (l0_0.length : Int) := of_decide_eq_true (by first | (with_reducible assumption) | assumption); obtain ⟨ad337, A337_3, c337_3, e337, hx337_0, hx337_1, hx337_2, hx337_3, hl337_3, hi337_3⟩ := at_T42 HR0_0.out x3_1 p337 q337; obtain rfl : ad335 = ad337 := (by injection e337); replace hx337_0 := (HB.out.cell (World.block_lt_of_cell? w _ hx337_0)).trans hx337_0; replace hx337_1 := (HB.out.cell (World.block_lt_of_cell? w _ hx337_1)).trans hx337_1; replace hx337_2 := (HB.out.cell (World.block_lt_of_cell? w _ hx337_2)).trans hx337_2; replace hx337_3 := (HB.out.cell (World.block_lt_of_cell? w _ hx337_3)).trans hx337_3; have HR337_3 := Aside0.mk hi337_3; have HC337_3 := Aside0.mk hl337_3; clear hi337_3 hl337_3; replace p337 := eq_true p337; replace q337 := eq_true q337; have p338 : 0 ≤ ((ji8) : Int) := of_decide_eq_true (by first | (with_reducible assumption) | assumption); have q338 : (ji8) < (l0_0.length : Int) := of_decide_eq_true (by first | (with_reducible assumption) | assumption); obtain ⟨ad338, A338_3, c338_3, e338, hx338_0, hx338_1, hx338_2, hx338_3, hl338_3, hi338_3⟩ := at_T42 HR0_0.out (ji8) p338 q338; obtain rfl : ad335 = ad338 := (by injection e338); replace hx338_0 := (HB.out.cell (World.block_lt_of_cell? w _ hx338_0)).trans hx338_0; replace hx338_1 := (HB.out.cell (World.block_lt_of_cell? w _ hx338_1)).trans hx338_1; replace hx338_2 := (HB.out.cell (World.block_lt_of_cell? w _ hx338_2)).trans hx338_2; replace hx338_3 := (HB.out.cell (World.block_lt_of_cell? w _ hx338_3)).trans hx338_3; have HR338_3 := Aside0.mk hi338_3; have HC338_3 := Aside0.mk hl338_3; clear hi338_3 hl338_3; replace p338 := eq_true p338; replace q338 := eq_true q338)))
           go_ret
           exact ⟨by first | rfl | (simp [errW_none, errW_some] <;> rfl) | (simp only [← hji8]; first | rfl | (simp [errW_none, errW_some] <;> rfl)) | (simp [*, errW_none, errW_some] <;> rfl), by repeat (first | (with_reducible first | exact HB.out | apply below_alloc | apply pw_below_drewN | apply below_drew1 | refine below_set ?_ GE334.out) | exact HB.out)⟩
         · rw [if_neg c11] at H
           have c11b0 : decide (((rd_T42 l0_0 x3_1).f0) ≤ ((rd_T42 l0_0 (ji8)).f0)) = false := decide_eq_false c11
           clear c11
           have H' := Aside0.mk H
           clear H
           have hcz15_0 : wr.cell? ⟨gb334, 0, none⟩ = some (.slice A0_0 l0_0.length c0_0) := (blk_cell BK334.out 0).trans rfl
           have hfz15_0 := blk_frozen BK334.out 0
           have p335 : 0 ≤ (x3_1 : Int) := of_decide_eq_true (by first | (with_reducible assumption) | assumption)
           have q335 : x3_1 < (l0_0.length : Int) := of_decide_eq_true (by first | (with_reducible assumption) | assumption)
           obtain ⟨ad335, A335_3, c335_3, e335, hx335_0, hx335_1, hx335_2, hx335_3, hl335_3, hi335_3⟩ := at_T42 HR0_0.out x3_1 p335 q335
           cases e335
           replace hx335_0 := (HB.out.cell (World.block_lt_of_cell? w _ hx335_0)).trans hx335_0
           replace hx335_1 := (HB.out.cell (World.block_lt_of_cell? w _ hx335_1)).trans hx335_1
           replace hx335_2 := (HB.out.cell (World.block_lt_of_cell? w _ hx335_2)).trans hx335_2
           replace hx335_3 := (HB.out.cell (World.block_lt_of_cell? w _ hx335_3)).trans hx335_3
           have HR335_3 := Aside0.mk hi335_3
           have HC335_3 := Aside0.mk hl335_3
           clear hi335_3 hl335_3
           replace p335 := eq_true p335
           replace q335 := eq_true q335
           go_wp2_with (first | (go_at_call 28; (with_reducible refine (stolonref07_socket.calls k1 ((rd_T42 l0_0 x3_1).f0) ((rd_T42 l0_0 x3_1).f1) ((rd_T42 l0_0 x3_1).f2.f0) _ _ ((rd_T42 l0_0 x3_1).f2.f1) true _ ?side1 ?side2 A5.out).mono ?_); (case side1 => repeat (first | exact (Kd.C_below HR335_3.out HB.out) | (with_reducible refine Kd.C_alloc ?_ _) | (with_reducible refine Kd.C_drewN ?_ _) | (with_reducible refine Kd.C_drew ?_))); (case side2 => exact HC335_3.out); rintro e w16 ⟨rfl, hb⟩; have n0_ := Aside0.mk (blk_below BK334.out hb); have n1_ := Aside0.mk (below_step HB.out hb); clear BK334; clear HB; have BK334 := n0_; have HB := n1_; clear n0_ n1_; (try clear hb); (try clear hb2); (try clear hk); (try clear hi); have hcz17_0 : w16.cell? ⟨gb334, 0, none⟩ = some (.slice (some ad335) l0_0.length c0_0) := (blk_cell BK334.out 0).trans rfl; have hfz17_0 := blk_frozen BK334.out 0; have p337 : 0 ≤ (x3_1 : Int) := of_decide_eq_true (by first | (with_reducible assumption) | assumption); have q337 : x3_1 < (l0_0.length : Int) := of_decide_eq_true (by first | (with_reducible assumption) | assumption); obtain ⟨ad337, A337_3, c337_3, e337, hx337_0, hx337_1, hx337_2, hx337_3, hl337_3, hi337_3⟩ := at_T42 HR0_0.out x3_1 p337 q337; obtain rfl : ad335 = ad337 := (by injection e337); replace hx337_0 := (HB.out.cell (World.block_lt_of_cell? w _ hx337_0)).trans hx337_0; replace hx337_1 := (HB.out.cell (World.block_lt_of_cell? w _ hx337_1)).trans hx337_1; replace hx337_2 := (HB.out.cell (World.block_lt_of_cell? w _ hx337_2)).trans hx337_2; replace hx337_3 := (HB.out.cell (World.block_lt_of_cell? w _ hx337_3)).trans hx337_3; have HR337_3 := Aside0.mk hi337_3; have HC337_3 := Aside0.mk hl337_3; clear hi337_3 hl337_3; replace p337 := eq_true p337; replace q337 := eq_true q337; have p338 : 0 ≤ ((ji8) : Int) := of_decide_eq_true (by first | (with_reducible assumption) | assumption); have q338 : (ji8) < (l0_0.length : Int) := of_decide_eq_true (by first | (with_reducible assumption) | assumption); obtain ⟨ad338, A338_3, c338_3, e338, hx338_0, hx338_1, hx338_2, hx338_3, hl338_3, hi338_3⟩ := at_T42 HR0_0.out (ji8) p338 q338; obtain rfl : ad335 = ad338 := (by injection e338); replace hx338_0 := (HB.out.cell (World.block_lt_of_cell? w _ hx338_0)).trans hx338_0; replace hx338_1 := (HB.out.cell (World.block_lt_of_cell? w _ hx338_1)).trans hx338_1; replace hx338_2 := (HB.out.cell (World.block_lt_of_cell? w _ hx338_2)).trans hx338_2; replace hx338_3 := (HB.out.cell (World.block_lt_of_cell? w _ hx338_3)).trans hx338_3; have HR338_3 := Aside0.mk hi338_3; have HC338_3 := Aside0.mk hl338_3; clear hi338_3 hl338_3; replace p338 := eq_true p338; replace q338 := eq_true q338))
           repeat (go_quiet (first | (go_at_call 28; (with_reducible refine (stolonref07_socket.calls k1 ((rd_T42 l0_0 x3_1).f0) ((rd_T42 l0_0 x3_1).f1) ((rd_T42 l0_0 x3_1).f2.f0) _ _ ((rd_T42 l0_0 x3_1).f2.f1) true _ ?side1 ?side2 A5.out).mono ?_); (case side1 => repeat (first | exact (Kd.C_below HR335_3.out HB.out) | (with_reducible refine Kd.C_alloc ?_ _) | (with_reducible refine Kd.C_drewN ?_ _) | (with_reducible refine Kd.C_drew ?_))); (case side2 => exact HC335_3.out); rintro e w16 ⟨rfl, hb⟩; have n0_ := Aside0.mk (blk_below BK334.out hb); have n1_ := Aside0.mk (below_step HB.out hb); clear BK334; clear HB; have BK334 := n0_; have HB := n1_; clear n0_ n1_; (try clear hb); (try clear hb2); (try clear hk); (try clear hi); have hcz17_0 : w16.cell? ⟨gb334, 0, none⟩ = some (.slice (some ad335) l0_0.length c0_0) := (blk_cell BK334.out 0).trans rfl; have hfz17_0 := blk_frozen BK334.out 0; have p337 : 0 ≤ (x3_1 : Int) := of_decide_eq_true (by first | (with_reducible assumption) | assumption); have q337 : x3_1 < (l0_0.length : Int) := of_decide_eq_true (by first | (with_reducible assumption) | assumption); obtain ⟨ad337, A337_3, c337_3, e337, hx337_0, hx337_1, hx337_2, hx337_3, hl337_3, hi337_3⟩ := at_T42 HR0_0.out x3_1 p337 q337; obtain rfl : ad335 = ad337 := (by injection e337); replace hx337_0 := (HB.out.cell (World.block_lt_of_cell? w _ hx337_0)).trans hx337_0; replace hx337_1 := (HB.out.cell (World.block_lt_of_cell? w _ hx337_1)).trans hx337_1; replace hx337_2 := (HB.out.cell (World.block_lt_of_cell? w _ hx337_2)).trans hx337_2; replace hx337_3 := (HB.out.cell (World.block_lt_of_cell? w _ hx337_3)).trans hx337_3; have HR337_3 := Aside0.mk hi337_3; have HC337_3 := Aside0.mk hl337_3; clear hi337_3 hl337_3; replace p337 := eq_true p337; replace q337 := eq_true q337; have p338 : 0 ≤ ((ji8) : Int) := of_decide_eq_true (by first | (with_reducible assumption) | assumption); have q338 : (ji8) < (l0_0.length : Int) := of_decide_eq_true (by first | (with_reducible assumption) | assumption); obtain ⟨ad338, A338_3, c338_3, e338, hx338_0, hx338_1, hx338_2, hx338_3, hl338_3, hi338_3⟩ := at_T42 HR0_0.out (ji8) p338 q338; obtain rfl : ad335 = ad338 := (by injection e338); replace hx338_0 := (HB.out.cell (World.block_lt_of_cell? w _ hx338_0)).trans hx338_0; replace hx338_1 := (HB.out.cell (World.block_lt_of_cell? w _ hx338_1)).trans hx338_1; replace hx338_2 := (HB.out.cell (World.block_lt_of_cell? w _ hx338_2)).trans hx338_2; replace hx338_3 := (HB.out.cell (World.block_lt_of_cell? w _ hx338_3)).trans hx338_3; have HR338_3 := Aside0.mk hi338_3; have HC338_3 := Aside0.mk hl338_3; clear hi338_3 hl338_3; replace p338 := eq_true p338; replace q338 := eq_true q338)); try go_wp2_with (first | (go_at_call 28; (with_reducible refine (stolonref07_socket.calls k1 ((rd_T42 l0_0 x3_1).f0) ((rd_T42 l0_0 x3_1).f1) ((rd_T42 l0_0 x3_1).f2.f0) _ _ ((rd_T42 l0_0 x3_1).f2.f1) true _ ?side1 ?side2 A5.out).mono ?_); (case side1 => repeat (first | exact (Kd.C_below HR335_3.out HB.out) | (with_reducible refine Kd.C_alloc ?_ _) | (with_reducible refine Kd.C_drewN ?_ _) | (with_reducible refine Kd.C_drew ?_))); (case side2 => exact HC335_3.out); rintro e w16 ⟨rfl, hb⟩; have n0_ := Aside0.mk (blk_below BK334.out hb); have n1_ := Aside0.mk (below_step HB.out hb); clear BK334; clear HB; have BK334 := n0_; have HB := n1_; clear n0_ n1_; (try clear hb); (try clear hb2); (try clear hk); (try clear hi); have hcz17_0 : w16.cell? ⟨gb334, 0, none⟩ = some (.slice (some ad335) l0_0.length c0_0) := (blk_cell BK334.out 0).trans rfl; have hfz17_0 := blk_frozen BK334.out 0; have p337 : 0 ≤ (x3_1 : Int) := of_decide_eq_true (by first | (with_reducible assumption) | assumption); have q337 : x3_1 < (l0_0.length : Int) := of_decide_eq_true (by first | (with_reducible assumption) | assumption); obtain ⟨ad337, A337_3, c337_3, e337, hx337_0, hx337_1, hx337_2, hx337_3, hl337_3, hi337_3⟩ := at_T42 HR0_0.out x3_1 p337 q337; obtain rfl : ad335 = ad337 := (by injection e337); replace hx337_0 := (HB.out.cell (World.block_lt_of_cell? w _ hx337_0)).trans hx337_0; replace hx337_1 := (HB.out.cell (World.block_lt_of_cell? w _ hx337_1)).trans hx337_1; replace hx337_2 := (HB.out.cell (World.block_lt_of_cell? w _ hx337_2)).trans hx337_2; replace hx337_3 := (HB.out.cell (World.block_lt_of_cell? w _ hx337_3)).trans hx337_3; have HR337_3 := Aside0.mk hi337_3; have HC337_3 := Aside0.mk hl337_3; clear hi337_3 hl337_3; replace p337 := eq_true p337; replace q337 := eq_true q337; have p338 : 0 ≤ ((ji8) : Int) := of_decide_eq_true (by first | (with_reducible assumption) | assumption); have q338 : (ji8) < (l0_0.length : Int) := of_decide_eq_true (by first | (with_reducible assumption) | assumption); obtain ⟨ad338, A338_3, c338_3, e338, hx338_0, hx338_1, hx338_2, hx338_3, hl338_3, hi338_3⟩ := at_T42 HR0_0.out (ji8) p338 q338; obtain rfl : ad335 = ad338 := (by injection e338); replace hx338_0 := (HB.out.cell (World.block_lt_of_cell? w _ hx338_0)).trans hx338_0; replace hx338_1 := (HB.out.cell (World.block_lt_of_cell? w _ hx338_1)).trans hx338_1; replace hx338_2 := (HB.out.cell (World.block_lt_of_cell? w _ hx338_2)).trans hx338_2; replace hx338_3 := (HB.out.cell (World.block_lt_of_cell? w _ hx338_3)).trans hx338_3; have HR338_3 := Aside0.mk hi338_3; have HC338_3 := Aside0.mk hl338_3; clear hi338_3 hl338_3; replace p338 := eq_true p338; replace q338 := eq_true q338)))
           go_roundg k1
           case measure => have := HK1.out; omega
           case rel => exact ⟨(wrap64 (x3_1 + 1)), (by first | rfl | (simp; done) | (simp [*]; done)), H', ⟨by have := HK1.out; omega⟩, ⟨by (with_reducible repeat (first | refine blk_drewN ?_ _ | refine blk_drew ?_ | refine blk_alloc ?_ _)); exact BK334.out⟩, ⟨by repeat (first | (with_reducible first | exact HB.out | apply below_alloc | apply pw_below_drewN | apply below_drew1 | refine below_set ?_ GE334.out) | exact HB.out)⟩⟩
       · rw [if_neg c7] at H
         have c7b0 : decide (0 < x3_1) = false := decide_eq_false c7
         clear c7
         have H' := Aside0.mk H
         clear H
         have hcz18_0 : wr.cell? ⟨gb334, 0, none⟩ = some (.slice A0_0 l0_0.length c0_0) := (blk_cell BK334.out 0).trans rfl
         have hfz18_0 := blk_frozen BK334.out 0
         have p335 : 0 ≤ (x3_1 : Int) := of_decide_eq_true (by first | (with_reducible assumption) | assumption)
         have q335 : x3_1 < (l0_0.length : Int) := of_decide_eq_true (by first | (with_reducible assumption) | assumption)
         obtain ⟨ad335, A335_3, c335_3, e335, hx335_0, hx335_1, hx335_2, hx335_3, hl335_3, hi335_3⟩ := at_T42 HR0_0.out x3_1 p335 q335
         cases e335
         replace hx335_0 := (HB.out.cell (World.block_lt_of_cell? w _ hx335_0)).trans hx335_0
         replace hx335_1 := (HB.out.cell (World.block_lt_of_cell? w _ hx335_1)).trans hx335_1
         replace hx335_2 := (HB.out.cell (World.block_lt_of_cell? w _ hx335_2)).trans hx335_2
         replace hx335_3 := (HB.out.cell (World.block_lt_of_cell? w _ hx335_3)).trans hx335_3
         have HR335_3 := Aside0.mk hi335_3
         have HC335_3 := Aside0.mk hl335_3
         clear hi335_3 hl335_3
         replace p335 := eq_true p335
         replace q335 := eq_true q335
         go_wp2_with (first | (go_at_call 28; (with_reducible refine (stolonref07_socket.calls k1 ((rd_T42 l0_0 x3_1).f0) ((rd_T42 l0_0 x3_1).f1) ((rd_T42 l0_0 x3_1).f2.f0) _ _ ((rd_T42 l0_0 x3_1).f2.f1) true _ ?side1 ?side2 A5.out).mono ?_); (case side1 => repeat (first | exact (Kd.C_below HR335_3.out HB.out) | (with_reducible refine Kd.C_alloc ?_ _) | (with_reducible refine Kd.C_drewN ?_ _) | (with_reducible refine Kd.C_drew ?_))); (case side2 => exact HC335_3.out); rintro e w19 ⟨rfl, hb⟩; have n0_ := Aside0.mk (blk_below BK334.out hb); have n1_ := Aside0.mk (below_step HB.out hb); clear BK334; clear HB; have BK334 := n0_; have HB := n1_; clear n0_ n1_; (try clear hb); (try clear hb2); (try clear hk); (try clear hi)))
         repeat (go_quiet (first | (go_at_call 28; (with_reducible refine (stolonref07_socket.calls k1 ((rd_T42 l0_0 x3_1).f0) ((rd_T42 l0_0 x3_1).f1) ((rd_T42 l0_0 x3_1).f2.f0) _ _ ((rd_T42 l0_0 x3_1).f2.f1) true _ ?side1 ?side2 A5.out).mono ?_); (case side1 => repeat (first | exact (Kd.C_below HR335_3.out HB.out) | (with_reducible refine Kd.C_alloc ?_ _) | (with_reducible refine Kd.C_drewN ?_ _) | (with_reducible refine Kd.C_drew ?_))); (case side2 => exact HC335_3.out); rintro e w19 ⟨rfl, hb⟩; have n0_ := Aside0.mk (blk_below BK334.out hb); have n1_ := Aside0.mk (below_step HB.out hb); clear BK334; clear HB; have BK334 := n0_; have HB := n1_; clear n0_ n1_; (try clear hb); (try clear hb2); (try clear hk); (try clear hi))); try go_wp2_with (first | (go_at_call 28; (with_reducible refine (stolonref07_socket.calls k1 ((rd_T42 l0_0 x3_1).f0) ((rd_T42 l0_0 x3_1).f1) ((rd_T42 l0_0 x3_1).f2.f0) _ _ ((rd_T42 l0_0 x3_1).f2.f1) true _ ?side1 ?side2 A5.out).mono ?_); (case side1 => repeat (first | exact (Kd.C_below HR335_3.out HB.out) | (with_reducible refine Kd.C_alloc ?_ _) | (with_reducible refine Kd.C_drewN ?_ _) | (with_reducible refine Kd.C_drew ?_))); (case side2 => exact HC335_3.out); rintro e w19 ⟨rfl, hb⟩; have n0_ := Aside0.mk (blk_below BK334.out hb); have n1_ := Aside0.mk (below_step HB.out hb); clear BK334; clear HB; have BK334 := n0_; have HB := n1_; clear n0_ n1_; (try clear hb); (try clear hb2); (try clear hk); (try clear hi))))
         go_roundg k1
         case measure => have := HK1.out; omega
         case rel => exact ⟨(wrap64 (x3_1 + 1)), (by first | rfl | (simp; done) | (simp [*]; done)), H', ⟨by have := HK1.out; omega⟩, ⟨by (with_reducible repeat (first | refine blk_drewN ?_ _ | refine blk_drew ?_ | refine blk_alloc ?_ _)); exact BK334.out⟩, ⟨by repeat (first | (with_reducible first | exact HB.out | apply below_alloc | apply pw_below_drewN | apply below_drew1 | refine below_set ?_ GE334.out) | exact HB.out)⟩⟩
     · replace c6 := Bool.eq_false_iff.mpr c6
       subst c6
       have H1 : (some false) = some r := by rw [if_neg (show ¬ (false = true) by decide)] at H; exact H
       clear H
       have H := H1
       clear H1
       obtain rfl := Option.some.inj H
       have hcz20_0 : wr.cell? ⟨gb334, 0, none⟩ = some (.slice A0_0 l0_0.length c0_0) := (blk_cell BK334.out 0).trans rfl
       have hfz20_0 := blk_frozen BK334.out 0
       have p335 : 0 ≤ (x3_1 : Int) := of_decide_eq_true (by first | (with_reducible assumption) | assumption)
       have q335 : x3_1 < (l0_0.length : Int) := of_decide_eq_true (by first | (with_reducible assumption) | assumption)
       obtain ⟨ad335, A335_3, c335_3, e335, hx335_0, hx335_1, hx335_2, hx335_3, hl335_3, hi335_3⟩ := at_T42 HR0_0.out x3_1 p335 q335
       cases e335
       replace hx335_0 := (HB.out.cell (World.block_lt_of_cell? w _ hx335_0)).trans hx335_0
       replace hx335_1 := (HB.out.cell (World.block_lt_of_cell? w _ hx335_1)).trans hx335_1
       replace hx335_2 := (HB.out.cell (World.block_lt_of_cell? w _ hx335_2)).trans hx335_2
       replace hx335_3 := (HB.out.cell (World.block_lt_of_cell? w _ hx335_3)).trans hx335_3
       have HR335_3 := Aside0.mk hi335_3
       have HC335_3 := Aside0.mk hl335_3
       clear hi335_3 hl335_3
       replace p335 := eq_true p335
       replace q335 := eq_true q335
       go_wp2_with (first | (go_at_call 28; (with_reducible refine (stolonref07_socket.calls k1 ((rd_T42 l0_0 x3_1).f0) ((rd_T42 l0_0 x3_1).f1) ((rd_T42 l0_0 x3_1).f2.f0) _ _ ((rd_T42 l0_0 x3_1).f2.f1) false _ ?side1 ?side2 A5.out).mono ?_); (case side1 => repeat (first | exact (Kd.C_below HR335_3.out HB.out) | (with_reducible refine Kd.C_alloc ?_ _) | (with_reducible refine Kd.C_drewN ?_ _) | (with_reducible refine Kd.C_drew ?_))); (case side2 => exact HC335_3.out); rintro e w21 ⟨rfl, hb⟩; have n0_ := Aside0.mk (blk_below BK334.out hb); have n1_ := Aside0.mk (below_step HB.out hb); clear BK334; clear HB; have BK334 := n0_; have HB := n1_; clear n0_ n1_; (try clear hb); (try clear hb2); (try clear hk); (try clear hi)))
       repeat (go_quiet (first | (go_at_call 28; (with_reducible refine (stolonref07_socket.calls k1 ((rd_T42 l0_0 x3_1).f0) ((rd_T42 l0_0 x3_1).f1) ((rd_T42 l0_0 x3_1).f2.f0) _ _ ((rd_T42 l0_0 x3_1).f2.f1) false _ ?side1 ?side2 A5.out).mono ?_); (case side1 => repeat (first | exact (Kd.C_below HR335_3.out HB.out) | (with_reducible refine Kd.C_alloc ?_ _) | (with_reducible refine Kd.C_drewN ?_ _) | (with_reducible refine Kd.C_drew ?_))); (case side2 => exact HC335_3.out); rintro e w21 ⟨rfl, hb⟩; have n0_ := Aside0.mk (blk_below BK334.out hb); have n1_ := Aside0.mk (below_step HB.out hb); clear BK334; clear HB; have BK334 := n0_; have HB := n1_; clear n0_ n1_; (try clear hb); (try clear hb2); (try clear hk); (try clear hi))); try go_wp2_with (first | (go_at_call 28; (with_reducible refine (stolonref07_socket.calls k1 ((rd_T42 l0_0 x3_1).f0) ((rd_T42 l0_0 x3_1).f1) ((rd_T42 l0_0 x3_1).f2.f0) _ _ ((rd_T42 l0_0 x3_1).f2.f1) false _ ?side1 ?side2 A5.out).mono ?_); (case side1 => repeat (first | exact (Kd.C_below HR335_3.out HB.out) | (with_reducible refine Kd.C_alloc ?_ _) | (with_reducible refine Kd.C_drewN ?_ _) | (with_reducible refine Kd.C_drew ?_))); (case side2 => exact HC335_3.out); rintro e w21 ⟨rfl, hb⟩; have n0_ := Aside0.mk (blk_below BK334.out hb); have n1_ := Aside0.mk (below_step HB.out hb); clear BK334; clear HB; have BK334 := n0_; have HB := n1_; clear n0_ n1_; (try clear hb); (try clear hb2); (try clear hk); (try clear hi))))
       go_ret
       exact ⟨by first | rfl | (simp [errW_none, errW_some] <;> rfl) | (simp [*, errW_none, errW_some] <;> rfl), by repeat (first | (with_reducible first | exact HB.out | apply below_alloc | apply pw_below_drewN | apply below_drew1 | refine below_set ?_ GE334.out) | exact HB.out)⟩
   · rw [if_neg c3] at H
     have c3b0 : decide (x3_1 < (l0_0.length : Int)) = false := decide_eq_false c3
     clear c3
     obtain rfl := Option.some.inj H
     have hcz22_0 : wr.cell? ⟨gb334, 0, none⟩ = some (.slice A0_0 l0_0.length c0_0) := (blk_cell BK334.out 0).trans rfl
     have hfz22_0 := blk_frozen BK334.out 0
     go_wp2
     repeat (go_quiet (fail); try go_wp2)
     go_ret
     exact ⟨by first | rfl | (simp [errW_none, errW_some] <;> rfl) | (simp [*, errW_none, errW_some] <;> rfl), by repeat (first | (with_reducible first | exact HB.out | apply below_alloc | apply pw_below_drewN | apply below_drew1 | refine below_set ?_ GE334.out) | exact HB.out)⟩
end Go.Proofs.Ytjncmiclpaodhaa.PHo
-- written by a program of this session (hprint.py), over the kit's printer
namespace Go.Proofs.Ytjncmiclpaodhaa.PHo
open Go.RowKit Go.Proofs.YtjncmiclpaodhaaW.PrintWords Go.Proofs.YtjncmiclpaodhaaW.PrintLast Go.Proofs.YtjncmiclpaodhaaW.PrintMore
attribute [local go_sem] max2_int min2_int max_two min_two max_three min_three max_four min_four   -- for this text's walks alone
set_option linter.unusedVariables false
set_option linter.unusedSimpArgs false
end Go.Proofs.Ytjncmiclpaodhaa.PHo
