/-
  HostStays, walked.
-/
import Derived.Test.YtjncmiclpaodhaaSoI
import Derived.Test.YtjncmiclpaodhaaHoZ
import Derived.Test.YtjncmiclpaodhaaHoG
import Derived.Test.YtjncmiclpaodhaaPHpa
import Derived.Test.YtjncmiclpaodhaaHoS
import Derived.Test.YtjncmiclpaodhaaHoR
import Derived.Test.YtjncmiclpaodhaaPHpd
import Derived.Test.YtjncmiclpaodhaaPHox2
import Derived.Test.YtjncmiclpaodhaaHoF
namespace Go.Proofs.Ytjncmiclpaodhaa
set_option maxHeartbeats 8000000
set_option maxRecDepth 100000
open Go.RowKit Go.Lib Go.Proofs.YtjncmiclpaodhaaW.PrintWords Go.Proofs.YtjncmiclpaodhaaW.PrintLast Go.Proofs.YtjncmiclpaodhaaW.PrintMore Go.Proofs.Ytjncmiclpaodhaa.PHo
set_option linter.unusedVariables false
set_option linter.unusedSimpArgs false
theorem same7_w {k : Nat} {l m : List S42} {b : Bool} (h : stolonref07_Same.f k l m = some b) (A : Option Addr) (c : Nat) (B : Option Addr) (d : Nat) (w : World) (hr : Kd.C k42 w A l.length l) (hc : l.length ≤ c) (hs : Kd.C k42 w B m.length m) (hd : m.length ≤ d) :
    Calls Try.prog 16 #[.agg #[.slice A l.length c], .agg #[.slice B m.length d]] w fun e w' => e = .returned (.bool b) ∧ Below w.heap.size w w' := stolonref07_Same.calls k A c l B d m b w hr hc hs hd h
end Go.Proofs.Ytjncmiclpaodhaa
-- written by a program of this session (hprint.py), over the kit's printer
namespace Go.Proofs.Ytjncmiclpaodhaa.PHo
open Go.RowKit Go.Proofs.YtjncmiclpaodhaaW.PrintWords Go.Proofs.YtjncmiclpaodhaaW.PrintLast Go.Proofs.YtjncmiclpaodhaaW.PrintMore
attribute [local go_sem] max2_int min2_int max_two min_two max_three min_three max_four min_four   -- for this text's walks alone
set_option linter.unusedVariables false
set_option linter.unusedSimpArgs false
/-! ### stolonlaw07_HostTwo: function 4 -/
end Go.Proofs.Ytjncmiclpaodhaa.PHo
/-
  HostTwo: two sockets put in any order, in plain words.
-/
namespace Go.Proofs.Ytjncmiclpaodhaa
open Go.RowKit Go.Proofs.YtjncmiclpaodhaaW.PrintWords Go.Proofs.Ytjncmiclpaodhaa.PHo
set_option linter.unusedVariables false
set_option linter.unusedSimpArgs false
theorem same6_some (a b : Bool) (l m : List Int) (hm : l.length ≤ 1000000000) (k : Nat) (hk : l.length < k) : stolonref06_Same.f k a l b m = some (decide (a = b) && decide (l = m)) := by
  unfold stolonref06_Same.f
  by_cases h : a = b
  · rw [if_pos (by simpa using h), rows_some l m hm k hk, decide_eq_true h]; rfl
  · rw [if_neg (by simpa using h), decide_eq_false h]; rfl
theorem same7_loop (l : List S42) (hl : ∀ s ∈ l, s.f2.f1.length ≤ 1000000) (hm : l.length ≤ 1000000) : ∀ n k (j : Nat), l.length ≤ j + n → n + 1000010 < k → stolonref07_Same.l0 k (j : Int) l l = some true := by
  intro n
  induction n with
  | zero =>
    intro k j hj hk
    obtain ⟨k, rfl⟩ : ∃ m, k = m + 1 := ⟨k - 1, by omega⟩
    rw [stolonref07_Same.l0, if_neg (by omega)]
  | succ n ih =>
    intro k j hj hk
    obtain ⟨k, rfl⟩ : ∃ m, k = m + 1 := ⟨k - 1, by omega⟩
    by_cases hlt : j < l.length
    case neg => rw [stolonref07_Same.l0, if_neg (by omega)]
    have e2 : wrap64 ((j : Int) + 1) = ((j + 1 : Nat) : Int) := step64 j (by omega)
    have hs := hl _ (List.getElem_mem hlt)
    rw [stolonref07_Same.l0, if_pos (by omega), if_pos (by omega), if_pos (by omega), rd42 l j hlt, same6_some _ _ _ _ (by omega) k (by omega), Option.bind_some, if_pos (by simp), if_pos rfl, if_pos rfl, e2]
    exact ih k (j + 1) (by omega) (by omega)
theorem same7_same (l : List S42) (hl : HOk l) (k : Nat) (hk : 1000100 ≤ k) : stolonref07_Same.f k l l = some true := by
  have h1 := hl.1
  unfold stolonref07_Same.f
  rw [if_pos rfl]
  exact same7_loop l (fun s hs => by have := (hl.fok s hs).2; omega) (by omega) l.length k 0 (by omega) (by omega)
theorem mem_put {l : List S42} {s x : S42} (hne : x.f0 ≠ s.f0) : x ∈ putL l s ↔ x ∈ l := by
  unfold putL
  split
  · rw [mem_ins]
    exact ⟨fun h => Or.elim h (fun e => absurd (by rw [e]) hne) (fun h => h.1), fun h => .inr ⟨h, hne⟩⟩
  · exact Iff.rfl
theorem has_put {l : List S42} {s : S42} {id : Int} (hne : id ≠ s.f0) : hasS (putL l s) id = hasS l id := by
  rw [Bool.eq_iff_iff, hasS_iff, hasS_iff]
  constructor
  · rintro ⟨x, hx, rfl⟩; exact ⟨x, (mem_put hne).1 hx, rfl⟩
  · rintro ⟨x, hx, rfl⟩; exact ⟨x, (mem_put hne).2 hx, rfl⟩
theorem clash_put {l : List S42} {s t : S42} (hne : t.f0 ≠ s.f0) : clash (putL l s) t = clash l t := by
  rw [Bool.eq_iff_iff, clash_iff, clash_iff]
  constructor
  · rintro ⟨x, hx, h1, h2⟩; exact ⟨x, (mem_put (by rw [h1]; exact hne)).1 hx, h1, h2⟩
  · rintro ⟨x, hx, h1, h2⟩; exact ⟨x, (mem_put (by rw [h1]; exact hne)).2 hx, h1, h2⟩
theorem len_put {l : List S42} (hl : HOk l) (s : S42) : (putL l s).length ≤ l.length + 1 := by
  unfold putL
  split
  · cases h : hasS l s.f0
    · rw [ins_len_new hl.2.1 h]; exact Nat.le_refl _
    · rw [ins_len_has hl.2.1 h]; omega
  · omega
theorem putE_put {l : List S42} (hl : HOk l) (h30 : l.length ≤ 30) {s t : S42} (hne : t.f0 ≠ s.f0) : putE (putL l s) t = putE l t := by
  have := len_put hl s
  unfold putE
  rw [clash_put hne, has_put hne]
  split
  · rfl
  · rw [if_neg (by omega), if_neg (by omega)]
theorem put_yes {l : List S42} {s : S42} (h : putE l s = 0) : putL l s = insS l s := if_pos h
theorem put_no {l : List S42} {s : S42} (h : ¬ putE l s = 0) : putL l s = l := if_neg h
theorem put_comm {l : List S42} (hl : HOk l) (h30 : l.length ≤ 30) {s t : S42} (hne : s.f0 ≠ t.f0) : putL (putL l s) t = putL (putL l t) s := by
  have e1 := putE_put hl h30 (s := s) (t := t) (Ne.symm hne)
  have e2 := putE_put hl h30 (s := t) (t := s) hne
  by_cases hs : putE l s = 0
  · have a1 : putL l s = insS l s := put_yes hs
    by_cases ht : putE l t = 0
    · have a2 : putL l t = insS l t := put_yes ht
      have b1 : putL (putL l s) t = insS (putL l s) t := put_yes (e1.trans ht)
      have b2 : putL (putL l t) s = insS (putL l t) s := put_yes (e2.trans hs)
      rw [b1, b2, a1, a2]
      refine sorted_ext (ins_sorted (ins_sorted hl.2.1 s) t) (ins_sorted (ins_sorted hl.2.1 t) s) fun x => ?_
      rw [mem_ins, mem_ins, mem_ins, mem_ins]
      constructor
      · rintro (rfl | ⟨rfl | ⟨h1, h2⟩, h3⟩)
        · exact .inr ⟨.inl rfl, Ne.symm hne⟩
        · exact .inl rfl
        · exact .inr ⟨.inr ⟨h1, h3⟩, h2⟩
      · rintro (rfl | ⟨rfl | ⟨h1, h2⟩, h3⟩)
        · exact .inr ⟨.inl rfl, hne⟩
        · exact .inl rfl
        · exact .inr ⟨.inr ⟨h1, h3⟩, h2⟩
    · have a2 : putL l t = l := put_no ht
      have b1 : putL (putL l s) t = putL l s := put_no (by rw [e1]; exact ht)
      rw [b1, a2]
  · have a1 : putL l s = l := put_no hs
    have b2 : putL (putL l t) s = putL l t := put_no (by rw [e2]; exact hs)
    rw [b2, a1]
end Go.Proofs.Ytjncmiclpaodhaa
/-
  HostStays, joined: the walk and what it computes.
-/
namespace Go.Proofs.Ytjncmiclpaodhaa
open Go.RowKit Go.Proofs.YtjncmiclpaodhaaW.PrintWords Go.Proofs.Ytjncmiclpaodhaa.PHo
set_option linter.unusedVariables false
set_option linter.unusedSimpArgs false
end Go.Proofs.Ytjncmiclpaodhaa
-- written by a program of this session (hprint.py), over the kit's printer
namespace Go.Proofs.Ytjncmiclpaodhaa.PHo
open Go.RowKit Go.Proofs.YtjncmiclpaodhaaW.PrintWords Go.Proofs.YtjncmiclpaodhaaW.PrintLast Go.Proofs.YtjncmiclpaodhaaW.PrintMore
attribute [local go_sem] max2_int min2_int max_two min_two max_three min_three max_four min_four   -- for this text's walks alone
set_option linter.unusedVariables false
set_option linter.unusedSimpArgs false
theorem info42 : (Try.prog.info? 42).map (fun i => (i.zero, i.size, i.bytes)) = some (some (.agg #[.int .i64 0, .int .u32 0, .bool false, .slice none 0 0]), 4, 48) := by kernel_rfl
/-! ### stolonref07_Drop: function 21 -/
def stolonref07_Drop.l0 : Nat → Int → List (S42) → Int → Int → List (S42) → Option ((List (S42)) × (List (S36)) × Int)
  | 0, _, _, _, _, _ => none
  | k + 1, x1, x7, x8, x9, x426000 => if x9 < (x426000.length : Int) then (if 0 ≤ x9 then (if ((rd_T42 x426000 x9).f0) = x1 then (stolonref07_Drop.l0 k x1 x7 ((rd_T42 x426000 x9).f1) (wrap64 (x9 + 1)) x426000) else (if x7.length < 2932031007402 then (stolonref07_Drop.l0 k x1 (x7 ++ [(⟨(rd_T42 x426000 x9).f0, (rd_T42 x426000 x9).f1, (⟨(rd_T42 x426000 x9).f2.f0, (rd_T42 x426000 x9).f2.f1⟩ : S26)⟩ : S42)]) x8 (wrap64 (x9 + 1)) x426000) else (none))) else (none)) else (if x8 = 0 then (some (x426000, ([] : List (S36)), 8)) else ((stolonref07_Wants.f k x426000 x8).bind fun bt434 => ((stolonref07_Wants.f k x7 x8).bind fun bt438 => ((stolonref07_Change.f x8 bt434.1 bt434.2 bt438.1 bt438.2).bind fun t442 => (some (x7, t442, 0))))))
def stolonref07_Drop.f (k : Nat) (l0_0 : List (S42)) (a1 : Int) : Option ((List (S42)) × (List (S36)) × Int) := stolonref07_Drop.l0 k a1 ([] : List (S42)) 0 0 l0_0
theorem stolonref07_Drop.mono_l : ∀ k, (∀ y0 y1 y2 y3 y4, LeO (stolonref07_Drop.l0 k y0 y1 y2 y3 y4) (stolonref07_Drop.l0 (k + 1) y0 y1 y2 y3 y4))
  | 0 => fun _ _ _ _ _ r h => by simp [stolonref07_Drop.l0] at h
  | k + 1 => by
    have ih0 := stolonref07_Drop.mono_l k
    · intro y0 y1 y2 y3 y4
      unfold stolonref07_Drop.l0
      repeat' first
      | (with_reducible exact ih0 _ _ _ _ _)
      | (with_reducible exact stolonref07_Wants.mono _ _ _)
      | (with_reducible exact LeO.refl _)
      | (with_reducible exact LeO.none _)
      | (with_reducible refine LeO.ite ?_ ?_)
      | (with_reducible refine LeO.bind ?_ (fun _ => ?_))
      | exact ih0 _ _ _ _ _
      | exact stolonref07_Wants.mono _ _ _
      | exact LeO.none _
      | refine LeO.ite ?_ ?_
      | refine LeO.bind ?_ (fun _ => ?_)
theorem stolonref07_Drop.mono : ∀ a0 a1 k, LeO (stolonref07_Drop.f k a0 a1) (stolonref07_Drop.f (k + 1) a0 a1) := by
  intro a0 a1 k
  have ih0 := stolonref07_Drop.mono_l k
  unfold stolonref07_Drop.f
  repeat' first
      | (with_reducible exact ih0 _ _ _ _ _)
      | (with_reducible exact stolonref07_Wants.mono _ _ _)
      | (with_reducible exact LeO.refl _)
      | (with_reducible exact LeO.none _)
      | (with_reducible refine LeO.ite ?_ ?_)
      | (with_reducible refine LeO.bind ?_ (fun _ => ?_))
      | exact ih0 _ _ _ _ _
      | exact stolonref07_Wants.mono _ _ _
      | exact LeO.none _
      | refine LeO.ite ?_ ?_
      | refine LeO.bind ?_ (fun _ => ?_)
def stolonref07_Drop.T12 : Bool × List (List Nat × List Nat) := (true, [([], []), ([], []), ([], []), ([], []), ([2, 3], [2, 3]), ([], []), ([], []), ([5, 6, 4], [5, 6]), ([1, 4, 7, 7], [1, 4, 7]), ([0, 8, 0], [0]), ([8, 9, 0, 1, 2, 3, 4, 5, 6, 7, 8, 9], [8]), ([10, 0, 1, 2, 3, 4, 5, 6, 7, 8, 9, 10], [])])
def stolonref07_Drop.B12 : List Nat := [0, 0, 0, 0, 12, 0, 0, 124, 254, 511, 1023, 2047]
theorem stolonref07_Drop.tab12 : rtab .any (opsOf Try.f21 12) = stolonref07_Drop.T12 := by kernel_rfl
theorem stolonref07_Drop.bits12 : waitsOk stolonref07_Drop.T12.2 stolonref07_Drop.B12 = true := by kernel_rfl
set_option maxHeartbeats 8000000 in
set_option maxRecDepth 100000 in
theorem stolonref07_Drop.calls (k : Nat) (P0_0_ : Nat → Prop) (A0_0 : Option Addr) (c0_0 : Nat) (l0_0 : List (S42)) (a1 : Int) (r1 : List (S42)) (r2 : List (S36)) (r3 : Int) (w : World) (hs0_0 : Kd.V k42 42 w w.heap.size (fun k_ => P0_0_ k_) (.slice A0_0 l0_0.length c0_0) l0_0) (h : stolonref07_Drop.f k l0_0 a1 = some (r1, r2, r3)) :
    Calls Try.prog 21 #[.agg #[.slice A0_0 l0_0.length c0_0], .int .i64 a1] w fun e w' => ∃ v0_ v1_ : Value, e = .returned (.tuple #[.agg #[v0_], v1_, .int .i64 r3]) ∧ Kd.V k42 42 w' w.heap.size (fun k_ => (P0_0_ k_ ∨ w.heap.size ≤ k_)) v0_ r1 ∧ Kd.V k36 36 w' w.heap.size (fun k_ => (P0_0_ k_ ∨ w.heap.size ≤ k_)) v1_ r2 ∧ Below w.heap.size w w' := by
  have hu40 := Try.underlying40
  have hu42 := Try.underlying42
  have HO0_0 := Aside0.mk (show Kd.V k42 42 w w.heap.size (fun k_ => (P0_0_ k_ ∨ w.heap.size ≤ k_)) (.slice A0_0 l0_0.length c0_0) l0_0 from Kd.V_mono hs0_0 (fun k_ hk => .inl hk))
  have HB := Aside0.mk (Below.refl w.heap.size w)
  have H : (stolonref07_Drop.l0 k a1 ([] : List (S42)) 0 0 l0_0) = some (r1, r2, r3) := h
  clear h
  have H' := Aside0.mk H
  clear H
  go_enter Try.func21, Try.ntmps21
  go_wp2_with (first | ((with_reducible refine gate_dst (N := 2) rfl ?_); refine bxn (cs := #[.slice A0_0 l0_0.length c0_0]) (t := 40) ?_; intro gb425 hg w3 hbox hb; have n0_ := Aside0.mk (Kd.V_below (Kd.V_elderB (rad HO0_0.out) gb425 (Nat.le_of_eq hg.symm)) hb); have n1_ := Aside0.mk (below_step (bl HB) hb); have n2_ := Aside0.mk (hbox); have n3_ := Aside0.mk ((by rw [hg]; exact (below_size (bl HB)) : w.heap.size ≤ gb425)); have n4_ := Aside0.mk ((by rw [hg]; exact (below_size (bl HB)) : w.heap.size ≤ gb425)); clear HO0_0; clear HB; have HO0_0 := n0_; have HB := n1_; have BK425 := n2_; have GW425 := n3_; have GE425 := n4_; clear n0_ n1_ n2_ n3_ n4_; clear hb hbox hg) | ((with_reducible refine gate_dst (N := 4) rfl ?_); refine bxn (cs := #[.slice none 0 0]) (t := 40) ?_; intro gb426 hg w4 hbox hb; have n0_ := Aside0.mk (Kd.V_below (Kd.V_elderB (rad HO0_0.out) gb426 (Nat.le_of_eq hg.symm)) hb); have n1_ := Aside0.mk (blk_below (g := gb425) (o := .cells #[.slice A0_0 l0_0.length c0_0] 40 (0, 0)) (ba BK425.out) hb); have n2_ := Aside0.mk (below_step (bl HB) hb); have n3_ := Aside0.mk (hbox); have n4_ := Aside0.mk ((by rw [hg]; exact (below_size (bl HB)) : w.heap.size ≤ gb426)); have n5_ := Aside0.mk ((by rw [hg]; exact (below_size (bl HB)) : w.heap.size ≤ gb426)); have n6_ := Aside0.mk ((by rw [hg]; exact Nat.ne_of_lt (blk_lt (g := gb425) (o := .cells #[.slice A0_0 l0_0.length c0_0] 40 (0, 0)) (ba BK425.out)) : gb425 ≠ gb426)); have n7_ := Aside0.mk ((by rw [hg]; exact Nat.ne_of_gt (blk_lt (g := gb425) (o := .cells #[.slice A0_0 l0_0.length c0_0] 40 (0, 0)) (ba BK425.out)) : gb426 ≠ gb425)); clear HO0_0; clear BK425; clear HB; have HO0_0 := n0_; have BK425 := n1_; have HB := n2_; have BK426 := n3_; have GW426 := n4_; have GE426 := n5_; have NB425_426 := n6_; have NB426_425 := n7_; clear n0_ n1_ n2_ n3_ n4_ n5_ n6_ n7_; clear hb hbox hg))
  go_loopg [7, 8, 9] k (fun kq v7 v8 v9 w' => ∃ (x7_1 : List (S42)) (x8_1 : Int) (x9_1 : Int), v8 = .int .u32 x8_1 ∧ v9 = .int .i64 x9_1 ∧ Aside0 (stolonref07_Drop.l0 kq a1 x7_1 x8_1 x9_1 l0_0 = some (r1, r2, r3)) ∧ Aside0 (kq ≤ k) ∧ Aside0 (Kd.N k42 42 w' w.heap.size (fun k_ => (P0_0_ k_ ∨ w.heap.size ≤ k_) ∧ k_ ≠ gb425 ∧ k_ ≠ gb426) v7 x7_1) ∧ Aside0 (Kd.V k42 42 w' w.heap.size (fun k_ => (P0_0_ k_ ∨ w.heap.size ≤ k_) ∧ some k_ ≠ (v7 : Value).ownBlock ∧ k_ ≠ gb425 ∧ k_ ≠ gb426) (.slice A0_0 l0_0.length c0_0) l0_0) ∧ Aside0 (w'.heap[gb425]? = some (.cells #[(.slice A0_0 l0_0.length c0_0)] 40 (0, 0))) ∧ Aside0 (w'.heap[gb426]? = some (.cells #[(.slice none 0 0)] 40 (0, 0))) ∧ Aside0 (Below w.heap.size w w'))
  case atStart => exact ⟨(([] : List (S42))), (0), (0), (fr), (fr), H', ⟨Nat.le_refl _⟩, ⟨nl⟩, ⟨by refine rad ?_; exact Kd.V_mono HO0_0.out (fun _ hk => ⟨hk.1.1, ⟨(by simp [Value.ownBlock]), ⟨hk.1.2, hk.2⟩⟩⟩)⟩, ⟨ba BK425.out⟩, ⟨ba BK426.out⟩, ⟨bl HB⟩⟩
  case round =>
    clear H'
    try clear c2
    try clear p2
    obtain ⟨x7_1, x8_1, x9_1, rfl, rfl, HA, HK1, HO_7, HO_426000, BK425, BK426, HB⟩ := hrel
    cases gk with
    | zero => exact absurd HA.out (by simp [stolonref07_Drop.l0])
    | succ k1 =>
      have H := HA.out
      clear HA
      simp only [stolonref07_Drop.l0] at H
      by_cases c5 : x9_1 < (l0_0.length : Int)
      · rw [if_pos c5] at H
        have c5b0 : decide (x9_1 < (l0_0.length : Int)) = true := decide_eq_true c5
        clear c5
        by_cases c6 : 0 ≤ x9_1
        · rw [if_pos c6] at H
          have c6b0 : decide (0 ≤ x9_1) = true := decide_eq_true c6
          clear c6
          by_cases c7 : ((rd_T42 l0_0 x9_1).f0) = a1
          · rw [if_pos c7] at H
            have c7b0 : (((rd_T42 l0_0 x9_1).f0) == a1) = true := beq_iff_eq.mpr c7
            have c7b1 : (((rd_T42 l0_0 x9_1).f0) != a1) = false := bne_eq_false_iff_eq.mpr c7
            clear c7
            have H' := Aside0.mk H
            clear H
            have hnb8 := NB425_426.out
            have hnc8 := NB426_425.out
            obtain ⟨hcz9_0, hfz9_0⟩ := cf1 BK425.out
            have p427 : 0 ≤ (x9_1 : Int) := od
            have q427 : x9_1 < (l0_0.length : Int) := od
            obtain ⟨ad427, A427_3, c427_3, e427, hx427_0, hx427_1, hx427_2, hx427_3, hl427_3, hi427_3⟩ := at_T42 (Kd.V_reads' HO_426000.out).2.2 x9_1 p427 q427
            cases e427
            obtain ⟨ce427, hce427, hMe427, hcc427⟩ := Kd.V_get HO_426000.out z42 x9_1 p427 (by first | exact q427 | exact od | (have e_ := (Kd.V_reads' HO_426000.out).1; omega))
            obtain ⟨ua427_3, uc427_3, rfl, ul427_3, ge427_3⟩ := k42_openF hMe427
            have hv427_3 := hcc427 3 _ rfl
            rw [add_field _ _ 3 (by omega)] at hv427_3
            replace hv427_3 := Option.some.inj (hv427_3.symm.trans hx427_3)
            injection hv427_3 with hva_ hvn_ hvc_
            rw [hva_] at ge427_3
            rw [hvc_] at ul427_3
            have HL427_3 := Aside0.mk (show Kd.V (Kd.int .u32) 23 _ w.heap.size _ _ ((rd_T42 l0_0 x9_1).f2.f1) from Kd.V_mk ul427_3 ge427_3)
            clear hva_ hvn_ hvc_ ge427_3 ul427_3
            clear hcc427 hce427
            have HR427_3 := Aside0.mk hi427_3
            have HC427_3 := Aside0.mk hl427_3
            clear hi427_3 hl427_3
            replace p427 := eq_true p427
            replace q427 := eq_true q427
            have p428 : 0 ≤ (x9_1 : Int) := od
            have q428 : x9_1 < (l0_0.length : Int) := od
            obtain ⟨ad428, A428_3, c428_3, e428, hx428_0, hx428_1, hx428_2, hx428_3, hl428_3, hi428_3⟩ := at_T42 (Kd.V_reads' HO_426000.out).2.2 x9_1 p428 q428
            obtain rfl : ad427 = ad428 := (by injection e428)
            obtain ⟨ce428, hce428, hMe428, hcc428⟩ := Kd.V_get HO_426000.out z42 x9_1 p428 (by first | exact q428 | exact od | (have e_ := (Kd.V_reads' HO_426000.out).1; omega))
            obtain ⟨ua428_3, uc428_3, rfl, ul428_3, ge428_3⟩ := k42_openF hMe428
            have hv428_3 := hcc428 3 _ rfl
            rw [add_field _ _ 3 (by omega)] at hv428_3
            replace hv428_3 := Option.some.inj (hv428_3.symm.trans hx428_3)
            injection hv428_3 with hva_ hvn_ hvc_
            rw [hva_] at ge428_3
            rw [hvc_] at ul428_3
            have HL428_3 := Aside0.mk (show Kd.V (Kd.int .u32) 23 _ w.heap.size _ _ ((rd_T42 l0_0 x9_1).f2.f1) from Kd.V_mk ul428_3 ge428_3)
            clear hva_ hvn_ hvc_ ge428_3 ul428_3
            clear hcc428 hce428
            have HR428_3 := Aside0.mk hi428_3
            have HC428_3 := Aside0.mk hl428_3
            clear hi428_3 hl428_3
            replace p428 := eq_true p428
            replace q428 := eq_true q428
            have ea_ := Option.some.inj (hx427_3.symm.trans hx428_3)
            injection ea_ with ea_ en_ ec_
            subst ea_
            subst ec_
            clear en_
            go_wp2
            go_roundg k1
            case measure => have := HK1.out; omega
            case rel => exact ⟨(x7_1), ((rd_T42 l0_0 x9_1).f1), (wrap64 (x9_1 + 1)), (fr), (fr), H', ⟨by have := HK1.out; omega⟩, ⟨rad HO_7.out⟩, ⟨rad HO_426000.out⟩, ⟨ba BK425.out⟩, ⟨ba BK426.out⟩, ⟨bl HB⟩⟩
          · rw [if_neg c7] at H
            have c7b0 : (((rd_T42 l0_0 x9_1).f0) == a1) = false := beq_eq_false_iff_ne.mpr c7
            have c7b1 : (((rd_T42 l0_0 x9_1).f0) != a1) = true := bne_iff_ne.mpr c7
            by_cases c10 : x7_1.length < 2932031007402
            · rw [if_pos c10] at H
              have LMc10 := Aside0.mk c10
              clear c10
              obtain ⟨y430, hy430⟩ : ∃ y_ : List (S42), y_ = (x7_1 ++ [(⟨(rd_T42 l0_0 x9_1).f0, (rd_T42 l0_0 x9_1).f1, (⟨(rd_T42 l0_0 x9_1).f2.f0, (rd_T42 l0_0 x9_1).f2.f1⟩ : S26)⟩ : S42)]) := ⟨_, rfl⟩
              replace H : (stolonref07_Drop.l0 k1 a1 y430 x8_1 (wrap64 (x9_1 + 1)) l0_0) = some (r1, r2, r3) := by first | (rw [hy430]; with_reducible exact H) | (have H2_ := (Option.bind_some _ _).symm.trans H; rw [hy430]; with_reducible exact H2_) | (have H2_ := (Option.bind_some _ _).symm.trans H; with_reducible exact H2_) | with_reducible exact H | (rw [hy430]; exact H) | exact H
              have Ny430 := Aside0.mk hy430
              clear hy430
              have H' := Aside0.mk H
              clear H
              have hnb11 := NB425_426.out
              have hnc11 := NB426_425.out
              obtain ⟨hcz12_0, hfz12_0⟩ := cf1 BK425.out
              have p427 : 0 ≤ (x9_1 : Int) := od
              have q427 : x9_1 < (l0_0.length : Int) := od
              obtain ⟨ad427, A427_3, c427_3, e427, hx427_0, hx427_1, hx427_2, hx427_3, hl427_3, hi427_3⟩ := at_T42 (Kd.V_reads' HO_426000.out).2.2 x9_1 p427 q427
              cases e427
              obtain ⟨ce427, hce427, hMe427, hcc427⟩ := Kd.V_get HO_426000.out z42 x9_1 p427 (by first | exact q427 | exact od | (have e_ := (Kd.V_reads' HO_426000.out).1; omega))
              obtain ⟨ua427_3, uc427_3, rfl, ul427_3, ge427_3⟩ := k42_openF hMe427
              have hv427_3 := hcc427 3 _ rfl
              rw [add_field _ _ 3 (by omega)] at hv427_3
              replace hv427_3 := Option.some.inj (hv427_3.symm.trans hx427_3)
              injection hv427_3 with hva_ hvn_ hvc_
              rw [hva_] at ge427_3
              rw [hvc_] at ul427_3
              have HL427_3 := Aside0.mk (show Kd.V (Kd.int .u32) 23 _ w.heap.size _ _ ((rd_T42 l0_0 x9_1).f2.f1) from Kd.V_mk ul427_3 ge427_3)
              clear hva_ hvn_ hvc_ ge427_3 ul427_3
              clear hcc427 hce427
              have HR427_3 := Aside0.mk hi427_3
              have HC427_3 := Aside0.mk hl427_3
              clear hi427_3 hl427_3
              replace p427 := eq_true p427
              replace q427 := eq_true q427
              have p429 : 0 ≤ (x9_1 : Int) := od
              have q429 : x9_1 < (l0_0.length : Int) := od
              obtain ⟨ad429, A429_3, c429_3, e429, hx429_0, hx429_1, hx429_2, hx429_3, hl429_3, hi429_3⟩ := at_T42 (Kd.V_reads' HO_426000.out).2.2 x9_1 p429 q429
              obtain rfl : ad427 = ad429 := (by injection e429)
              obtain ⟨ce429, hce429, hMe429, hcc429⟩ := Kd.V_get HO_426000.out z42 x9_1 p429 (by first | exact q429 | exact od | (have e_ := (Kd.V_reads' HO_426000.out).1; omega))
              obtain ⟨ua429_3, uc429_3, rfl, ul429_3, ge429_3⟩ := k42_openF hMe429
              have hv429_3 := hcc429 3 _ rfl
              rw [add_field _ _ 3 (by omega)] at hv429_3
              replace hv429_3 := Option.some.inj (hv429_3.symm.trans hx429_3)
              injection hv429_3 with hva_ hvn_ hvc_
              rw [hva_] at ge429_3
              rw [hvc_] at ul429_3
              have HL429_3 := Aside0.mk (show Kd.V (Kd.int .u32) 23 _ w.heap.size _ _ ((rd_T42 l0_0 x9_1).f2.f1) from Kd.V_mk ul429_3 ge429_3)
              clear hva_ hvn_ hvc_ ge429_3 ul429_3
              clear hcc429 hce429
              have HR429_3 := Aside0.mk hi429_3
              have HC429_3 := Aside0.mk hl429_3
              clear hi429_3 hl429_3
              replace p429 := eq_true p429
              replace q429 := eq_true q429
              have ea_ := Option.some.inj (hx427_3.symm.trans hx429_3)
              injection ea_ with ea_ en_ ec_
              subst ea_
              subst ec_
              clear en_
              go_wp2_with (first | ((with_reducible refine gate_builtin (b := .append) (xs := #[.tmp 32, .tmp 38]) rfl ?_); at_builtin; refine Kd.N_append k42 (w0 := w) w.heap.size rfl (.tmp 32) (.tmp 38) 38 42 (.agg #[(.int .i64 0), (.int .u32 0), (.bool false), (.slice none 0 0)]) 48 rfl Try.underlying38 info42 rfl (by decide) (by omega) u7 x7_1 (⟨(rd_T42 l0_0 x9_1).f0, (rd_T42 l0_0 x9_1).f1, (⟨(rd_T42 l0_0 x9_1).f2.f0, (rd_T42 l0_0 x9_1).f2.f1⟩ : S26)⟩ : S42) [.int .i64 ((rd_T42 l0_0 x9_1).f0), .int .u32 ((rd_T42 l0_0 x9_1).f1), .bool ((rd_T42 l0_0 x9_1).f2.f0), .slice A427_3 ((rd_T42 l0_0 x9_1).f2.f1).length c427_3] (fun k_ => (P0_0_ k_ ∨ w.heap.size ≤ k_) ∧ k_ ≠ gb425 ∧ k_ ≠ gb426) (fun k_ => ((fun k_ => (P0_0_ k_ ∨ w.heap.size ≤ k_) ∧ k_ ≠ gb425 ∧ k_ ≠ gb426)) k_ ∧ some k_ ≠ (u7 : Value).ownBlock) rfl rfl ?aP (fun _ hk => hk) ?aF ?aO ?aB ?aS ?aL ?_; (case aP => exact (k42_mkF _ _ (⟨(rd_T42 l0_0 x9_1).f0, (rd_T42 l0_0 x9_1).f1, (⟨(rd_T42 l0_0 x9_1).f2.f0, (rd_T42 l0_0 x9_1).f2.f1⟩ : S26)⟩ : S42) (Kd.V_reads' (Kd.V_mono (ok' := (fun k_ => ((fun k_ => (P0_0_ k_ ∨ w.heap.size ≤ k_) ∧ k_ ≠ gb425 ∧ k_ ≠ gb426)) k_ ∧ some k_ ≠ (u7 : Value).ownBlock)) (HL429_3.out) (fun k_ hk => ⟨⟨hk.1, ⟨hk.2.2.1, hk.2.2.2⟩⟩, hk.2.1⟩))).2.1 (Kd.V_F (Kd.V_mono (ok' := (fun k_ => ((fun k_ => (P0_0_ k_ ∨ w.heap.size ≤ k_) ∧ k_ ≠ gb425 ∧ k_ ≠ gb426)) k_ ∧ some k_ ≠ (u7 : Value).ownBlock)) (HL429_3.out) (fun k_ hk => ⟨⟨hk.1, ⟨hk.2.2.1, hk.2.2.2⟩⟩, hk.2.1⟩))))); (case aB => exact (bl HB)); (case aF => exact (fun k_ hk => ⟨(.inr (Nat.le_trans (below_size (bl HB)) hk)), Kd.freshB (g := gb425) (o := .cells #[.slice (some ad427) l0_0.length c0_0] 40 (0, 0)) (ba BK425.out) k_ hk, Kd.freshB (g := gb426) (o := .cells #[.slice none 0 0] 40 (0, 0)) (ba BK426.out) k_ hk⟩)); (case aO => exact (rad HO_7.out)); (case aS => exact (below_size (bl HB))); (case aL => have := LMc10.out; omega); intro v431 w13 ho hb hg hat; rw [← Ny430.out] at ho; have n0_ := Aside0.mk (Kd.V_afterv (ok := (fun k_ => (P0_0_ k_ ∨ w.heap.size ≤ k_) ∧ k_ ≠ gb425 ∧ k_ ≠ gb426)) (by refine rad ?_; exact Kd.V_mono HO_426000.out (fun _ hk => ⟨⟨hk.1, ⟨hk.2.2.1, hk.2.2.2⟩⟩, hk.2.1⟩)) hg hat); have n1_ := Aside0.mk (Go.Proofs.YtjncmiclpaodhaaW.PrintWords.blk_grown (g := gb425) (o := .cells #[.slice (some ad427) l0_0.length c0_0] 40 (0, 0)) (ba BK425.out) hg (Kd.N_ne HO_7.out BK425.out (by decide))); have n2_ := Aside0.mk (Go.Proofs.YtjncmiclpaodhaaW.PrintWords.blk_grown (g := gb426) (o := .cells #[.slice none 0 0] 40 (0, 0)) (ba BK426.out) hg (Kd.N_ne HO_7.out BK426.out (by decide))); have n3_ := Aside0.mk (Kd.V_afterv (ok := (fun k_ => (P0_0_ k_ ∨ w.heap.size ≤ k_) ∧ k_ ≠ gb425 ∧ k_ ≠ gb426)) (by refine rad ?_; exact Kd.V_mono HL427_3.out (fun _ hk => ⟨⟨hk.1, ⟨hk.2.2.1, hk.2.2.2⟩⟩, hk.2.1⟩)) hg hat); have n4_ := Aside0.mk (Kd.V_afterv (ok := (fun k_ => (P0_0_ k_ ∨ w.heap.size ≤ k_) ∧ k_ ≠ gb425 ∧ k_ ≠ gb426)) (by refine rad ?_; exact Kd.V_mono HL429_3.out (fun _ hk => ⟨⟨hk.1, ⟨hk.2.2.1, hk.2.2.2⟩⟩, hk.2.1⟩)) hg hat); have n5_ := Aside0.mk (hb); have n6_ := Aside0.mk (ho); clear HO_426000; clear BK425; clear BK426; clear HL427_3; clear HL429_3; clear HB; clear HO_7; have HO_426000 := n0_; have BK425 := n1_; have BK426 := n2_; have HL427_3 := n3_; have HL429_3 := n4_; have HB := n5_; have HO432 := n6_; clear n0_ n1_ n2_ n3_ n4_ n5_ n6_; clear ho hb hg hat))
              go_roundg k1
              case measure => have := HK1.out; omega
              case rel => exact ⟨(y430), (x8_1), (wrap64 (x9_1 + 1)), (fr), (fr), H', ⟨by have := HK1.out; omega⟩, ⟨rad HO432.out⟩, ⟨by refine rad ?_; exact Kd.V_mono HO_426000.out (fun _ hk => ⟨hk.1.1, ⟨hk.2, ⟨hk.1.2.1, hk.1.2.2⟩⟩⟩)⟩, ⟨ba BK425.out⟩, ⟨ba BK426.out⟩, ⟨bl HB⟩⟩
            · rw [if_neg c10] at H
              exact absurd H (by simp)
        · rw [if_neg c6] at H
          exact absurd H (by simp)
      · rw [if_neg c5] at H
        have c5b0 : decide (x9_1 < (l0_0.length : Int)) = false := decide_eq_false c5
        clear c5
        by_cases c14 : x8_1 = 0
        · rw [if_pos c14] at H
          have c14b0 : (x8_1 == 0) = true := beq_iff_eq.mpr c14
          have c14b1 : (x8_1 != 0) = false := bne_eq_false_iff_eq.mpr c14
          clear c14
          simp only [Option.some.injEq, Prod.mk.injEq] at H
          obtain ⟨rfl, rfl, rfl⟩ := H
          have hnb15 := NB425_426.out
          have hnc15 := NB426_425.out
          obtain ⟨hcz16_0, hfz16_0⟩ := cf1 BK425.out
          obtain ⟨hcz17_0, hfz17_0⟩ := cf1 BK426.out
          go_wp2
          refine bodyPost_ret (results_ctt rfl _ _ gb426 40 #[.slice A0_0 l0_0.length c0_0] (0, 0) _ rfl (by refine ba ?_; refine blk_put (cs := #[.slice none 0 0]) ?_ 0 _ rfl; refine ba ?_; exact BK426.out) Try.underlying40 rfl (by kernel_rfl)) rfl ?_
          exact ⟨_, _, by first | rfl | (simp [errW_none, errW_some] <;> rfl) | (simp [*, errW_none, errW_some] <;> rfl), by refine rad ?_; exact Kd.V_mono (Kd.V_far (p := ⟨gb426, 0, none⟩) (Kd.V_mono HO_426000.out (fun k_ hk => (⟨hk, hk.2.2.2⟩ : _ ∧ k_ ≠ gb426))) (fun _ hk => hk.2) (.slice A0_0 l0_0.length c0_0)) (fun _ hk => hk.1.1), Kd.N_V (by first | exact Kd.S_nil _ _ _ _ _ | exact Kd.N_nil _ _ _ 0 _ | exact Kd.V_nil _ _ _ _ _ | exact Kd.Q_nil _ _ _ _ _ | exact Kd.N_nil _ _ _ 0 _), bl HB⟩
        · rw [if_neg c14] at H
          have c14b0 : (x8_1 == 0) = false := beq_eq_false_iff_ne.mpr c14
          have c14b1 : (x8_1 != 0) = true := bne_iff_ne.mpr c14
          replace H := Option.bind_eq_some_iff.mp H
          obtain ⟨⟨t434, t435⟩, A180, H⟩ := H
          replace H : ((stolonref07_Wants.f k1 x7_1 x8_1).bind fun bt438 => ((stolonref07_Change.f x8_1 t434 t435 bt438.1 bt438.2).bind fun t442 => (some (x7_1, t442, 0)))) = some (r1, r2, r3) := H
          have A18 := Aside0.mk A180
          clear A180
          replace H := Option.bind_eq_some_iff.mp H
          obtain ⟨⟨t438, t439⟩, A190, H⟩ := H
          replace H : ((stolonref07_Change.f x8_1 t434 t435 t438 t439).bind fun t442 => (some (x7_1, t442, 0))) = some (r1, r2, r3) := H
          have A19 := Aside0.mk A190
          clear A190
          replace H := Option.bind_eq_some_iff.mp H
          obtain ⟨t442, A200, H⟩ := H
          replace H : (some (x7_1, t442, 0)) = some (r1, r2, r3) := H
          have A20 := Aside0.mk A200
          clear A200
          simp only [Option.some.injEq, Prod.mk.injEq] at H
          obtain ⟨rfl, rfl, rfl⟩ := H
          have hnb21 := NB425_426.out
          have hnc21 := NB426_425.out
          obtain ⟨hcz22_0, hfz22_0⟩ := cf1 BK425.out
          obtain ⟨Ao23, co23, eo23⟩ := Kd.N_slice HO_7.out
          subst eo23
          try go_wp2_with (first | ((with_reducible refine gate_dst (N := 10) rfl ?_); refine bxn (cs := #[.slice none 0 0]) (t := 40) ?_; intro gb433 hg w24 hbox hb; have n0_ := Aside0.mk (Kd.N_below (Kd.N_elderB (rad HO_7.out) gb433 (Nat.le_of_eq hg.symm)) hb); have n1_ := Aside0.mk (Kd.V_below (Kd.V_elderB (rad HO_426000.out) gb433 (Nat.le_of_eq hg.symm)) hb); have n2_ := Aside0.mk (blk_below (g := gb425) (o := .cells #[.slice A0_0 l0_0.length c0_0] 40 (0, 0)) (ba BK425.out) hb); have n3_ := Aside0.mk (blk_below (g := gb426) (o := .cells #[.slice none 0 0] 40 (0, 0)) (ba BK426.out) hb); have n4_ := Aside0.mk (below_step (bl HB) hb); have n5_ := Aside0.mk (hbox); have n6_ := Aside0.mk ((by rw [hg]; exact (below_size (bl HB)) : w.heap.size ≤ gb433)); have n7_ := Aside0.mk ((by rw [hg]; exact (below_size (bl HB)) : w.heap.size ≤ gb433)); have n8_ := Aside0.mk ((by rw [hg]; exact Nat.ne_of_lt (blk_lt (g := gb425) (o := .cells #[.slice A0_0 l0_0.length c0_0] 40 (0, 0)) (ba BK425.out)) : gb425 ≠ gb433)); have n9_ := Aside0.mk ((by rw [hg]; exact Nat.ne_of_gt (blk_lt (g := gb425) (o := .cells #[.slice A0_0 l0_0.length c0_0] 40 (0, 0)) (ba BK425.out)) : gb433 ≠ gb425)); have n10_ := Aside0.mk ((by rw [hg]; exact Nat.ne_of_lt (blk_lt (g := gb426) (o := .cells #[.slice none 0 0] 40 (0, 0)) (ba BK426.out)) : gb426 ≠ gb433)); have n11_ := Aside0.mk ((by rw [hg]; exact Nat.ne_of_gt (blk_lt (g := gb426) (o := .cells #[.slice none 0 0] 40 (0, 0)) (ba BK426.out)) : gb433 ≠ gb426)); clear HO_7; clear HO_426000; clear BK425; clear BK426; clear HB; have HO_7 := n0_; have HO_426000 := n1_; have BK425 := n2_; have BK426 := n3_; have HB := n4_; have BK433 := n5_; have GW433 := n6_; have GE433 := n7_; have NB425_433 := n8_; have NB433_425 := n9_; have NB426_433 := n10_; have NB433_426 := n11_; clear n0_ n1_ n2_ n3_ n4_ n5_ n6_ n7_ n8_ n9_ n10_ n11_; clear hb hbox hg; have hnb25 := NB433_425.out; have hnc25 := NB425_433.out; have hnb26 := NB433_426.out; have hnc26 := NB426_433.out; obtain ⟨hcz27_0, hfz27_0⟩ := cf1 BK433.out))
          have n0_ : Aside0 (Kd.N k42 42 (w24.setCell ⟨gb433, 0, none⟩ (.slice Ao23 x7_1.length co23)) w.heap.size (fun k_ => (P0_0_ k_ ∨ w.heap.size ≤ k_) ∧ k_ ≠ gb425 ∧ k_ ≠ gb426 ∧ k_ ≠ gb433) (.slice Ao23 x7_1.length co23) x7_1) := ⟨by refine rad ?_; exact Kd.N_mono (Kd.N_far (p := ⟨gb433, 0, none⟩) (Kd.N_mono HO_7.out (fun k_ hk => (⟨hk, hk.2⟩ : _ ∧ k_ ≠ gb433))) (fun _ hk => hk.2) (.slice Ao23 x7_1.length co23)) (fun _ hk => ⟨hk.1.1.1, ⟨hk.1.1.2.1, ⟨hk.1.1.2.2, hk.1.2⟩⟩⟩)⟩
          have n1_ : Aside0 (Kd.V k42 42 (w24.setCell ⟨gb433, 0, none⟩ (.slice Ao23 x7_1.length co23)) w.heap.size (fun k_ => (P0_0_ k_ ∨ w.heap.size ≤ k_) ∧ some k_ ≠ (.slice Ao23 x7_1.length co23 : Value).ownBlock ∧ k_ ≠ gb425 ∧ k_ ≠ gb426 ∧ k_ ≠ gb433) (.slice A0_0 l0_0.length c0_0) l0_0) := ⟨by refine rad ?_; exact Kd.V_mono (Kd.V_far (p := ⟨gb433, 0, none⟩) (Kd.V_mono HO_426000.out (fun k_ hk => (⟨hk, hk.2⟩ : _ ∧ k_ ≠ gb433))) (fun _ hk => hk.2) (.slice Ao23 x7_1.length co23)) (fun _ hk => ⟨hk.1.1.1, ⟨hk.1.1.2.1, ⟨hk.1.1.2.2.1, ⟨hk.1.1.2.2.2, hk.1.2⟩⟩⟩⟩)⟩
          have n2_ : Aside0 ((w24.setCell ⟨gb433, 0, none⟩ (.slice Ao23 x7_1.length co23)).heap[gb425]? = some (.cells #[.slice A0_0 l0_0.length c0_0] 40 (0, 0))) := ⟨by refine ba ?_; refine blk_far ?_ NB425_433.out _; refine ba ?_; exact BK425.out⟩
          have n3_ : Aside0 ((w24.setCell ⟨gb433, 0, none⟩ (.slice Ao23 x7_1.length co23)).heap[gb426]? = some (.cells #[.slice none 0 0] 40 (0, 0))) := ⟨by refine ba ?_; refine blk_far ?_ NB426_433.out _; refine ba ?_; exact BK426.out⟩
          have n4_ : Aside0 ((w24.setCell ⟨gb433, 0, none⟩ (.slice Ao23 x7_1.length co23)).heap[gb433]? = some (.cells #[.slice Ao23 x7_1.length co23] 40 (0, 0))) := ⟨by refine ba ?_; refine blk_put (cs := #[.slice none 0 0]) ?_ 0 _ rfl; refine ba ?_; exact BK433.out⟩
          have n5_ : Aside0 (Below w.heap.size w (w24.setCell ⟨gb433, 0, none⟩ (.slice Ao23 x7_1.length co23))) := ⟨bl HB⟩
          (try clear HO_7)
          (try clear HO_426000)
          (try clear BK425)
          (try clear BK426)
          (try clear BK433)
          (try clear HB)
          generalize (w24.setCell ⟨gb433, 0, none⟩ (.slice Ao23 x7_1.length co23)) = w28 at n0_ n1_ n2_ n3_ n4_ n5_ ⊢
          have HO_7 := n0_
          have HO_426000 := n1_
          have BK425 := n2_
          have BK426 := n3_
          have BK433 := n4_
          have HB := n5_
          clear n0_ n1_ n2_ n3_ n4_ n5_
          have n0_ := Aside0.mk (Kd.N_drew HO_7.out)
          have n1_ := Aside0.mk (Kd.V_drew HO_426000.out)
          have n2_ := Aside0.mk (blk_drew BK425.out)
          have n3_ := Aside0.mk (blk_drew BK426.out)
          have n4_ := Aside0.mk (blk_drew BK433.out)
          have n5_ := Aside0.mk (below_drew1 HB.out)
          clear HO_7
          clear HO_426000
          clear BK425
          clear BK426
          clear BK433
          clear HB
          have HO_7 := n0_
          have HO_426000 := n1_
          have BK425 := n2_
          have BK426 := n3_
          have BK433 := n4_
          have HB := n5_
          clear n0_ n1_ n2_ n3_ n4_ n5_
          refine start_ (n := 12) (S := fun w' => w'.cell? ⟨gb433, 0, none⟩ = some (.slice Ao23 x7_1.length co23) ∧ w'.cell? ⟨gb425, 0, none⟩ = some (.slice A0_0 l0_0.length c0_0)) (ds := []) #[false, false, false, false, false, false, false, false, false, false, false, false] (by kernel_rfl) rfl rfl ⟨(blk_cell BK433.out 0).trans rfl, (blk_cell BK425.out 0).trans rfl⟩ (fun hHeld => ?_); refine with_tabW stolonref07_Drop.tab12 stolonref07_Drop.bits12 (fun HT_ HW_ => ?_)
          generalize w28.drew = w29 at HO_7 HO_426000 BK425 BK426 BK433 HB hHeld ⊢
          refine pw 1 46 (bb 12 2) rfl rfl HT_ ?_
          refine pw 3 48 (bb 12 10) rfl rfl HT_ ?_
          refine pw 6 51 (bb 12 74) rfl rfl HT_ ?_
          refine tk 0 45 (bb 12 75) rfl rfl HT_ HW_ hHeld ?_
          refine tk 2 47 (bb 12 79) rfl rfl HT_ HW_ hHeld ?_
          refine tk 5 50 (bb 12 111) rfl rfl HT_ HW_ hHeld ?_
          refine on1 4 (some 49) (bb 12 127) rfl rfl HT_ (fun K hK => ?_)
          refine gfn Try.func36 #[.agg #[.slice A0_0 l0_0.length c0_0], .int .u32 x8_1] ?_
          with_reducible refine (stolonref07_Wants.calls k1 (fun k_ => ((P0_0_ k_ ∨ w.heap.size ≤ k_) ∧ (some k_ ≠ (.slice Ao23 x7_1.length co23 : Value).ownBlock ∧ (k_ ≠ gb425 ∧ (k_ ≠ gb426 ∧ k_ ≠ gb433))))) _ _ l0_0 x8_1 t434 t435 _ ?side1 A18.out).mono ?_
          (case side1 => exact HO_426000.out)
          rintro e w30 ⟨v436, rfl, ho0, hb⟩
          refine ⟨_, rfl, ?_⟩
          have n0_ := Aside0.mk (Kd.N_elder' (rad HO_7.out) (Kd.R_base ho0) hb)
          have n1_ := Aside0.mk (Kd.V_elder' (rad HO_426000.out) (Kd.R_base ho0) hb)
          have n2_ := Aside0.mk (Kd.R_lower (Kd.R_newM (M := fun k_ => (w.heap.size ≤ k_)) (Kd.R_mono (ok' := fun k_ => True) ho0 (fun _ hk_ => trivial)) (below_size (bl HB)) (fun k_ h_ => h_)) (below_size (bl HB)))
          have n3_ := Aside0.mk (blk_below (g := gb425) (o := .cells #[.slice A0_0 l0_0.length c0_0] 40 (0, 0)) (ba BK425.out) hb)
          have n4_ := Aside0.mk (blk_below (g := gb426) (o := .cells #[.slice none 0 0] 40 (0, 0)) (ba BK426.out) hb)
          have n5_ := Aside0.mk (blk_below (g := gb433) (o := .cells #[.slice Ao23 x7_1.length co23] 40 (0, 0)) (ba BK433.out) hb)
          have n6_ := Aside0.mk (below_step (bl HB) hb)
          clear HO_7
          clear HO_426000
          clear BK425
          clear BK426
          clear BK433
          clear HB
          have HO_7 := n0_
          have HO_426000 := n1_
          have HO437 := n2_
          have BK425 := n3_
          have BK426 := n4_
          have BK433 := n5_
          have HB := n6_
          clear n0_ n1_ n2_ n3_ n4_ n5_ n6_
          (try clear hb)
          (try clear hb2)
          (try clear hk)
          (try clear hi)
          (try clear ho0)
          refine hK.out _ _ ⟨(blk_cell BK433.out 0).trans rfl, (blk_cell BK425.out 0).trans rfl⟩ (fun hHeld => ?_)
          clear hK K
          refine nm ?_
          refine on1 7 (some 52) (bb 12 255) rfl rfl HT_ (fun K hK => ?_)
          refine gfn Try.func36 #[.agg #[.slice Ao23 x7_1.length co23], .int .u32 x8_1] ?_
          with_reducible refine (stolonref07_Wants.calls k1 (fun k_ => (((P0_0_ k_ ∨ w.heap.size ≤ k_) ∧ (k_ ≠ gb425 ∧ (k_ ≠ gb426 ∧ k_ ≠ gb433))) ∧ some k_ ≠ (v436 : Value).ownBlock)) _ _ x7_1 x8_1 t438 t439 _ ?side1 A19.out).mono ?_
          (case side1 => exact Kd.N_V (HO_7.out))
          rintro e w31 ⟨v440, rfl, ho0, hb⟩
          refine ⟨_, rfl, ?_⟩
          have n0_ := Aside0.mk (Kd.N_elder' (rad HO_7.out) (Kd.R_base ho0) hb)
          have n1_ := Aside0.mk (Kd.V_elder' (rad HO_426000.out) (Kd.R_base ho0) hb)
          have n2_ := Aside0.mk (Kd.R_elder' (rad HO437.out) (Kd.R_base ho0) hb)
          have n3_ := Aside0.mk (Kd.R_lower (Kd.R_new' (Kd.R_newM (M := fun k_ => (w.heap.size ≤ k_)) (Kd.R_mono (ok' := fun k_ => True) ho0 (fun _ hk_ => trivial)) (below_size (bl HB)) (fun k_ h_ => h_)) (Kd.R_lt (rad HO437.out))) (below_size (bl HB)))
          have n4_ := Aside0.mk (blk_below (g := gb425) (o := .cells #[.slice A0_0 l0_0.length c0_0] 40 (0, 0)) (ba BK425.out) hb)
          have n5_ := Aside0.mk (blk_below (g := gb426) (o := .cells #[.slice none 0 0] 40 (0, 0)) (ba BK426.out) hb)
          have n6_ := Aside0.mk (blk_below (g := gb433) (o := .cells #[.slice Ao23 x7_1.length co23] 40 (0, 0)) (ba BK433.out) hb)
          have n7_ := Aside0.mk (below_step (bl HB) hb)
          clear HO_7
          clear HO_426000
          clear HO437
          clear BK425
          clear BK426
          clear BK433
          clear HB
          have HO_7 := n0_
          have HO_426000 := n1_
          have HO437 := n2_
          have HO441 := n3_
          have BK425 := n4_
          have BK426 := n5_
          have BK433 := n6_
          have HB := n7_
          clear n0_ n1_ n2_ n3_ n4_ n5_ n6_ n7_
          (try clear hb)
          (try clear hb2)
          (try clear hk)
          (try clear hi)
          (try clear ho0)
          obtain ⟨Ao32, co32, eo32⟩ := Kd.R_slice HO437.out
          (first | subst eo32 | (injection eo32 with f1_ f2_ f3_; have f4_ := f1_.symm; have f5_ := f3_.symm; clear f1_ f2_ f3_; subst f4_; subst f5_))
          obtain ⟨Ao33, co33, eo33⟩ := Kd.R_slice HO441.out
          (first | subst eo33 | (injection eo33 with f1_ f2_ f3_; have f4_ := f1_.symm; have f5_ := f3_.symm; clear f1_ f2_ f3_; subst f4_; subst f5_))
          refine hK.out _ _ ⟨(blk_cell BK433.out 0).trans rfl, (blk_cell BK425.out 0).trans rfl⟩ (fun hHeld => ?_)
          clear hK K
          refine nm ?_
          refine on1 8 (some 53) (bb 12 511) rfl rfl HT_ (fun K hK => ?_)
          refine gfn Try.func23 #[.int .u32 x8_1, .agg #[.bool t434, .slice Ao32 t435.length co32], .agg #[.bool t438, .slice Ao33 t439.length co33]] ?_
          with_reducible refine (stolonref07_Change.calls x8_1 t434 _ _ t435 t438 (fun k_ => some k_ = (.slice Ao33 t439.length co33 : Value).ownBlock) _ _ t439 t442 _ ?side1 ?side2 ?side3 A20.out).mono ?_
          (case side1 => exact ca (Kd.R_reads' HO437.out).2.2)
          (case side2 => exact (Kd.R_reads' HO437.out).2.1)
          (case side3 => exact Kd.R_V (Kd.R_tight rfl (Kd.R_types (Kd.R_types (Kd.R_types (Kd.R_apart' (HO441.out) (Kd.N_typed HO_7.out) (by decide)) BK425.out (by decide)) BK426.out (by decide)) BK433.out (by decide))))
          rintro e w34 ⟨v443, rfl, ho0, hb⟩
          refine ⟨_, rfl, ?_⟩
          have n0_ := Aside0.mk (Kd.N_below (rad HO_7.out) hb)
          have n1_ := Aside0.mk (Kd.V_below (rad HO_426000.out) hb)
          have n2_ := Aside0.mk (Kd.R_below (rad HO437.out) hb)
          have n3_ := Aside0.mk (Kd.R_below (rad HO441.out) hb)
          have n4_ := Aside0.mk (Kd.V_lower (Kd.V_mono (ok' := fun k_ => (P0_0_ k_ ∨ w.heap.size ≤ k_) ∧ some k_ ≠ (.slice Ao23 x7_1.length co23 : Value).ownBlock ∧ some k_ ≠ (.slice Ao32 t435.length co32 : Value).ownBlock ∧ k_ ≠ gb425 ∧ k_ ≠ gb426 ∧ k_ ≠ gb433) ho0 (fun k_ hk_ => ⟨Or.elim hk_ (fun hs_ => (.inr (((Kd.R_types (Kd.R_types (Kd.R_types (Kd.R_apart' (HO441.out) (Kd.N_typed HO_7.out) (by decide)) BK425.out (by decide)) BK426.out (by decide)) BK433.out (by decide)).1 k_ hs_.symm).1.1.1.1.1.1))) (fun hn_ => (.inr (Nat.le_trans (below_size (bl HB)) hn_))), Or.elim hk_ (fun hs_ => ((Kd.R_types (Kd.R_types (Kd.R_types (Kd.R_apart' (HO441.out) (Kd.N_typed HO_7.out) (by decide)) BK425.out (by decide)) BK426.out (by decide)) BK433.out (by decide)).1 k_ hs_.symm).1.1.1.2) (fun hn_ => (Kd.fresh' (Kd.N_lt (rad HO_7.out)) k_ hn_)), Or.elim hk_ (fun hs_ => ((Kd.R_types (Kd.R_types (Kd.R_types (Kd.R_apart' (HO441.out) (Kd.N_typed HO_7.out) (by decide)) BK425.out (by decide)) BK426.out (by decide)) BK433.out (by decide)).1 k_ hs_.symm).1.1.1.1.2) (fun hn_ => (Kd.fresh' (Kd.R_lt (rad HO437.out)) k_ hn_)), Or.elim hk_ (fun hs_ => ((Kd.R_types (Kd.R_types (Kd.R_types (Kd.R_apart' (HO441.out) (Kd.N_typed HO_7.out) (by decide)) BK425.out (by decide)) BK426.out (by decide)) BK433.out (by decide)).1 k_ hs_.symm).1.1.2) (fun hn_ => (Kd.freshB (g := gb425) (o := .cells #[.slice A0_0 l0_0.length c0_0] 40 (0, 0)) (ba BK425.out) k_ hn_)), Or.elim hk_ (fun hs_ => ((Kd.R_types (Kd.R_types (Kd.R_types (Kd.R_apart' (HO441.out) (Kd.N_typed HO_7.out) (by decide)) BK425.out (by decide)) BK426.out (by decide)) BK433.out (by decide)).1 k_ hs_.symm).1.2) (fun hn_ => (Kd.freshB (g := gb426) (o := .cells #[.slice none 0 0] 40 (0, 0)) (ba BK426.out) k_ hn_)), Or.elim hk_ (fun hs_ => ((Kd.R_types (Kd.R_types (Kd.R_types (Kd.R_apart' (HO441.out) (Kd.N_typed HO_7.out) (by decide)) BK425.out (by decide)) BK426.out (by decide)) BK433.out (by decide)).1 k_ hs_.symm).2) (fun hn_ => (Kd.freshB (g := gb433) (o := .cells #[.slice Ao23 x7_1.length co23] 40 (0, 0)) (ba BK433.out) k_ hn_))⟩)) (below_size (bl HB)))
          have n5_ := Aside0.mk (blk_below (g := gb425) (o := .cells #[.slice A0_0 l0_0.length c0_0] 40 (0, 0)) (ba BK425.out) hb)
          have n6_ := Aside0.mk (blk_below (g := gb426) (o := .cells #[.slice none 0 0] 40 (0, 0)) (ba BK426.out) hb)
          have n7_ := Aside0.mk (blk_below (g := gb433) (o := .cells #[.slice Ao23 x7_1.length co23] 40 (0, 0)) (ba BK433.out) hb)
          have n8_ := Aside0.mk (below_step (bl HB) hb)
          clear HO_7
          clear HO_426000
          clear HO437
          clear HO441
          clear BK425
          clear BK426
          clear BK433
          clear HB
          have HO_7 := n0_
          have HO_426000 := n1_
          have HO437 := n2_
          have HO441 := n3_
          have HO444 := n4_
          have BK425 := n5_
          have BK426 := n6_
          have BK433 := n7_
          have HB := n8_
          clear n0_ n1_ n2_ n3_ n4_ n5_ n6_ n7_ n8_
          (try clear hb)
          (try clear hb2)
          (try clear hk)
          (try clear hi)
          (try clear ho0)
          refine hK.out _ _ ⟨(blk_cell BK433.out 0).trans rfl, (blk_cell BK425.out 0).trans rfl⟩ (fun hHeld => ?_)
          clear hK K
          refine nm ?_
          refine on1 9 none (bb 12 1023) rfl rfl HT_ (fun K hK => ?_)
          obtain ⟨hs35, hfs35⟩ := cf1 BK426.out
          have hns35_0 := NB425_426.out
          have hns35_2 := NB433_426.out
          have hms35_0 := NB426_425.out
          have hms35_2 := NB426_433.out
          refine skip_ (w1 := ?_) (by rfl) rfl ?_ ?_
          rotate_left
          · go_simp
            rfl
          refine hK.out _ _ ⟨((cell_far (p := ⟨gb426, _, none⟩) NB433_426.out _).trans (hHeld.1)), ((cell_far (p := ⟨gb426, _, none⟩) NB425_426.out _).trans (hHeld.2))⟩ (fun hHeld => ?_)
          clear hK K
          refine pw 10 5 (bb 12 2047) rfl rfl HT_ ?_
          refine pw 11 6 (bb 12 4095) rfl rfl HT_ ?_
          refine done_ (done_of HT_.out (by kernel_rfl)) ?_
          try go_wp2
          refine bodyPost_ret (results_ctt rfl _ _ gb426 40 #[.slice Ao23 x7_1.length co23] (0, 0) _ rfl (by refine ba ?_; refine blk_put (cs := #[.slice none 0 0]) ?_ 0 _ rfl; refine ba ?_; exact BK426.out) Try.underlying40 rfl (by kernel_rfl)) rfl ?_
          exact ⟨_, _, by first | rfl | (simp [errW_none, errW_some] <;> rfl) | (simp [*, errW_none, errW_some] <;> rfl), Kd.N_V (by refine rad ?_; exact Kd.N_mono (Kd.N_far (p := ⟨gb426, 0, none⟩) (Kd.N_mono HO_7.out (fun k_ hk => (⟨hk, hk.1.1.2.2.1⟩ : _ ∧ k_ ≠ gb426))) (fun _ hk => hk.2) (.slice Ao23 x7_1.length co23)) (fun _ hk => hk.1.1.1.1)), by refine rad ?_; exact Kd.V_mono (Kd.V_far (p := ⟨gb426, 0, none⟩) (Kd.V_mono HO444.out (fun k_ hk => (⟨hk, hk.2.2.2.2.1⟩ : _ ∧ k_ ≠ gb426))) (fun _ hk => hk.2) (.slice Ao23 x7_1.length co23)) (fun _ hk => hk.1.1), bl HB⟩
end Go.Proofs.Ytjncmiclpaodhaa.PHo
/-
  The document's Put and Drop, in plain words; joined with their walks.
-/
namespace Go.Proofs.Ytjncmiclpaodhaa
open Go.RowKit Go.Proofs.YtjncmiclpaodhaaW.PrintWords Go.Proofs.Ytjncmiclpaodhaa.PHo
set_option linter.unusedVariables false
set_option linter.unusedSimpArgs false
theorem fil_take {l : List S42} {j : Nat} (hj : j < l.length) (g : Int) : fil (l.take (j + 1)) g = fil (l.take j) g ++ (if l[j].f1 = g then [l[j].f2] else []) := by
  unfold fil
  rw [← List.take_append_getElem hj, List.filter_append, List.map_append]
  congr 1
  by_cases c : l[j].f1 = g
  · rw [if_pos c, List.filter_cons_of_pos (by simpa using c)]; rfl
  · rw [if_neg c, List.filter_cons_of_neg (by simpa using c)]; rfl
theorem rwants7_loop {l : List S42} (hl : l.length ≤ 32) (h : ∀ s ∈ l, FOk s) (g : Int) : ∀ n k (j : Nat) (x : List S26), l.length = j + n → n + 100000001000 < k → x = fil (l.take j) g → stolonref07_Wants.l0 k g x (j : Int) l = some (wnt l g) := by
  intro n
  induction n with
  | zero =>
    intro k j x hj hk hx
    obtain ⟨k, rfl⟩ : ∃ m, k = m + 1 := ⟨k - 1, by omega⟩
    obtain ⟨h1, h2⟩ := fil_ok hl h g
    rw [hx, List.take_of_length_le (by omega), stolonref07_Wants.l0, if_neg (by omega), rfilter_some (fil l g) (by omega) h2 k (by omega), Option.bind_some]
    rfl
  | succ n ih =>
    intro k j x hj hk hx
    obtain ⟨k, rfl⟩ : ∃ m, k = m + 1 := ⟨k - 1, by omega⟩
    have hlt : j < l.length := by omega
    have hxl : x.length ≤ j := by
      rw [hx]; unfold fil; rw [List.length_map]
      exact Nat.le_trans (List.length_filter_le _ _) (by rw [List.length_take]; omega)
    have e2 : wrap64 ((j : Int) + 1) = ((j + 1 : Nat) : Int) := step64 j (by omega)
    rw [stolonref07_Wants.l0, if_pos (by omega), if_pos (by omega), rd42 l j hlt]
    have ht := fil_take hlt g
    by_cases c : l[j].f1 = g
    · rw [if_pos c] at ht ⊢
      rw [if_pos (by omega), e2]
      exact ih k (j + 1) _ (by omega) (by omega) (by rw [ht, hx])
    · rw [if_neg c, List.append_nil] at ht
      rw [if_neg c, e2]
      exact ih k (j + 1) _ (by omega) (by omega) (by rw [ht, hx])
theorem rwants7_some {l : List S42} (h1 : l.length ≤ 32) (h2 : ∀ s ∈ l, FOk s) (g : Int) (k : Nat) (hk : 200000000000 ≤ k) : stolonref07_Wants.f k l g = some (wnt l g) :=
  rwants7_loop h1 h2 g l.length k 0 [] (by omega) (by omega) rfl
theorem rchg_some (g : Int) (a b : Bool × List Int) (ra : Rise a.2) (rb : Rise b.2) (ha : a.2.length ≤ 40000) (hb : b.2.length ≤ 40000) : stolonref07_Change.f g a.1 a.2 b.1 b.2 = some (chg g a b) := by
  obtain ⟨p, x⟩ := a
  obtain ⟨q, y⟩ := b
  simp only at ra rb ha hb
  unfold stolonref07_Change.f
  have hn1 := mns_len x y
  have hn2 := mns_len y x
  simp only
  by_cases hpq : p = q
  · subst hpq
    rw [if_pos rfl, rminus_some y x (by omega) (by omega) rb ra 100000 (by omega), Option.bind_some, rminus_some x y (by omega) (by omega) ra rb 100000 (by omega), Option.bind_some, if_pos ⟨by omega, by omega⟩]
    congr 1
    have key : ∀ (xs : List S36) (t : Int) (m : List Int), (t == 4 || t == 3) = false → saidL xs t g m = xs ++ hc_keep g t m := fun xs t m ht => by
      unfold saidL hc_keep
      rw [ht, Bool.false_or]
      by_cases hm : m.length = 0
      · rw [if_pos hm, decide_eq_false (show ¬ 0 < m.length by omega), if_neg Bool.false_ne_true, List.append_nil]
      · rw [if_neg hm, decide_eq_true (show 0 < m.length by omega), if_pos rfl]
    unfold chg hc_sel
    rw [if_pos rfl]
    cases p
    · rw [if_neg Bool.false_ne_true, if_neg Bool.false_ne_true, key _ _ _ rfl, key _ _ _ rfl]; rfl
    · rw [if_pos rfl, if_pos rfl, key _ _ _ rfl, key _ _ _ rfl]; rfl
  · rw [if_neg hpq]
    congr 1
    unfold chg hc_sel
    rw [if_neg hpq]
    cases p <;> cases q <;> first | exact absurd rfl hpq | rfl
/-! ### Put -/
theorem rst_eq {l : List S42} (hs : Sorted l) (s : S42) : ∀ i, i ≤ l.length → ((∀ x ∈ l.take i, x.f0 < s.f0) ∧ rst l s i = (l.take i, false)) ∨ ((∃ x ∈ l.take i, s.f0 ≤ x.f0) ∧ rst l s i = (insS (l.take i) s, true)) := by
  intro i
  induction i with
  | zero => intro _; exact .inl ⟨by simp, rfl⟩
  | succ i ih =>
    intro hi
    have hlt : i < l.length := by omega
    have hsp : ∀ x ∈ l.take i, x.f0 < l[i].f0 := fun x hx => by
      obtain ⟨j, hj, rfl⟩ := List.mem_iff_getElem.1 hx
      rw [List.length_take] at hj
      rw [List.getElem_take]
      unfold Sorted at hs
      rw [List.pairwise_iff_getElem] at hs
      exact hs j i (by omega) hlt (by omega)
    have ht : l.take (i + 1) = l.take i ++ [l[i]] := (List.take_append_getElem hlt).symm
    rw [rst_succ hlt, rd42 l i hlt, ht]
    have lt_app : ltS (l.take i ++ [l[i]]) s.f0 = ltS (l.take i) s.f0 ++ (if l[i].f0 < s.f0 then [l[i]] else []) := by
      unfold ltS
      rw [List.filter_append]
      congr 1
      by_cases c : l[i].f0 < s.f0
      · rw [if_pos c, List.filter_cons_of_pos (by simpa using c)]; rfl
      · rw [if_neg c, List.filter_cons_of_neg (by simpa using c)]; rfl
    have gt_app : gtS (l.take i ++ [l[i]]) s.f0 = gtS (l.take i) s.f0 ++ (if s.f0 < l[i].f0 then [l[i]] else []) := by
      unfold gtS
      rw [List.filter_append]
      congr 1
      by_cases c : s.f0 < l[i].f0
      · rw [if_pos c, List.filter_cons_of_pos (by simpa using c)]; rfl
      · rw [if_neg c, List.filter_cons_of_neg (by simpa using c)]; rfl
    rcases ih (by omega) with ⟨h1, h2⟩ | ⟨⟨x, hx, h1⟩, h2⟩
    · have hlt0 : ltS (l.take i) s.f0 = l.take i := List.filter_eq_self.2 (fun x hx => decide_eq_true (h1 x hx))
      have hgt0 : gtS (l.take i) s.f0 = [] := List.filter_eq_nil_iff.2 (fun x hx => by have := h1 x hx; rw [decide_eq_true_eq]; omega)
      rw [h2]
      unfold rstep
      by_cases c : l[i].f0 = s.f0
      · rw [if_pos c, if_neg Bool.false_ne_true]
        refine .inr ⟨⟨l[i], List.mem_append_right _ (List.mem_singleton.2 rfl), by omega⟩, ?_⟩
        unfold insS
        rw [lt_app, gt_app, hlt0, hgt0, if_neg (by omega), if_neg (by omega)]
        simp
      · rw [if_neg c, if_neg Bool.false_ne_true]
        by_cases c2 : s.f0 ≤ l[i].f0
        · rw [if_pos c2]
          refine .inr ⟨⟨l[i], List.mem_append_right _ (List.mem_singleton.2 rfl), c2⟩, ?_⟩
          unfold insS
          rw [lt_app, gt_app, hlt0, hgt0, if_neg (by omega), if_pos (by omega)]
          simp
        · rw [if_neg c2]
          refine .inl ⟨fun x hx => ?_, rfl⟩
          rcases List.mem_append.1 hx with hx | hx
          · exact h1 x hx
          · rw [List.mem_singleton.1 hx]; omega
    · have hgi := hsp x hx
      rw [h2]
      unfold rstep
      rw [if_neg (by omega), if_pos rfl]
      refine .inr ⟨⟨x, List.mem_append_left _ hx, h1⟩, ?_⟩
      unfold insS
      rw [lt_app, gt_app, if_neg (by omega), if_pos (by omega)]
      simp
theorem rputL_eq {l : List S42} (hs : Sorted l) (s : S42) : rputL l s = insS l s := by
  unfold rputL
  rcases rst_eq hs s l.length (Nat.le_refl _) with ⟨h1, h2⟩ | ⟨_, h2⟩
  · rw [List.take_length] at h1 h2
    rw [h2, if_neg Bool.false_ne_true]
    unfold insS
    rw [show ltS l s.f0 = l from List.filter_eq_self.2 (fun x hx => decide_eq_true (h1 x hx)), show gtS l s.f0 = [] from List.filter_eq_nil_iff.2 (fun x hx => by have := h1 x hx; rw [decide_eq_true_eq]; omega), List.append_nil]
  · rw [List.take_length] at h2
    rw [h2, if_pos rfl]
theorem rput_calls {l : List S42} {s : S42} (hl : HOk l) (hm : s.f2.f1.length ≤ 1000000) (A_l : Option Addr) (c_l : Nat) (A_s : Option Addr) (c_s : Nat) (w : World) (hr : Kd.C k42 w A_l l.length l) (hc : l.length ≤ c_l) (hs : Kd.C (Kd.int .u32) w A_s s.f2.f1.length s.f2.f1) (hcs : s.f2.f1.length ≤ c_s) (P : Nat → Prop) (hP : ∀ k, P k → k < w.heap.size) (hlF : Kd.F k42 w P A_l l.length l) (hsF : Kd.F (Kd.int .u32) w P A_s s.f2.f1.length s.f2.f1) :
    Calls Try.prog 19 #[.agg #[.slice A_l l.length c_l], .agg #[.int .i64 s.f0, .int .u32 s.f1, .bool s.f2.f0, .slice A_s s.f2.f1.length c_s]] w (PutPost P w (putL l s) (putR l s) (putE l s)) := by
  have hn : l.length ≤ 1000000 := by have := hl.1; omega
  have hsock := rsocket_some s 200000000000 (by decide)
  cases hrb : rightB s
  · have e : putE l s = 1 := by unfold putE; rw [if_pos (.inl hrb)]
    unfold putL putR
    rw [e, if_neg (by decide), if_neg (by decide)]
    exact rput_wrong (k := 200000000000) hn (hsock.trans (by rw [hrb])) A_l c_l A_s c_s w hr hc hs hcs P hP hlF hsF
  rw [hrb] at hsock
  have hins : ∀ x ∈ insS l s, FOk x := fun x hx => by
    rcases mem_ins.1 hx with rfl | ⟨hx, _⟩
    · exact rightB_FOk hrb
    · exact hl.fok x hx
  have w1 := wnt_ok hl.1 hl.fok s.f1
  refine (rput_main (k := 200000000000) hn hsock (rputL_eq hl.2.1 s) (e1 := (wnt l s.f1).1) (s1 := (wnt l s.f1).2) (e2 := (wnt (insS l s) s.f1).1) (s2 := (wnt (insS l s) s.f1).2) (rs := chg s.f1 (wnt l s.f1) (wnt (insS l s) s.f1)) (fun _ => rwants7_some hl.1 hl.fok s.f1 _ (by decide)) (fun h => rwants7_some h hins s.f1 _ (by decide)) (fun h => ?_) A_l c_l A_s c_s w hr hc hs hcs P hP hlF hsF).mono ?_
  · have w2 := wnt_ok h hins s.f1
    exact rchg_some s.f1 _ _ w1.1 w2.1 (by omega) (by omega)
  · rintro e w' (⟨hcl, hp⟩ | ⟨hcl, hlen, hp⟩ | ⟨hcl, hlen, hp⟩)
    · have e1 : putE l s = 1 := by unfold putE; rw [if_pos (.inr hcl)]
      unfold putL putR
      rw [e1, if_neg (by decide), if_neg (by decide)]
      exact hp
    · have hh : hasS l s.f0 = false := by
        cases c : hasS l s.f0
        · rfl
        · have := ins_len_has hl.2.1 c
          have := hl.1
          omega
      have hl2 := ins_len_new hl.2.1 hh
      have e1 : putE l s = 7 := by unfold putE; rw [if_neg (by rw [hrb, hcl]; simp), if_pos ⟨hh, by omega⟩]
      unfold putL putR
      rw [e1, if_neg (by decide), if_neg (by decide)]
      exact hp
    · have e1 : putE l s = 0 := by
        unfold putE
        rw [if_neg (by rw [hrb, hcl]; simp), if_neg (fun h => by have := ins_len_new hl.2.1 h.1; omega)]
      unfold putL putR
      rw [e1, if_pos rfl, if_pos rfl]
      exact hp
/-! ### Drop -/
theorem flt_del {l : List S42} (hs : Sorted l) (id : Int) : l.filter (fun x => !decide (x.f0 = id)) = delS l id := by
  refine sorted_ext (hs.filter _) (del_sorted hs id) fun x => ?_
  rw [mem_del, List.mem_filter]
  simp
theorem askB_pos {a : Int} (h : askB a = true) : a ≠ 0 := by
  unfold askB at h
  simp only [Bool.and_eq_true, decide_eq_true_eq] at h
  omega
theorem rdrop_loop {l : List S42} (hl : HOk l) (id : Int) : ∀ n k (j : Nat) (x : List S42) (g : Int), l.length = j + n → n + 200000000000 < k → x = (l.take j).filter (fun x => !decide (x.f0 = id)) → g = (if hasS (l.take j) id = true then dropG l id else 0) →
    stolonref07_Drop.l0 k id x g (j : Int) l = some (dropL l id, dropR l id, dropE l id) := by
  intro n
  induction n with
  | zero =>
    intro k j x g hj hk hx hg
    obtain ⟨k, rfl⟩ : ∃ m, k = m + 1 := ⟨k - 1, by omega⟩
    rw [List.take_of_length_le (by omega)] at hx hg
    rw [flt_del hl.2.1] at hx
    rw [stolonref07_Drop.l0, if_neg (by omega)]
    unfold dropL dropR dropE
    cases c : hasS l id
    · rw [c, if_neg (by decide)] at hg
      rw [if_pos hg, if_neg (by decide), if_neg (by decide), if_neg (by decide)]
    · rw [c, if_pos rfl] at hg
      obtain ⟨y, hy, he⟩ := hasS_iff.1 c
      have hgy : dropG l id = y.f1 := by unfold dropG; rw [← he, at_group hl.2.1 hy]
      have hask : askB y.f1 = true := by
        have := hl.2.2 y hy
        unfold rightB at this
        simp only [Bool.and_eq_true] at this
        exact this.1.1.2
      have hd := del_ok hl id
      have w1 := wnt_ok hl.1 hl.fok g
      have w2 := wnt_ok hd.1 hd.fok g
      rw [if_neg (by rw [hg, hgy]; exact askB_pos hask), hx, rwants7_some hl.1 hl.fok g k (by omega), Option.bind_some, rwants7_some hd.1 hd.fok g k (by omega), Option.bind_some, rchg_some g _ _ w1.1 w2.1 (by omega) (by omega), Option.bind_some, if_pos rfl, if_pos rfl, if_pos rfl, hg]
  | succ n ih =>
    intro k j x g hj hk hx hg
    obtain ⟨k, rfl⟩ : ∃ m, k = m + 1 := ⟨k - 1, by omega⟩
    have hlt : j < l.length := by omega
    have hl32 := hl.1
    have hxl : x.length ≤ j := by
      rw [hx]
      exact Nat.le_trans (List.length_filter_le _ _) (by rw [List.length_take]; omega)
    have e2 : wrap64 ((j : Int) + 1) = ((j + 1 : Nat) : Int) := step64 j (by omega)
    have ht : l.take (j + 1) = l.take j ++ [l[j]] := (List.take_append_getElem hlt).symm
    have hht : hasS (l.take (j + 1)) id = (hasS (l.take j) id || decide (l[j].f0 = id)) := by
      rw [ht]; unfold hasS; rw [List.any_append]; simp
    have hft : (l.take (j + 1)).filter (fun x => !decide (x.f0 = id)) = (l.take j).filter (fun x => !decide (x.f0 = id)) ++ (if l[j].f0 = id then [] else [l[j]]) := by
      rw [ht, List.filter_append]
      congr 1
      by_cases c : l[j].f0 = id
      · rw [if_pos c, List.filter_cons_of_neg (by simpa using c)]; rfl
      · rw [if_neg c, List.filter_cons_of_pos (by simpa using c)]; rfl
    rw [stolonref07_Drop.l0, if_pos (by omega), if_pos (by omega), rd42 l j hlt]
    by_cases c : l[j].f0 = id
    · rw [if_pos c, e2]
      refine ih k (j + 1) _ _ (by omega) (by omega) (by rw [hft, if_pos c, List.append_nil, hx]) ?_
      rw [hht, decide_eq_true c, Bool.or_true, if_pos rfl]
      unfold dropG
      rw [← c, at_group hl.2.1 (List.getElem_mem hlt)]
    · rw [if_neg c, if_pos (by omega), e2]
      refine ih k (j + 1) _ _ (by omega) (by omega) (by rw [hft, if_neg c, hx]) ?_
      rw [hht, decide_eq_false c, Bool.or_false]
      exact hg
theorem rdrop_some {l : List S42} (hl : HOk l) (id : Int) : stolonref07_Drop.f 300000000000 l id = some (dropL l id, dropR l id, dropE l id) :=
  rdrop_loop hl id l.length 300000000000 0 [] 0 (by omega) (by have := hl.1; omega) rfl rfl
theorem rdrop_calls {l : List S42} {id : Int} (hl : HOk l) (A_l : Option Addr) (c_l : Nat) (w : World) (hr : Kd.C k42 w A_l l.length l) (hc : l.length ≤ c_l) (P : Nat → Prop) (hlF : Kd.F k42 w P A_l l.length l) :
    Calls Try.prog 21 #[.agg #[.slice A_l l.length c_l], .int .i64 id] w (PutPost P w (dropL l id) (dropR l id) (dropE l id)) := by
  refine (stolonref07_Drop.calls 300000000000 P A_l c_l l id _ _ _ w (Kd.V_mk hc hlF) (rdrop_some hl id)).mono ?_
  rintro e w' ⟨v0, v1, rfl, h0, h1, hB⟩
  exact ⟨v0, v1, rfl, Kd.V_map h0 (fun _ h => h), Kd.V_map h1 (fun _ h => h), hB⟩
end Go.Proofs.Ytjncmiclpaodhaa
