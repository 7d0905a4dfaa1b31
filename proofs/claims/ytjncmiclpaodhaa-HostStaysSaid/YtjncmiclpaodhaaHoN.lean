/-
  slices.BinarySearchFunc over sockets by their ids; host.place.
-/
import Derived.Test.YtjncmiclpaodhaaHoK
namespace Go.Proofs.Ytjncmiclpaodhaa
open Go.RowKit Go.Proofs.YtjncmiclpaodhaaW.PrintWords Go.Proofs.Ytjncmiclpaodhaa.PHo
set_option linter.unusedVariables false
set_option linter.unusedSimpArgs false
set_option maxHeartbeats 8000000 in
set_option maxRecDepth 100000 in
theorem nan_w (x : Int) (w : World) : Calls Try.prog 66 #[.int .i64 x] w fun e w' => e = .returned (.bool false) ∧ w' = w := by
  go_enter Try.func66, Try.ntmps66
  go_wp2
  go_ret
  exact ⟨by simp, rfl⟩
def cmp3 (x y : Int) : Int := if x < y then -1 else if y < x then 1 else 0
theorem cmp3_eq (x y : Int) : (cmp3 x y == 0) = decide (x = y) := by
  unfold cmp3
  by_cases h1 : x < y
  · rw [if_pos h1, decide_eq_false (by omega)]; rfl
  · by_cases h2 : y < x
    · rw [if_neg h1, if_pos h2, decide_eq_false (by omega)]; rfl
    · rw [if_neg h1, if_neg h2, decide_eq_true (by omega)]; rfl
set_option maxHeartbeats 8000000 in
set_option maxRecDepth 100000 in
theorem compare_w (x y : Int) (w : World) : Calls Try.prog 52 #[.int .i64 x, .int .i64 y] w fun e w' => e = .returned (.int .i64 (cmp3 x y)) ∧ w' = w := by
  by_cases h1 : x < y
  · have c1 : decide (x < y) = true := decide_eq_true h1
    go_enter Try.func52, Try.ntmps52
    go_wp2_with (first | (go_at_call 66; refine (nan_w _ _).mono ?_; rintro e w1 ⟨rfl, rfl⟩))
    go_ret
    first | exact ⟨rfl, rfl⟩ | (unfold cmp3; rw [if_pos h1]; exact ⟨rfl, rfl⟩)
  · have c1 : decide (x < y) = false := decide_eq_false h1
    by_cases h2 : y < x
    · have c2 : decide (y < x) = true := decide_eq_true h2
      go_enter Try.func52, Try.ntmps52
      go_wp2_with (first | (go_at_call 66; refine (nan_w _ _).mono ?_; rintro e w1 ⟨rfl, rfl⟩))
      go_ret
      first | exact ⟨rfl, rfl⟩ | (unfold cmp3; rw [if_neg (by omega), if_pos h2]; exact ⟨rfl, rfl⟩)
    · have c2 : decide (y < x) = false := decide_eq_false h2
      go_enter Try.func52, Try.ntmps52
      go_wp2_with (first | (go_at_call 66; refine (nan_w _ _).mono ?_; rintro e w1 ⟨rfl, rfl⟩))
      go_ret
      first | exact ⟨rfl, rfl⟩ | (unfold cmp3; rw [if_neg (by omega), if_neg (by omega)]; exact ⟨rfl, rfl⟩)
set_option maxHeartbeats 8000000 in
set_option maxRecDepth 100000 in
theorem place1_w (a b : Int) (e : Bool) (A : Option Addr) (n c : Nat) (id : Int) (w : World) : Calls Try.prog 51 #[.agg #[.int .i64 a, .int .u32 b, .bool e, .slice A n c], .int .i64 id] w fun x w' => x = .returned (.int .i64 (cmp3 a id)) ∧ Below w.heap.size w w' := by
  have hu42 := Try.underlying42
  have HB := Aside0.mk (Below.refl w.heap.size w)
  go_enter Try.func51, Try.ntmps51
  go_wp2_with (first | ((with_reducible refine gate_dst (N := 2) rfl ?_); (try (refine gate_guard (by rfl) ?_; dsimp only)); refine box_event ?hg (N := 2) ?hd (cs := #[.int .i64 a, .int .u32 b, .bool e, .slice A n c]) (t := 42) ?hr ?_; (case hd => rfl); (case hg => rfl); (case hr => first | (go_simp; done) | (go_simp; rfl)); intro gs hg w1_ hbox hB; have HBo := Aside0.mk HB.out; have nHB := Aside0.mk (HB.out.trans (hB.mono HB.out.size)); clear HB; have HB := nHB; clear nHB; have BK_gs := Aside0.mk hbox; have GE_gs := Aside0.mk (show w.heap.size ≤ gs by rw [hg]; exact HBo.out.size); clear hg hbox hB; have hc_gs_0 : w1_.cell? ⟨gs, 0, none⟩ = some (.int .i64 a) := (blk_cell BK_gs.out 0).trans rfl; have hf_gs_0 := blk_frozen BK_gs.out 0; have hc_gs_1 : w1_.cell? ⟨gs, 1, none⟩ = some (.int .u32 b) := (blk_cell BK_gs.out 1).trans rfl; have hf_gs_1 := blk_frozen BK_gs.out 1; have hc_gs_2 : w1_.cell? ⟨gs, 2, none⟩ = some (.bool e) := (blk_cell BK_gs.out 2).trans rfl; have hf_gs_2 := blk_frozen BK_gs.out 2; have hc_gs_3 : w1_.cell? ⟨gs, 3, none⟩ = some (.slice A n c) := (blk_cell BK_gs.out 3).trans rfl; have hf_gs_3 := blk_frozen BK_gs.out 3; clear HBo) | (go_at_call 52; refine (compare_w a id _).mono ?_; rintro e w7_ ⟨rfl, rfl⟩))
  go_ret
  exact ⟨rfl, HB.out⟩
set_option maxHeartbeats 8000000 in
set_option maxRecDepth 100000 in
theorem search_w {l : List S42} {id : Int} {i : Nat} (hi : i ≤ l.length) (hlo : ∀ k : Nat, k < i → (rd_T42 l k).f0 < id) (hhi : ∀ k : Nat, i ≤ k → k < l.length → id ≤ (rd_T42 l k).f0) (hn : l.length ≤ 1000000) (A : Option Addr) (c : Nat) (w : World) (hr : Kd.C k42 w A l.length l) (hc : l.length ≤ c) :
    Calls Try.prog 50 #[.slice A l.length c, .int .i64 id, .func (.func 51) #[] #[]] w fun e w' => e = .returned (.tuple #[.int .i64 i, .bool (decide (i < l.length) && decide ((rd_T42 l i).f0 = id))]) ∧ Below w.heap.size w w' := by
  have HB := Aside0.mk (Below.refl w.heap.size w)
  have HC := Aside0.mk hr
  have HK := Aside0.mk hc
  have XI := Aside0.mk hi
  have XLO := Aside0.mk hlo
  have XHI := Aside0.mk hhi
  have XN := Aside0.mk hn
  clear hr hc hi hlo hhi hn
  go_enter Try.func50, Try.ntmps50
  go_wp2
  go_loopg [9, 10] l.length (fun gk v9 v10 w' => ∃ p q : Nat, v9 = .int .i64 (p : Int) ∧ v10 = .int .i64 (q : Int) ∧ Aside0 (p ≤ i ∧ i ≤ q ∧ q ≤ l.length ∧ gk = q - p) ∧ Aside0 (Below w.heap.size w w'))
  case atStart => exact ⟨0, l.length, rfl, rfl, ⟨Nat.zero_le _, XI.out, Nat.le_refl _, rfl⟩, HB⟩
  case round =>
    clear HB
    obtain ⟨p, q, rfl, rfl, HI, HB⟩ := hrel
    by_cases hlt : p < q
    · have c17 : decide ((p : Int) < (q : Int)) = true := decide_eq_true (by omega)
      obtain ⟨i1, i2, i3, i4⟩ := HI.out
      have hl := XN.out
      obtain ⟨m, hm⟩ : ∃ m, m = (p + q) / 2 := ⟨_, rfl⟩
      have hmid : wrap64 (IntKind.u64.wrap (wrap64 ((p : Int) + (q : Int))) / 2) = (m : Int) := by
        rw [show wrap64 ((p : Int) + (q : Int)) = (p : Int) + (q : Int) by unfold wrap64; omega]
        rw [show IntKind.u64.wrap ((p : Int) + (q : Int)) = (p : Int) + (q : Int) by simp only [IntKind.wrap, IntKind.bits, IntKind.signed, Bool.false_and, Bool.false_eq_true, if_false]; omega]
        unfold wrap64
        omega
      have HM := Aside0.mk (show p ≤ m ∧ m < q by omega)
      have p1 : (0 : Int) ≤ (m : Int) := by omega
      have p2 : (m : Int) < (l.length : Int) := by omega
      obtain ⟨ad, A3, c3, he, hx0, hx1, hx2, hx3, _, _⟩ := at_T42 (Kd.C_below HC.out HB.out) (m : Int) p1 p2
      subst he
      rw [Int.toNat_natCast] at hx0 hx1 hx2 hx3
      obtain ⟨x, hx⟩ : ∃ x, x = rd_T42 l (m : Int) := ⟨_, rfl⟩
      rw [← hx] at hx0 hx1 hx2 hx3
      have HX := Aside0.mk hx
      clear hx hm i1 i2 i3 i4
      replace p1 := eq_true p1
      replace p2 := eq_true p2
      by_cases hcm : x.f0 < id
      · have c31 : decide (cmp3 x.f0 id < 0) = true := by unfold cmp3; rw [if_pos hcm]; decide
        have HCM := Aside0.mk hcm
        clear hcm
        go_wp2_with (first | (go_at_call 51; refine (place1_w x.f0 x.f1 x.f2.f0 A3 x.f2.f1.length c3 id _).mono ?_; rintro e wx ⟨rfl, hB⟩; have nB := Aside0.mk (HB.out.trans (hB.mono HB.out.size)); clear HB hx0 hx1 hx2 hx3 hB; have HB := nB; clear nB))
        go_roundg (q - (m + 1))
        case measure => have := HI.out; have := HM.out; omega
        case rel =>
          have hq := HI.out
          have hm := HM.out
          have him : m + 1 ≤ i := by
            by_cases hh : i ≤ m
            · have h1 := XHI.out m hh (by omega)
              have h2 := HCM.out
              rw [HX.out] at h2
              omega
            · omega
          refine ⟨m + 1, q, ?_, rfl, ⟨him, hq.2.1, hq.2.2.1, rfl⟩, HB⟩
          show Value.int .i64 (wrap64 ((m : Int) + 1)) = _
          have h1 := XN.out
          have h2 : wrap64 ((m : Int) + 1) = ((m + 1 : Nat) : Int) := by unfold wrap64; omega
          rw [h2]
      · have c31 : decide (cmp3 x.f0 id < 0) = false := by unfold cmp3; rw [if_neg hcm]; split <;> decide
        have HCM := Aside0.mk hcm
        clear hcm
        go_wp2_with (first | (go_at_call 51; refine (place1_w x.f0 x.f1 x.f2.f0 A3 x.f2.f1.length c3 id _).mono ?_; rintro e wx ⟨rfl, hB⟩; have nB := Aside0.mk (HB.out.trans (hB.mono HB.out.size)); clear HB hx0 hx1 hx2 hx3 hB; have HB := nB; clear nB))
        go_roundg (m - p)
        case measure => have := HI.out; have := HM.out; omega
        case rel =>
          have hq := HI.out
          have hm := HM.out
          have him : i ≤ m := by
            by_cases hh : i ≤ m
            · exact hh
            · have h1 := XLO.out m (by omega)
              have h2 := HCM.out
              rw [HX.out] at h2
              omega
          exact ⟨p, m, rfl, rfl, ⟨hq.1, him, by omega, rfl⟩, HB⟩
    · have c17 : decide ((p : Int) < (q : Int)) = false := decide_eq_false (by omega)
      have hl := XN.out
      have hie : p = i ∧ q = i := by have := HI.out; omega
      obtain ⟨rfl, rfl⟩ := hie
      clear hlt
      by_cases hin : q < l.length
      · have c38 : decide ((q : Int) < (l.length : Int)) = true := decide_eq_true (by omega)
        have p1 : (0 : Int) ≤ (q : Int) := by omega
        have p2 : (q : Int) < (l.length : Int) := by omega
        obtain ⟨ad, A3, c3, he, hx0, hx1, hx2, hx3, _, _⟩ := at_T42 (Kd.C_below HC.out HB.out) (q : Int) p1 p2
        subst he
        rw [Int.toNat_natCast] at hx0 hx1 hx2 hx3
        obtain ⟨x, hx⟩ : ∃ x, x = rd_T42 l (q : Int) := ⟨_, rfl⟩
        rw [← hx] at hx0 hx1 hx2 hx3
        have HX := Aside0.mk hx
        have HIN := Aside0.mk hin
        clear hx hin
        replace p1 := eq_true p1
        replace p2 := eq_true p2
        have c47 : (cmp3 x.f0 id == 0) = decide (x.f0 = id) := cmp3_eq _ _
        go_wp2_with (first | (go_at_call 51; refine (place1_w x.f0 x.f1 x.f2.f0 A3 x.f2.f1.length c3 id _).mono ?_; rintro e wx ⟨rfl, hB⟩; have nB := Aside0.mk (HB.out.trans (hB.mono HB.out.size)); clear HB hx0 hx1 hx2 hx3 hB; have HB := nB; clear nB))
        go_ret2
        rw [decide_eq_true HIN.out, Bool.true_and, ← HX.out]
        exact ⟨rfl, HB.out⟩
      · have c38 : decide ((q : Int) < (l.length : Int)) = false := decide_eq_false (by omega)
        have HIN := Aside0.mk hin
        go_wp2
        go_ret2
        rw [decide_eq_false HIN.out, Bool.false_and]
        exact ⟨rfl, HB.out⟩
set_option maxHeartbeats 8000000 in
set_option maxRecDepth 100000 in
theorem place_w {l : List S42} {id : Int} {i : Nat} (hi : i ≤ l.length) (hlo : ∀ k : Nat, k < i → (rd_T42 l k).f0 < id) (hhi : ∀ k : Nat, i ≤ k → k < l.length → id ≤ (rd_T42 l k).f0) (hn : l.length ≤ 1000000) (A_l : Option Addr) (c_l : Nat) (w : World) (hr : Kd.C k42 w A_l l.length l) (hc : l.length ≤ c_l) :
    Calls Try.prog 29 #[.agg #[.slice A_l l.length c_l], .int .i64 id] w fun e w' => e = .returned (.tuple #[.int .i64 i, .bool (decide (i < l.length) && decide ((rd_T42 l i).f0 = id))]) ∧ Below w.heap.size w w' := by
  have hu40 := Try.underlying40
  have HB := Aside0.mk (Below.refl w.heap.size w)
  have HC_l := Aside0.mk hr
  have HK_l := Aside0.mk hc
  have XI := Aside0.mk hi
  have XLO := Aside0.mk hlo
  have XHI := Aside0.mk hhi
  have XN := Aside0.mk hn
  clear hr hc hi hlo hhi hn
  go_enter Try.func29, Try.ntmps29
  go_wp2_with (first | ((with_reducible refine gate_dst (N := 2) rfl ?_); (try (refine gate_guard (by rfl) ?_; dsimp only)); refine box_event ?hg (N := 2) ?hd (cs := #[.slice A_l l.length c_l]) (t := 40) ?hr ?_; (case hd => rfl); (case hg => rfl); (case hr => first | (go_simp; done) | (go_simp; rfl)); intro gh hg w1_ hbox hB; have HBo := Aside0.mk HB.out; have nHB := Aside0.mk (HB.out.trans (hB.mono HB.out.size)); clear HB; have HB := nHB; clear nHB; have BK_gh := Aside0.mk hbox; have GE_gh := Aside0.mk (show w.heap.size ≤ gh by rw [hg]; exact HBo.out.size); clear hg hbox hB; have hc_gh_0 : w1_.cell? ⟨gh, 0, none⟩ = some (.slice A_l l.length c_l) := (blk_cell BK_gh.out 0).trans rfl; have hf_gh_0 := blk_frozen BK_gh.out 0; clear HBo) | (go_at_call 50; with_reducible refine (search_w XI.out XLO.out XHI.out XN.out _ _ _ (Kd.C_below HC_l.out HB.out) HK_l.out).mono ?_; rintro e w2_ ⟨rfl, hB⟩; have nHB := Aside0.mk (HB.out.trans (hB.mono HB.out.size)); clear HB; have HB := nHB; clear nHB; clear hc_gh_0 hf_gh_0; have nBK := Aside0.mk (blk_below (g := gh) (o := .cells #[.slice A_l l.length c_l] 40 (0, 0)) BK_gh.out hB); clear BK_gh; have BK_gh := nBK; clear nBK; have hc_gh_0 : w2_.cell? ⟨gh, 0, none⟩ = some (.slice A_l l.length c_l) := (blk_cell BK_gh.out 0).trans rfl; have hf_gh_0 := blk_frozen BK_gh.out 0; clear hB))
  go_ret2
  exact ⟨rfl, HB.out⟩
end Go.Proofs.Ytjncmiclpaodhaa
/-
  Rows of sockets that were made: what they are, put together; the contract of host.changed in a plainer form.
-/
namespace Go.Proofs.Ytjncmiclpaodhaa
open Go.RowKit Go.Lib Go.Proofs.YtjncmiclpaodhaaW.PrintWords Go.Proofs.Ytjncmiclpaodhaa.PHo
set_option linter.unusedVariables false
set_option linter.unusedSimpArgs false
theorem blk_grown {w w' : World} {j : Nat} {o : Obj} {row : Option Nat} (h : w.heap[j]? = some o) (hg : w.grownBy w' row) (hne : some j ≠ row) : w'.heap[j]? = some o := by
  rw [hg.block j (Array.getElem?_eq_some_iff.1 h).1 hne]; exact h
theorem grown_trans {w w1 w2 : World} {row : Option Nat} (h : w.grownBy w1 row) (h' : w1.grownBy w2 row) : w.grownBy w2 row :=
  ⟨h'.os.trans h.os, h'.tape.trans h.tape, h'.output.trans h.output, Nat.le_trans h.size h'.size, fun k hk hne => (h'.block k (Nat.lt_of_lt_of_le hk h.size) hne).trans (h.block k hk hne)⟩
theorem k42_FKlen {w : World} {ok : Nat → Prop} {x : S42} {c : List Value} (h : Kd.FK k42 w ok x c) : c.length = 4 ∧ ∀ u ∈ c, u.oneCell' = true := ⟨k42.K_len (Kd.FK_now h), k42.K_one (Kd.FK_now h)⟩
theorem N_of_own {w : World} {base : Nat} {ok : Nat → Prop} {v : Value} {xs : List S42} {inner : List Value} (h0 : ∀ k, v.ownBlock = some k → ok k) (ho : w.ownsRow base 42 4 v xs.length inner) (hr : Reps (Kd.FK k42 w (fun k => ok k ∧ some k ≠ v.ownBlock)) 4 xs inner) : Kd.N k42 42 w base ok v xs := by
  refine ⟨h0, Kd.chunks 4 xs.length inner, Kd.chunks_length _ _ _, ⟨fun k hk => hk.symm, inner, by rw [Kd.chunks_length]; exact ho, Kd.reps_raw hr (fun x c hp => k42_FKlen hp)⟩, fun j x c hx hc => ?_⟩
  rw [Kd.chunks_get hc]
  exact hr.2 j x hx
theorem made_V {wn : World} {P : Nat → Prop} {nn : Nat} {v : Value} {xs : List S42} {inner : List Value} (hP : ∀ k, P k → k < nn) (ho : wn.ownsRow nn 42 4 v xs.length inner) (hr : Reps (Kd.FK k42 wn P) 4 xs inner) : Kd.V k42 42 wn 0 (fun k => P k ∨ nn ≤ k) v xs :=
  Kd.N_V (base := nn) (N_of_own (fun k hk => .inr (ho.lt k hk).1) ho (hr.imp_ (fun _ _ hp => Kd.FK_mono hp (fun k hk => ⟨.inl hk, fun e => by have := (ho.lt k e.symm).1; have := hP k hk; omega⟩))))
theorem set4 (l : List Value) (n : Nat) (h : n + 4 ≤ l.length) (a b c d : Value) : (((l.set n a).set (n + 1) b).set (n + 2) c).set (n + 3) d = l.take n ++ [a, b, c, d] ++ l.drop (n + 4) := by
  apply List.ext_getElem?
  intro j
  rw [List.getElem?_append, List.getElem?_append, List.getElem?_take, List.getElem?_drop]
  simp only [List.getElem?_set, List.length_set, List.length_append, List.length_take, List.length_cons, List.length_nil]
  have hm : min n l.length = n := by omega
  rw [hm]
  rcases Nat.lt_or_ge j n with hj | hj
  · rw [if_neg (by omega), if_neg (by omega), if_neg (by omega), if_neg (by omega), if_pos (by omega), if_pos hj, if_pos hj]
  · rcases Nat.lt_or_ge j (n + 4) with hj2 | hj2
    · rw [if_pos (show j < n + (0 + 1 + 1 + 1 + 1) by omega), if_neg (show ¬ j < n by omega)]
      obtain rfl | rfl | rfl | rfl : j = n ∨ j = n + 1 ∨ j = n + 2 ∨ j = n + 3 := by omega
      · rw [if_neg (by omega), if_neg (by omega), if_neg (by omega), if_pos rfl, if_pos (by omega), Nat.sub_self]; rfl
      · rw [if_neg (by omega), if_neg (by omega), if_pos rfl, if_pos (by omega), Nat.add_sub_cancel_left]; rfl
      · rw [if_neg (by omega), if_pos rfl, if_pos (by omega), Nat.add_sub_cancel_left]; rfl
      · rw [if_pos rfl, if_pos (by omega), Nat.add_sub_cancel_left]; rfl
    · rw [if_neg (by omega), if_neg (by omega), if_neg (by omega), if_neg (by omega), if_neg (show ¬ j < n + (0 + 1 + 1 + 1 + 1) by omega), show n + 4 + (j - (n + (0 + 1 + 1 + 1 + 1))) = j by omega]
theorem own_store4 {w : World} {B g n cap : Nat} {xs : List Value} (h : w.ownsRow B 42 4 (.slice (some ⟨g, 0, none⟩) n cap) n xs) (i : Nat) (hi : i < n) (a b c d : Value) :
    ((((w.setCell ⟨g, i * 4, none⟩ a).setCell ⟨g, i * 4 + 1, none⟩ b).setCell ⟨g, i * 4 + 2, none⟩ c).setCell ⟨g, i * 4 + 3, none⟩ d).ownsRow B 42 4 (.slice (some ⟨g, 0, none⟩) n cap) n (xs.take (i * 4) ++ [a, b, c, d] ++ xs.drop (i * 4 + 4)) ∧
      w.grownBy ((((w.setCell ⟨g, i * 4, none⟩ a).setCell ⟨g, i * 4 + 1, none⟩ b).setCell ⟨g, i * 4 + 2, none⟩ c).setCell ⟨g, i * 4 + 3, none⟩ d) (some g) := by
  obtain ⟨h1, g1⟩ := h.stored (i * 4) a
  obtain ⟨h2, g2⟩ := h1.stored (i * 4 + 1) b
  obtain ⟨h3, g3⟩ := h2.stored (i * 4 + 2) c
  obtain ⟨h4, g4⟩ := h3.stored (i * 4 + 3) d
  rw [set4 _ _ (by rw [h.1]; omega)] at h4
  exact ⟨h4, grown_trans (grown_trans (grown_trans g1 g2) g3) g4⟩
/-- What a call of Put or Drop comes to: the host, what is said, and how it went; P: the blocks of what came in. -/
def PutPost (P : Nat → Prop) (w : World) (l : List S42) (rs : List S36) (err : Int) (e : Ending) (w' : World) : Prop :=
  ∃ v0 v1 : Value, e = .returned (.tuple #[.agg #[v0], v1, .int .i64 err]) ∧ Kd.V k42 42 w' 0 (fun k => P k ∨ w.heap.size ≤ k) v0 l ∧ Kd.V k36 36 w' 0 (fun k => P k ∨ w.heap.size ≤ k) v1 rs ∧ Below w.heap.size w w'
theorem changed_w {k : Nat} {l l2 : List S42} {g : Int} {rs : List S36} {P : Nat → Prop} (h : host_changed.f k l l2 g = some (l2, rs, 0)) (A : Option Addr) (c : Nat) (v : Value) (w : World) (hr : Kd.C k42 w A l.length l) (hc : l.length ≤ c) (hv : Kd.V k42 42 w 0 P v l2) :
    ∃ A2 c2, v = .slice A2 l2.length c2 ∧ Calls Try.prog 33 #[.agg #[.slice A l.length c], .agg #[.slice A2 l2.length c2], .int .u32 g] w fun e w' => ∃ A0 c0 A1 c1, e = .returned (.tuple #[.agg #[.slice A0 l2.length c0], .slice A1 rs.length c1, .int .i64 0]) ∧
      Kd.V k42 42 w' 0 (fun k => P k ∨ w.heap.size ≤ k) (.slice A0 l2.length c0) l2 ∧ Kd.V k36 36 w' 0 (fun k => P k ∨ w.heap.size ≤ k) (.slice A1 rs.length c1) rs ∧ Below w.heap.size w w' := by
  obtain ⟨A2, c2, rfl⟩ := Kd.V_slice hv
  refine ⟨A2, c2, rfl, ?_⟩
  refine (host_changed.calls k A c l P A2 c2 l2 g l2 rs 0 w hr hc (Kd.V_mk (Kd.V_reads' hv).2.1 (Kd.V_F hv)) h).mono ?_
  rintro e w' ⟨v0, v1, rfl, h0, h1, hB⟩
  obtain ⟨A0, c0, rfl⟩ := Kd.V_slice h0
  obtain ⟨A1, c1, rfl⟩ := Kd.V_slice h1
  exact ⟨A0, c0, A1, c1, rfl, Kd.V_mk (Kd.V_reads' h0).2.1 (Kd.V_F h0), Kd.V_mk (Kd.V_reads' h1).2.1 (Kd.V_F h1), hB⟩
end Go.Proofs.Ytjncmiclpaodhaa
