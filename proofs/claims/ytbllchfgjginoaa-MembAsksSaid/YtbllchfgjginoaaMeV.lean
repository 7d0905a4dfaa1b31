/-
  slices.Insert of one socket into a row of the call's own: the four roads.
-/
import Derived.Test.YtbllchfgjginoaaPMe0
import Derived.Shelf.Spec.SlicesInsert
import Derived.Lib.AppendZerosOnto
import Derived.Lib.Overlaps
import Derived.Test.YtbllchfgjginoaaVMore
import Derived.Test.YtbllchfgjginoaaVGuard
namespace Go.Proofs.Ytbllchfgjginoaa
open Go.RowKit Go.Lib Go.Proofs.YtbllchfgjginoaaW.PrintWords Go.Proofs.Ytbllchfgjginoaa.PMe
set_option linter.unusedVariables false
set_option linter.unusedSimpArgs false
theorem info49_ : (Try.prog.info? 49).map (fun i => (i.zero, i.size, i.bytes)) = some (some (.agg #[.int .u32 0, .int .i64 0]), 2, 16) := by kernel_rfl
theorem run_copy_wide {P : Program} (w : World) (dT sT ty elem : TypeId) (sz g o dLen dCap : Nat) (a : Addr) (sLen sCap m : Nat) (cur : Array Value) (t : TypeId) (cs : List Value)
    (hu : P.underlying dT = some (.slice elem)) (hs : (P.info? elem).map (·.size) = some sz)
    (hg : w.heap[g]? = some (.cells cur t (0, 0))) (hm : Nat.min sLen dLen = m) (hn : cs.length = m * sz)
    (hsrc : ∀ j v, cs[j]? = some v → w.cell? (a.add j) = some v) (hfit : o + cs.length ≤ cur.size) (h1 : ∀ v ∈ cs, v.oneCell' = true) :
    (Builtin.copy_ #[dT, sT] ty #[.slice (some ⟨g, o, none⟩) dLen dCap, .slice (some a) sLen sCap]).run P w =
      .ok (goInt m) (w.setRow g (cur.toList.take o ++ cs ++ cur.toList.drop (o + cs.length)).toArray) := by
  have hl := run_loadCells_list (P := P) w a cs hsrc
  have hst := run_storeCells_at P g o t cs 0 cur w hg (by simpa using hfit) h1
  cases hq : P.info? elem with
  | none => simp [hq] at hs
  | some i =>
    have hi : i.size = sz := by simpa [hq] using hs
    rw [hn] at hl
    simp [Builtin.copy_, run_underlying hu, Builtin.lenOf, Builtin.firstCells, sizeOf, typeInfo, hq, hi, hm, hl, hst]
theorem setRow_other (w : World) (g k : Nat) (c : Array Value) (h : k ≠ g) : (w.setRow g c).heap[k]? = w.heap[k]? := by
  unfold World.setRow
  simp [Array.getElem?_modify, Ne.symm h]
theorem setRow_grown (w : World) (g : Nat) (c : Array Value) : w.grownBy (w.setRow g c) (some g) :=
  ⟨rfl, rfl, rfl, by simp [World.setRow], fun k _ hk => setRow_other w g k c (fun e => hk (by rw [e]))⟩
theorem size49_ : (Try.prog.info? 49).map (·.size) = some 2 := by kernel_rfl
theorem sizeOf49_ (w : World) : (Go.sizeOf 49).run Try.prog w = .ok 2 w := by kernel_rfl
theorem add0_ (b o k : Nat) : (⟨b, o, none⟩ : Addr).add k = ⟨b, o + k, none⟩ := by unfold Addr.add; split <;> simp_all
set_option maxHeartbeats 4000000 in
set_option maxRecDepth 100000 in
theorem insert_shift_w (b n c i vb vc : Nat) (cur : Array Value) (cs vs : List Value) (vcur : Array Value) (w : World) (hi : i < n) (hroom : n + 1 ≤ c) (hc63 : c ≤ 9223372036854775807) (hvb : vb ≠ b)
    (hb : w.heap[b]? = some (.cells cur 49 (0, 0))) (hsz : cur.size = c * 2) (hcs : (cur.toList.take (n * 2)).drop (i * 2) = cs)
    (hv : w.heap[vb]? = some (.cells vcur 49 (0, 0))) (hvs : vcur.toList.take 2 = vs) (hvl : vs.length = 2) (h1c : ∀ v ∈ cs, v.oneCell' = true) (h1v : ∀ v ∈ vs, v.oneCell' = true) :
    Calls Try.prog 55 #[.slice (some ⟨b, 0, none⟩) n c, .int .i64 i, .slice (some ⟨vb, 0, none⟩) 1 vc] w fun e w' =>
      e = .returned (.slice (some ⟨b, 0, none⟩) (n + 1) c) ∧ w.grownBy w' (some b) ∧ ∃ cur2 : Array Value, w'.heap[b]? = some (.cells cur2 49 (0, 0)) ∧ cur2.size = cur.size ∧ cur2.toList.take ((n + 1) * 2) = cur.toList.take (i * 2) ++ vs ++ cs := by
  have hz2 : ¬ ((i : Int) = (n : Int)) := by omega
  have hcl : cs.length = (n - i) * 2 := by rw [← hcs, List.length_drop, List.length_take, Array.length_toList]; omega
  have hw1 : IntKind.i64.wrap ((i : Int) + (1 : Int)) = (i : Int) + (1 : Int) := by rw [IntKind.wrap_i64]; omega
  have hw2 : IntKind.i64.wrap ((n : Int) + (1 : Int)) = (n : Int) + (1 : Int) := by rw [IntKind.wrap_i64]; omega
  have hov : ∀ o lb cb, (callFunc 70 #[.slice (some ⟨vb, 0, none⟩) 1 vc, .slice (some ⟨b, o, none⟩) lb cb]).run Try.prog w = .ok (.value (.bool false)) w := fun o lb cb => by
    rw [run_callFunc_extern Try.func70 (by kernel_rfl) (by kernel_rfl) (by kernel_rfl) (e := Extern.SlicesOverlaps.overlaps #[26, 26] #[4]) (by kernel_rfl),
      Lib.run_overlaps_apart w 26 4 49 Try.underlying26 2 sizeOf49_ ⟨vb, 0, none⟩ ⟨b, o, none⟩ 1 vc lb cb hvb 49 49 vcur.size cur.size (by simp [World.shape?, hv]) (by simp [World.shape?, hb]) (by omega) (by simp [World.frozen?, hv]) (by simp [World.frozen?, hv])]
    rfl
  have hbw : b < w.heap.size := (Array.getElem?_eq_some_iff.1 hb).1
  have hcurl : cur.toList.length = c * 2 := by rw [Array.length_toList, hsz]
  obtain ⟨cur1, hcur1⟩ : ∃ cur1 : Array Value, cur1 = (cur.toList.take ((i + 1) * 2) ++ cs ++ cur.toList.drop ((i + 1) * 2 + cs.length)).toArray := ⟨_, rfl⟩
  obtain ⟨W1, hW1⟩ : ∃ W1, W1 = w.drew.setRow b cur1 := ⟨_, rfl⟩
  have hcl1 : cur1.toList.length = c * 2 := by rw [hcur1]; simp only [List.toList_toArray, List.length_append, List.length_take, List.length_drop, hcurl, hcl]; omega
  have hb1 : W1.heap[b]? = some (.cells cur1 49 (0, 0)) := by rw [hW1]; exact setRow_heap w.drew b cur _ 49 _ hb
  have hv1 : W1.heap[vb]? = some (.cells vcur 49 (0, 0)) := by rw [hW1, setRow_other _ _ _ _ hvb]; exact hv
  obtain ⟨cur2, hcur2⟩ : ∃ cur2 : Array Value, cur2 = (cur1.toList.take (i * 2) ++ vs ++ cur1.toList.drop (i * 2 + vs.length)).toArray := ⟨_, rfl⟩
  have hcp1 : ∀ ty dc sc, (Builtin.copy_ #[26, 26] ty #[.slice (some ⟨b, (i + 1) * 2, none⟩) (n - i) dc, .slice (some ⟨b, i * 2, none⟩) (n + 1 - i) sc]).run Try.prog w.drew = .ok (goInt ((n - i : Nat) : Int)) W1 := fun ty dc sc => by
    rw [run_copy_wide w.drew 26 26 ty 49 2 b ((i + 1) * 2) (n - i) dc ⟨b, i * 2, none⟩ (n + 1 - i) sc (n - i) cur 49 cs Try.underlying26 size49_ hb (by simp only [Nat.min_def]; split <;> omega) hcl
      (fun j v hj => by
        rw [add0_]
        rw [← hcs, List.getElem?_drop, List.getElem?_take] at hj
        split at hj
        · have h2 := cell_of_row w.drew b (i * 2 + j) cur 49 (0, 0) hb
          rw [h2, ← Array.getElem?_toList]; exact hj
        · cases hj)
      (by rw [hcl, hsz]; omega) h1c, hW1, hcur1]
  have hcp2 : ∀ ty dc, (Builtin.copy_ #[26, 26] ty #[.slice (some ⟨b, i * 2, none⟩) (n + 1 - i) dc, .slice (some ⟨vb, 0, none⟩) 1 vc]).run Try.prog W1 = .ok (goInt ((1 : Nat) : Int)) (W1.setRow b cur2) := fun ty dc => by
    rw [run_copy_wide W1 26 26 ty 49 2 b (i * 2) (n + 1 - i) dc ⟨vb, 0, none⟩ 1 vc 1 cur1 49 vs Try.underlying26 size49_ hb1 (by simp only [Nat.min_def]; split <;> omega) (by rw [hvl])
      (fun j v hj => by
        rw [add0_]
        rw [← hvs, List.getElem?_take] at hj
        split at hj
        · have h2 := cell_of_row W1 vb (0 + j) vcur 49 (0, 0) hv1
          rw [h2, ← Array.getElem?_toList, Nat.zero_add]; exact hj
        · cases hj)
      (by rw [← Array.length_toList, hcl1, hvl]; omega) h1v, hcur2]
  have hres : cur2.toList.take ((n + 1) * 2) = cur.toList.take (i * 2) ++ vs ++ cs := by
    have e1 : cur1.toList.take (i * 2) = cur.toList.take (i * 2) := by
      rw [hcur1, List.toList_toArray, List.append_assoc, List.take_append_of_le_length (by rw [List.length_take]; omega), List.take_take]
      congr 1; omega
    have e2 : cur1.toList.drop (i * 2 + vs.length) = cs ++ cur.toList.drop ((i + 1) * 2 + cs.length) := by
      rw [hcur1, List.toList_toArray, List.append_assoc, List.drop_left' (by rw [List.length_take]; omega)]
    rw [hcur2, List.toList_toArray, e1, e2, ← List.append_assoc]
    rw [List.take_left' (by simp only [List.length_append, List.length_take, hcl, hvl]; omega)]
  have hsz2 : cur2.size = cur.size := by
    rw [← Array.length_toList, hcur2, List.toList_toArray]
    simp only [List.length_append, List.length_take, List.length_drop, hcl1, hvl, hsz]; omega
  have hg1 : w.grownBy W1 (some b) := by rw [hW1]; exact ⟨rfl, rfl, rfl, (setRow_grown w.drew b cur1).size, (setRow_grown w.drew b cur1).block⟩
  have hg2 : w.grownBy (W1.setRow b cur2) (some b) := ⟨hg1.os, hg1.tape, hg1.output, Nat.le_trans hg1.size (setRow_grown W1 b cur2).size, fun k hk hne => ((setRow_grown W1 b cur2).block k (Nat.lt_of_lt_of_le hk hg1.size) hne).trans (hg1.block k hk hne)⟩
  have hb2 : (W1.setRow b cur2).heap[b]? = some (.cells cur2 49 (0, 0)) := setRow_heap W1 b cur1 cur2 49 _ hb1
  obtain ⟨W2, hW2⟩ : ∃ W2, W2 = W1.setRow b cur2 := ⟨_, rfl⟩
  rw [← hW2] at hg2 hb2 hcp2
  clear hcur1 hcur2 hW1 hW2
  have hb1_ : (0 : Int) ≤ (i : Int) + (1 : Int) := by omega
  have hin : i ≤ n := by omega
  have htn : ((i : Int) + (1 : Int)).toNat = i + 1 := by omega
  have hb5 : ¬ (c = i + 1) := by omega
  have hb3 : (i : Int) ≤ (n : Int) + (1 : Int) := by omega
  have hb4 : ¬ (c = i) := by omega
  go_enter Try.func55, Try.ntmps55
  go_wp2_with (simp only [hov])
  go_region_law (refine step_copy_runI rfl _ _ 26 26 rfl _ _ (by simp [Act.eval, Act.put]) (by simp [Act.eval, Act.put]) (hcp1 _ _ _) ?_)
  go_wp2_with (at_builtin; refine wpList_copy_runI _ rfl _ _ 26 26 rfl _ _ rfl rfl (hcp2 _ _) ?_)
  go_ret
  exact ⟨rfl, hg2, cur2, hb2, hsz2, hres⟩
theorem grown_none {w w' : World} {b : Nat} (h : w.grownBy w' (some b)) (hb : w.heap.size ≤ b) (r : Option Nat) : w.grownBy w' r :=
  ⟨h.os, h.tape, h.output, h.size, fun k hk _ => h.block k hk (fun e => by injection e with e; omega)⟩
set_option maxHeartbeats 4000000 in
set_option maxRecDepth 100000 in
theorem insert_grow_w (b n c i vb vc : Nat) (cur : Array Value) (cs vs : List Value) (vcur : Array Value) (w : World) (hi : i < n) (hroom : ¬ n + 1 ≤ c) (hnc : n ≤ c) (hn : n ≤ 1000000)
    (hb : w.heap[b]? = some (.cells cur 49 (0, 0))) (hsz : cur.size = c * 2) (hcs : (cur.toList.take (n * 2)).drop (i * 2) = cs)
    (hv : w.heap[vb]? = some (.cells vcur 49 (0, 0))) (hvs : vcur.toList.take 2 = vs) (hvl : vs.length = 2) (h1c : ∀ v ∈ cs, v.oneCell' = true) (h1v : ∀ v ∈ vs, v.oneCell' = true) :
    Calls Try.prog 55 #[.slice (some ⟨b, 0, none⟩) n c, .int .i64 i, .slice (some ⟨vb, 0, none⟩) 1 vc] w fun e w' =>
      ∃ G, n + 1 ≤ G ∧ G ≤ maxLen ∧ e = .returned (.slice (some ⟨w.heap.size, 0, none⟩) (n + 1) G) ∧ w.grownBy w' none ∧ ∃ cur2 : Array Value, w'.heap[w.heap.size]? = some (.cells cur2 49 (0, 0)) ∧ cur2.size = G * 2 ∧ cur2.toList.take ((n + 1) * 2) = cur.toList.take (i * 2) ++ vs ++ cs := by
  have hz2 : ¬ ((i : Int) = (n : Int)) := by omega
  have hcl : cs.length = (n - i) * 2 := by rw [← hcs, List.length_drop, List.length_take, Array.length_toList]; omega
  have hw1 : IntKind.i64.wrap ((i : Int) + (1 : Int)) = (i : Int) + (1 : Int) := by rw [IntKind.wrap_i64]; omega
  have hw2 : IntKind.i64.wrap ((n : Int) + (1 : Int)) = (n : Int) + (1 : Int) := by rw [IntKind.wrap_i64]; omega
  have hw3 : IntKind.i64.wrap ((n : Int) + (1 : Int) - (i : Int)) = ((n + 1 - i : Nat) : Int) := by rw [IntKind.wrap_i64]; omega
  have hz3 : (c : Int) < (n : Int) + (1 : Int) := by omega
  have hbw : b < w.heap.size := (Array.getElem?_eq_some_iff.1 hb).1
  have hvw : vb < w.heap.size := (Array.getElem?_eq_some_iff.1 hv).1
  have hcurl : cur.toList.length = c * 2 := by rw [Array.length_toList, hsz]
  obtain ⟨i0, hi0, hz0⟩ := Option.map_eq_some_iff.1 info49_
  simp only [Prod.mk.injEq] at hz0
  obtain ⟨hz0, hzs, hzb⟩ := hz0
  have hold : (Builtin.firstCells i0.size i (.slice (some ⟨b, 0, none⟩) i c)).run Try.prog w.drew = .ok (cur.toList.take (i * 2)).toArray w.drew := by
    rw [hzs]
    exact run_firstCells_some w.drew 2 i ⟨b, 0, none⟩ i c (cur.toList.take (i * 2)) (by rw [List.length_take]; omega) (fun j v hj => by
      rw [add0_, Nat.zero_add]
      rw [List.getElem?_take] at hj
      split at hj
      · have h2 := cell_of_row w.drew b j cur 49 (0, 0) hb
        rw [h2, ← Array.getElem?_toList]; exact hj
      · cases hj)
  obtain ⟨G, hG⟩ : ∃ G, G = grownCap w (n + 1) c 49 := ⟨_, rfl⟩
  have hGn : n + 1 ≤ G := by rw [hG]; exact grownCap_ge w _ _ _
  have hGm : G ≤ maxLen := by rw [hG]; exact grownCap_le_maxLen w (n + 1) c 49 (by unfold maxLen; omega)
  have hG63 : G ≤ 9223372036854775807 := by unfold maxLen at hGm; omega
  obtain ⟨ROW, hROW⟩ : ∃ ROW : Array Value, ROW = (cur.toList.take (i * 2)).toArray ++ Builtin.zeroCells (Value.agg #[.int .u32 0, .int .i64 0]).cells (n + 1 - i) ++ Builtin.zeroCells (Value.agg #[.int .u32 0, .int .i64 0]).cells (G - (n + 1)) := ⟨_, rfl⟩
  have hRl : ROW.size = G * 2 := by
    rw [hROW]
    simp only [Array.size_append, List.size_toArray, List.length_take, hcurl, size_zeroCells]
    rw [show (Value.agg #[.int .u32 0, .int .i64 0]).cells.size = 2 from by kernel_rfl]
    omega
  have hRt : ROW.toList.take (i * 2) = cur.toList.take (i * 2) := by
    rw [hROW]
    simp only [Array.toList_append, List.append_assoc]
    rw [List.take_append_of_le_length (by rw [List.length_take]; omega), List.take_take, Nat.min_self]
  have hik : i + (n + 1 - i) = n + 1 := by omega
  obtain ⟨W1, hW1⟩ : ∃ W1, W1 = w.drew.alloc (.cells ROW 49) := ⟨_, rfl⟩
  have hrz : ∀ ty, (Builtin.append_ #[26, 3] ty #[.slice (some ⟨b, 0, none⟩) i c, .int .i64 ((n + 1 - i : Nat) : Int)]).run Try.prog w = .ok (.slice (some ⟨w.heap.size, 0, none⟩) (n + 1) G) W1 := fun ty => by
    have h := Lib.run_append_grow_zeros w 26 3 ty 49 i0 _ .i64 .i64 Try.underlying26 Try.underlying3 hi0 hz0 (some ⟨b, 0, none⟩) i c (cur.toList.take (i * 2)) hold (n + 1 - i) (by omega) (by omega) (by omega) (by omega) (by rw [hzb]; omega) (by rw [hzb, hik]; exact growslice_fits (by omega) (by omega))
    rw [hik, ← hG] at h
    rw [h, hW1, hROW]
  have hg1 : w.grownBy W1 none := by rw [hW1]; exact ⟨rfl, rfl, rfl, (World.grownBy_alloc w.drew _ none).size, (World.grownBy_alloc w.drew _ none).block⟩
  have hb1 : W1.heap[w.heap.size]? = some (.cells ROW 49 (0, 0)) := by rw [hW1]; exact heap_alloc_new w.drew _
  have hv1 : W1.heap[vb]? = some (.cells vcur 49 (0, 0)) := by rw [hg1.block vb hvw (by simp)]; exact hv
  have ho1 : W1.heap[b]? = some (.cells cur 49 (0, 0)) := by rw [hg1.block b hbw (by simp)]; exact hb
  clear hW1
  obtain ⟨cur1, hcur1⟩ : ∃ cur1 : Array Value, cur1 = (ROW.toList.take (i * 2) ++ vs ++ ROW.toList.drop (i * 2 + vs.length)).toArray := ⟨_, rfl⟩
  have hcp1 : ∀ ty dc, (Builtin.copy_ #[26, 26] ty #[.slice (some ⟨w.heap.size, i * 2, none⟩) (n + 1 - i) dc, .slice (some ⟨vb, 0, none⟩) 1 vc]).run Try.prog W1 = .ok (goInt ((1 : Nat) : Int)) (W1.setRow w.heap.size cur1) := fun ty dc => by
    rw [run_copy_wide W1 26 26 ty 49 2 w.heap.size (i * 2) (n + 1 - i) dc ⟨vb, 0, none⟩ 1 vc 1 ROW 49 vs Try.underlying26 size49_ hb1 (by simp only [Nat.min_def]; split <;> omega) (by rw [hvl])
      (fun j v hj => by
        rw [add0_]
        rw [← hvs, List.getElem?_take] at hj
        split at hj
        · have h2 := cell_of_row W1 vb (0 + j) vcur 49 (0, 0) hv1
          rw [h2, ← Array.getElem?_toList, Nat.zero_add]; exact hj
        · cases hj)
      (by rw [hRl, hvl]; omega) h1v, hcur1]
  have hl1 : cur1.toList.length = G * 2 := by
    rw [hcur1, List.toList_toArray]
    simp only [List.length_append, List.length_take, List.length_drop, Array.length_toList, hvl, hRl]; omega
  have hg2 : w.grownBy (W1.setRow w.heap.size cur1) none :=
    grown_none (w' := W1.setRow w.heap.size cur1) (b := w.heap.size) ⟨hg1.os, hg1.tape, hg1.output, Nat.le_trans hg1.size (setRow_grown W1 w.heap.size cur1).size, fun k hk hne => ((setRow_grown W1 w.heap.size cur1).block k (Nat.lt_of_lt_of_le hk hg1.size) hne).trans (hg1.block k hk (by simp))⟩ (Nat.le_refl _) none
  have hb2 : (W1.setRow w.heap.size cur1).heap[w.heap.size]? = some (.cells cur1 49 (0, 0)) := setRow_heap W1 w.heap.size ROW cur1 49 _ hb1
  have ho2 : (W1.setRow w.heap.size cur1).heap[b]? = some (.cells cur 49 (0, 0)) := by rw [setRow_other _ _ _ _ (by omega)]; exact ho1
  obtain ⟨W2, hW2⟩ : ∃ W2, W2 = W1.setRow w.heap.size cur1 := ⟨_, rfl⟩
  rw [← hW2] at hg2 hb2 hcp1 ho2
  clear hW2 hb1 hv1 ho1 hg1
  obtain ⟨cur2, hcur2⟩ : ∃ cur2 : Array Value, cur2 = (cur1.toList.take ((i + 1) * 2) ++ cs ++ cur1.toList.drop ((i + 1) * 2 + cs.length)).toArray := ⟨_, rfl⟩
  obtain ⟨W3, hW3⟩ : ∃ W3, W3 = W2.drew.setRow w.heap.size cur2 := ⟨_, rfl⟩
  have hcp2 : ∀ ty dc sc, (Builtin.copy_ #[26, 26] ty #[.slice (some ⟨w.heap.size, (i + 1) * 2, none⟩) (n - i) dc, .slice (some ⟨b, i * 2, none⟩) (n - i) sc]).run Try.prog W2.drew = .ok (goInt ((n - i : Nat) : Int)) W3 := fun ty dc sc => by
    rw [run_copy_wide W2.drew 26 26 ty 49 2 w.heap.size ((i + 1) * 2) (n - i) dc ⟨b, i * 2, none⟩ (n - i) sc (n - i) cur1 49 cs Try.underlying26 size49_ hb2 (by simp only [Nat.min_def]; split <;> omega) hcl
      (fun j v hj => by
        rw [add0_]
        rw [← hcs, List.getElem?_drop, List.getElem?_take] at hj
        split at hj
        · have h2 := cell_of_row W2.drew b (i * 2 + j) cur 49 (0, 0) ho2
          rw [h2, ← Array.getElem?_toList]; exact hj
        · cases hj)
      (by rw [← Array.length_toList, hl1, hcl]; omega) h1c, hW3, hcur2]
  have hg3 : w.grownBy W3 none := by
    rw [hW3]
    exact grown_none (w' := W2.drew.setRow w.heap.size cur2) (b := w.heap.size) ⟨hg2.os, hg2.tape, hg2.output, Nat.le_trans hg2.size (setRow_grown W2.drew w.heap.size cur2).size, fun k hk hne => ((setRow_grown W2.drew w.heap.size cur2).block k (Nat.lt_of_lt_of_le hk hg2.size) hne).trans (hg2.block k hk (by simp))⟩ (Nat.le_refl _) none
  have hb3 : W3.heap[w.heap.size]? = some (.cells cur2 49 (0, 0)) := by rw [hW3]; exact setRow_heap W2.drew w.heap.size cur1 cur2 49 _ hb2
  have hsz2 : cur2.size = G * 2 := by
    rw [← Array.length_toList, hcur2, List.toList_toArray]
    simp only [List.length_append, List.length_take, List.length_drop, hl1, hcl]; omega
  have hres : cur2.toList.take ((n + 1) * 2) = cur.toList.take (i * 2) ++ vs ++ cs := by
    have e1 : cur1.toList.take ((i + 1) * 2) = cur.toList.take (i * 2) ++ vs := by
      rw [hcur1, List.toList_toArray, hRt]
      exact List.take_left' (by simp only [List.length_append, List.length_take, hcurl, hvl]; omega)
    rw [hcur2, List.toList_toArray, e1]
    exact List.take_left' (by simp only [List.length_append, List.length_take, hcurl, hcl, hvl]; omega)
  clear hcur1 hcur2 hW3 hROW hG
  have hb1_ : (0 : Int) ≤ (i : Int) + (1 : Int) := by omega
  have hin : i ≤ n := by omega
  have htn : ((i : Int) + (1 : Int)).toNat = i + 1 := by omega
  have hb3_ : (i : Int) ≤ (n : Int) + (1 : Int) := by omega
  have hb4 : ¬ (c = i) := by omega
  have hb6 : ¬ (G = i + 1) := by omega
  have hb7 : ¬ (G = i) := by omega
  go_enter Try.func55, Try.ntmps55
  go_wp2_with (first | (at_builtin; refine Lib.wpList_append_run _ rfl _ _ _ _ rfl _ _ rfl rfl _ _ (hrz _) ?_) | (at_builtin; refine wpList_copy_runI _ rfl _ _ 26 26 rfl _ _ rfl rfl (hcp1 _ _) ?_))
  go_region_law (refine step_copy_runI rfl _ _ 26 26 rfl _ _ (by simp [Act.eval, Act.put]) (by simp [Act.eval, Act.put]) (hcp2 _ _ _) ?_)
  go_wp2
  go_ret
  exact ⟨G, hGn, hGm, rfl, hg3, cur2, hb3, hsz2, hres⟩
set_option maxHeartbeats 4000000 in
set_option maxRecDepth 100000 in
theorem insert_end_w (B : Nat) (A : Option Addr) (n c vb vc : Nat) (inner vs : List Value) (vcur : Array Value) (w : World) (hB : B ≤ w.heap.size) (hn : n ≤ 1000000) (ho : w.ownsRow B 49 2 (.slice A n c) n inner)
    (hv : w.heap[vb]? = some (.cells vcur 49 (0, 0))) (hvs : vcur.toList.take 2 = vs) (hvl : vs.length = 2) (h1v : ∀ v ∈ vs, v.oneCell' = true) :
    Calls Try.prog 55 #[.slice A n c, .int .i64 n, .slice (some ⟨vb, 0, none⟩) 1 vc] w fun e w' => ∃ v', e = .returned v' ∧ w'.ownsRow B 49 2 v' (n + 1) (inner ++ vs) ∧ w.grownBy w' (Value.slice A n c).ownBlock := by
  obtain ⟨i0, hi0, hz0⟩ := Option.map_eq_some_iff.1 info49_
  simp only [Prod.mk.injEq] at hz0
  obtain ⟨hz0, hzs, hzb⟩ := hz0
  have hcell : ∀ j u, vs[j]? = some u → w.cell? ((⟨vb, 0, none⟩ : Addr).add j) = some u := fun j v hj => by
    rw [add0_]
    rw [← hvs, List.getElem?_take] at hj
    split at hj
    · have h2 := cell_of_row w vb (0 + j) vcur 49 (0, 0) hv
      rw [h2, ← Array.getElem?_toList, Nat.zero_add]; exact hj
    · cases hj
  have hzc : (Value.agg #[.int .u32 0, .int .i64 0]).cells.size = 2 := by kernel_rfl
  have hc : n ≤ c := by
    rcases ho.2 with ⟨he, h0⟩ | ⟨g, cap, cur, he, _, _, hnc, _⟩
    · omega
    · simp only [Value.slice.injEq] at he
      omega
  have hO := Aside0.mk ho
  clear ho
  have hmax : n + 1 ≤ maxLen := by unfold maxLen; omega
  cases A with
  | none =>
    obtain ⟨rfl, rfl⟩ : n = 0 ∧ c = 0 := by
      rcases hO.out.2 with ⟨he, h0⟩ | ⟨g, cap, cur, he, _, _, hnc, _⟩
      · simp only [Value.slice.injEq] at he
        exact ⟨h0, he.2.2⟩
      · simp at he
    go_enter Try.func55, Try.ntmps55
    go_wp2_with (first | (at_builtin; refine wpList_append_own _ rfl _ _ 26 rfl B 49 i0 _ 2 16 Try.underlying26 hi0 hz0 hzs hzb hzc (by decide) _ 0 inner rfl hO.out ⟨vb, 0, none⟩ 1 vc vs rfl (by rw [hvl]) hcell h1v hmax (by omega) hB ?_; intro v' w' hO' hG' _; have HO' := Aside0.mk hO'; clear hO'))
    go_ret
    exact ⟨_, rfl, HO'.out, hG'⟩
  | some ad =>
    go_enter Try.func55, Try.ntmps55
    go_wp2_with (first | (at_builtin; refine wpList_append_own _ rfl _ _ 26 rfl B 49 i0 _ 2 16 Try.underlying26 hi0 hz0 hzs hzb hzc (by decide) _ n inner rfl hO.out ⟨vb, 0, none⟩ 1 vc vs rfl (by rw [hvl]) hcell h1v hmax (by omega) hB ?_; intro v' w' hO' hG' _; have HO' := Aside0.mk hO'; clear hO'))
    all_goals go_ret
    all_goals exact ⟨_, rfl, HO'.out, hG'⟩
theorem insert_w (B : Nat) (v : Value) (n i vb vc : Nat) (inner vs : List Value) (vcur : Array Value) (w : World) (hB : B ≤ w.heap.size) (hn : n ≤ 1000000) (hi : i ≤ n) (ho : w.ownsRow B 49 2 v n inner) (h1 : ∀ u ∈ inner, u.oneCell' = true)
    (hv : w.heap[vb]? = some (.cells vcur 49 (0, 0))) (hvs : vcur.toList.take 2 = vs) (hvl : vs.length = 2) (h1v : ∀ v ∈ vs, v.oneCell' = true) (hne : v.ownBlock ≠ some vb) :
    Calls Try.prog 55 #[v, .int .i64 i, .slice (some ⟨vb, 0, none⟩) 1 vc] w fun e w' => ∃ v', e = .returned v' ∧ w'.ownsRow B 49 2 v' (n + 1) (inner.take (i * 2) ++ vs ++ inner.drop (i * 2)) ∧ w.grownBy w' v.ownBlock := by
  obtain ⟨A, c, rfl⟩ : ∃ A c, v = .slice A n c := by
    rcases ho.2 with ⟨rfl, rfl⟩ | ⟨g, cap, cur, rfl, _⟩
    · exact ⟨_, _, rfl⟩
    · exact ⟨_, _, rfl⟩
  by_cases he : i = n
  · subst he
    rw [List.take_of_length_le (by rw [ho.1]; exact Nat.le_refl _), List.drop_of_length_le (by rw [ho.1]; exact Nat.le_refl _), List.append_nil]
    exact insert_end_w B A i c vb vc inner vs vcur w hB hn ho hv hvs hvl h1v
  rcases ho.2 with ⟨hz, h0⟩ | ⟨g, cap, cur, hz, hbg, hg, hnc, hcm, hcs, htake⟩
  · omega
  simp only [Value.slice.injEq, true_and] at hz
  obtain ⟨rfl, rfl⟩ := hz
  have hit : cur.toList.take (i * 2) = inner.take (i * 2) := by
    rw [← htake, List.take_take]
    congr 1; omega
  have hlen : (inner.take (i * 2) ++ vs ++ inner.drop (i * 2)).length = (n + 1) * 2 := by
    simp only [List.length_append, List.length_take, List.length_drop, ho.1, hvl]; omega
  have h1c : ∀ u ∈ inner.drop (i * 2), u.oneCell' = true := fun u hu => h1 u (List.mem_of_mem_drop hu)
  by_cases hr : n + 1 ≤ c
  · refine (insert_shift_w g n c i vb vc cur (inner.drop (i * 2)) vs vcur w (by omega) hr (by unfold maxLen at hcm; omega) (fun e => hne (by simp [Value.ownBlock, e])) hg hcs (by rw [htake]) hv hvs hvl h1c h1v).mono ?_
    rintro e w' ⟨rfl, hgr, cur2, hb2, hs2, ht2⟩
    exact ⟨_, rfl, ⟨hlen, .inr ⟨g, c, cur2, rfl, hbg, hb2, hr, hcm, by rw [hs2, hcs], by rw [ht2, hit]⟩⟩, hgr⟩
  · refine (insert_grow_w g n c i vb vc cur (inner.drop (i * 2)) vs vcur w (by omega) hr hnc hn hg hcs (by rw [htake]) hv hvs hvl h1c h1v).mono ?_
    rintro e w' ⟨G, hG1, hG2, rfl, hgr, cur2, hb2, hs2, ht2⟩
    exact ⟨_, rfl, ⟨hlen, .inr ⟨w.heap.size, G, cur2, rfl, hB, hb2, hG1, hG2, hs2, by rw [ht2, hit]⟩⟩, ⟨hgr.os, hgr.tape, hgr.output, hgr.size, fun k hk _ => hgr.block k hk (by simp)⟩⟩
end Go.Proofs.Ytbllchfgjginoaa
/-
  slices.Clone of a row of sockets; slices.Delete of one of a row of the call's own.
-/
namespace Go.Proofs.Ytbllchfgjginoaa
open Go.RowKit Go.Lib Go.Proofs.YtbllchfgjginoaaW.PrintWords Go.Proofs.Ytbllchfgjginoaa.PMe
set_option linter.unusedVariables false
set_option linter.unusedSimpArgs false
set_option maxRecDepth 100000 in
theorem eqnilA_ {ops : Array Oper} {Q : Exit → Act → World → Prop} {rest : List Oper} {o : Oper} {a : Act} {w : World} (hg : o.guard = none) (x y : Operand) (hop : o.op = .binOp .eql 26 x y 26) (A : Option Addr) (n c : Nat) (hx : a.eval x = .slice A n c) (hy : a.eval y = .slice none 0 0)
    (h : wpList Try.prog ops Q rest (a.put o.dst (.bool A.isNone)) w) : wpList Try.prog ops Q (o :: rest) a w := by
  have hrun : (binOp .eql 26 (.slice A n c) (.slice none 0 0)).run Try.prog w = .ok (.bool A.isNone) w := by
    cases A
    · kernel_rfl
    · kernel_rfl
  have hgu : (eqGuard .eql 26 x y (.slice A n c) (.slice none 0 0)).run Try.prog w = .ok () w := by
    cases A
    · kernel_rfl
    · kernel_rfl
  refine wpList_plain hg fun K hK => ?_
  unfold Oper.wp
  simp only [execOp, hop, hx, hy, Sem.run_bind, hgu, hrun, Result.andThen]
  exact hK _ _ h
theorem R_inner {R : S49 → List Value → Prop} (hR1 : ∀ p c, R p c → ∀ u ∈ c, u.oneCell' = true) {l : List S49} {ad : Addr} {w : World} (hr : ReadsRow R 2 w (some ad) l.length l) : ∃ inner, Reps R 2 l inner ∧ inner.length = l.length * 2 ∧ (∀ u ∈ inner, u.oneCell' = true) ∧ ∀ j u, inner[j]? = some u → w.cell? (ad.add j) = some u := by
  obtain ⟨inner, h1, h2⟩ := ReadsRow.inner_ hr
  exact ⟨inner, h1, h1.1, Kd.reps_one h1 (by decide) hR1, h2⟩
set_option maxHeartbeats 4000000 in
set_option maxRecDepth 100000 in
theorem clone_w {R : S49 → List Value → Prop} (hR1 : ∀ p c, R p c → ∀ u ∈ c, u.oneCell' = true) (A : Option Addr) (c : Nat) (l : List S49) (w : World) (hn : l.length ≤ 1000000) (hr : ReadsRow R 2 w A l.length l) :
    Calls Try.prog 29 #[.slice A l.length c] w fun e w' => ∃ v, e = .returned v ∧ ∃ inner, w'.ownsRow w.heap.size 49 2 v l.length inner ∧ Reps R 2 l inner ∧ (∀ u ∈ inner, u.oneCell' = true) ∧ w.grownBy w' none := by
  cases A with
  | none =>
    have h0 : l.length = 0 := by
      by_cases hp : 0 < l.length
      · obtain ⟨ad, he, _⟩ := hr.2.2 hp
        cases he
      · omega
    obtain rfl := List.eq_nil_of_length_eq_zero h0
    go_enter Try.func29, Try.ntmps29
    go_wp2_with (first | ((with_reducible refine gate_dst (N := 4) rfl ?_); refine eqnilA_ rfl _ _ rfl _ _ _ rfl rfl ?_))
    go_ret
    exact ⟨_, rfl, [], World.ownsRow_nil _ _ _ _, Reps.none _ _, (fun u hu => by simp at hu), ⟨rfl, rfl, rfl, Nat.le_refl _, fun _ _ _ => rfl⟩⟩
  | some ad =>
    obtain ⟨inner, hR, hl, h1, hcell⟩ := R_inner hR1 hr
    have HR := Aside0.mk hR
    clear hR hr hR1
    obtain ⟨i0, hi0, hz0⟩ := Option.map_eq_some_iff.1 info49_
    simp only [Prod.mk.injEq] at hz0
    obtain ⟨hz0, hzs, hzb⟩ := hz0
    have hzc : (Value.agg #[.int .u32 0, .int .i64 0]).cells.size = 2 := by kernel_rfl
    have hmax : 0 + l.length ≤ maxLen := by unfold maxLen; omega
    have hO := Aside0.mk (World.ownsRow_lit (base := w.heap.size) (e := 49) (size := 2) w #[] 0 (Nat.le_refl _) (by decide) rfl)
    have hcell2 : ∀ j u, inner[j]? = some u → (w.alloc (.cells #[] 49)).cell? (ad.add j) = some u := fun j u hu => (World.grownBy_alloc w (.cells #[] 49) none).cell (hcell j u hu) (by simp)
    have hAl := Aside0.mk (World.grownBy_alloc w (.cells #[] 49) none)
    go_enter Try.func29, Try.ntmps29
    go_wp2_with (first | ((with_reducible refine gate_dst (N := 4) rfl ?_); refine eqnilA_ rfl _ _ rfl _ _ _ rfl rfl ?_) | ((with_reducible refine gate_builtin (b := .append) (xs := #[.tmp 5, .tmp 6]) rfl ?_); at_builtin; refine wpList_append_own _ rfl _ _ 26 rfl w.heap.size 49 i0 _ 2 16 Try.underlying26 hi0 hz0 hzs hzb hzc (by decide) _ 0 [] rfl hO.out ad l.length c inner rfl hl hcell2 h1 hmax (by omega) (by simp) ?_; intro v' w' hO' hG' _; have HO' := Aside0.mk hO'; clear hO'))
    all_goals go_ret
    all_goals
      have h2 := HO'.out
      rw [Nat.zero_add, List.nil_append] at h2
      exact ⟨_, rfl, inner, h2, HR.out, h1, grown_none (w := w) (w' := w') (b := w.heap.size) ⟨hG'.os, hG'.tape, hG'.output, Nat.le_trans hAl.out.size hG'.size, fun k hk hne => (hG'.block k (Nat.lt_of_lt_of_le hk hAl.out.size) hne).trans (hAl.out.block k hk (by simp))⟩ (Nat.le_refl _) none⟩
end Go.Proofs.Ytbllchfgjginoaa
/-
  slices.BinarySearchFunc over sockets by their ids; host.place.
-/
namespace Go.Proofs.Ytbllchfgjginoaa
open Go.RowKit Go.Proofs.YtbllchfgjginoaaW.PrintWords Go.Proofs.Ytbllchfgjginoaa.PMe
set_option linter.unusedVariables false
set_option linter.unusedSimpArgs false
set_option maxHeartbeats 8000000 in
set_option maxRecDepth 100000 in
theorem nan_w (x : Int) (w : World) : Calls Try.prog 69 #[.int .u32 x] w fun e w' => e = .returned (.bool false) ∧ w' = w := by
  go_enter Try.func69, Try.ntmps69
  go_wp2
  go_ret
  exact ⟨by simp, rfl⟩
def cmp3 (x y : Int) : Int := if x < y then -1 else if y < x then 1 else 0
theorem cmp3_eq (x y : Int) : (cmp3 x y == 0) = decide (x = y) := by
  unfold cmp3
  by_cases h1 : x < y
  · rw [if_pos h1, decide_eq_false (by omega)]; rfl
  · by_cases h2 : y < x
    · rw [if_neg h1, if_pos h2, decide_eq_false (by omega)]; rfl
    · rw [if_neg h1, if_neg h2, decide_eq_true (by omega)]; rfl
set_option maxHeartbeats 8000000 in
set_option maxRecDepth 100000 in
theorem compare_w (x y : Int) (w : World) : Calls Try.prog 54 #[.int .u32 x, .int .u32 y] w fun e w' => e = .returned (.int .i64 (cmp3 x y)) ∧ w' = w := by
  by_cases h1 : x < y
  · have c1 : decide (x < y) = true := decide_eq_true h1
    go_enter Try.func54, Try.ntmps54
    go_wp2_with (first | (go_at_call 69; refine (nan_w _ _).mono ?_; rintro e w1 ⟨rfl, rfl⟩))
    go_ret
    first | exact ⟨rfl, rfl⟩ | (unfold cmp3; rw [if_pos h1]; exact ⟨rfl, rfl⟩)
  · have c1 : decide (x < y) = false := decide_eq_false h1
    by_cases h2 : y < x
    · have c2 : decide (y < x) = true := decide_eq_true h2
      go_enter Try.func54, Try.ntmps54
      go_wp2_with (first | (go_at_call 69; refine (nan_w _ _).mono ?_; rintro e w1 ⟨rfl, rfl⟩))
      go_ret
      first | exact ⟨rfl, rfl⟩ | (unfold cmp3; rw [if_neg (by omega), if_pos h2]; exact ⟨rfl, rfl⟩)
    · have c2 : decide (y < x) = false := decide_eq_false h2
      go_enter Try.func54, Try.ntmps54
      go_wp2_with (first | (go_at_call 69; refine (nan_w _ _).mono ?_; rintro e w1 ⟨rfl, rfl⟩))
      go_ret
      first | exact ⟨rfl, rfl⟩ | (unfold cmp3; rw [if_neg (by omega), if_neg (by omega)]; exact ⟨rfl, rfl⟩)
set_option maxHeartbeats 8000000 in
set_option maxRecDepth 100000 in
theorem place1_w (a b : Int) (id : Int) (w : World) : Calls Try.prog 53 #[.agg #[.int .u32 a, .int .i64 b], .int .u32 id] w fun x w' => x = .returned (.int .i64 (cmp3 a id)) ∧ Below w.heap.size w w' := by
  have hu49 := Try.underlying49
  have HB := Aside0.mk (Below.refl w.heap.size w)
  go_enter Try.func53, Try.ntmps53
  go_wp2_with (first | ((with_reducible refine gate_dst (N := 2) rfl ?_); (try (refine gate_guard (by rfl) ?_; dsimp only)); refine box_event ?hg (N := 2) ?hd (cs := #[.int .u32 a, .int .i64 b]) (t := 49) ?hr ?_; (case hd => rfl); (case hg => rfl); (case hr => first | (go_simp; done) | (go_simp; rfl)); intro gs hg w1_ hbox hB; have HBo := Aside0.mk HB.out; have nHB := Aside0.mk (HB.out.trans (hB.mono HB.out.size)); clear HB; have HB := nHB; clear nHB; have BK_gs := Aside0.mk hbox; have GE_gs := Aside0.mk (show w.heap.size ≤ gs by rw [hg]; exact HBo.out.size); clear hg hbox hB; have hc_gs_0 : w1_.cell? ⟨gs, 0, none⟩ = some (.int .u32 a) := (blk_cell BK_gs.out 0).trans rfl; have hf_gs_0 := blk_frozen BK_gs.out 0; have hc_gs_1 : w1_.cell? ⟨gs, 1, none⟩ = some (.int .i64 b) := (blk_cell BK_gs.out 1).trans rfl; have hf_gs_1 := blk_frozen BK_gs.out 1; clear HBo) | (go_at_call 54; refine (compare_w a id _).mono ?_; rintro e w7_ ⟨rfl, rfl⟩))
  go_ret
  exact ⟨rfl, HB.out⟩
set_option maxHeartbeats 8000000 in
set_option maxRecDepth 100000 in
theorem search_w {l : List S49} {id : Int} {i : Nat} (hi : i ≤ l.length) (hlo : ∀ k : Nat, k < i → (rd_T49 l k).f0 < id) (hhi : ∀ k : Nat, i ≤ k → k < l.length → id ≤ (rd_T49 l k).f0) (hn : l.length ≤ 1000000) (A : Option Addr) (c : Nat) (w : World) (hr : Kd.C k49 w A l.length l) (hc : l.length ≤ c) :
    Calls Try.prog 52 #[.slice A l.length c, .int .u32 id, .func (.func 53) #[] #[]] w fun e w' => e = .returned (.tuple #[.int .i64 i, .bool (decide (i < l.length) && decide ((rd_T49 l i).f0 = id))]) ∧ Below w.heap.size w w' := by
  have HB := Aside0.mk (Below.refl w.heap.size w)
  have HC := Aside0.mk hr
  have HK := Aside0.mk hc
  have XI := Aside0.mk hi
  have XLO := Aside0.mk hlo
  have XHI := Aside0.mk hhi
  have XN := Aside0.mk hn
  clear hr hc hi hlo hhi hn
  go_enter Try.func52, Try.ntmps52
  go_wp2
  go_loopg [9, 10] l.length (fun gk v9 v10 w' => ∃ p q : Nat, v9 = .int .i64 (p : Int) ∧ v10 = .int .i64 (q : Int) ∧ Aside0 (p ≤ i ∧ i ≤ q ∧ q ≤ l.length ∧ gk = q - p) ∧ Aside0 (Below w.heap.size w w'))
  case atStart => exact ⟨0, l.length, rfl, rfl, ⟨Nat.zero_le _, XI.out, Nat.le_refl _, rfl⟩, HB⟩
  case round =>
    clear HB
    obtain ⟨p, q, rfl, rfl, HI, HB⟩ := hrel
    by_cases hlt : p < q
    · have c17 : decide ((p : Int) < (q : Int)) = true := decide_eq_true (by omega)
      obtain ⟨i1, i2, i3, i4⟩ := HI.out
      have hl := XN.out
      obtain ⟨m, hm⟩ : ∃ m, m = (p + q) / 2 := ⟨_, rfl⟩
      have hmid : wrap64 (IntKind.u64.wrap (wrap64 ((p : Int) + (q : Int))) / 2) = (m : Int) := by
        rw [show wrap64 ((p : Int) + (q : Int)) = (p : Int) + (q : Int) by unfold wrap64; omega]
        rw [show IntKind.u64.wrap ((p : Int) + (q : Int)) = (p : Int) + (q : Int) by simp only [IntKind.wrap, IntKind.bits, IntKind.signed, Bool.false_and, Bool.false_eq_true, if_false]; omega]
        unfold wrap64
        omega
      have HM := Aside0.mk (show p ≤ m ∧ m < q by omega)
      have p1 : (0 : Int) ≤ (m : Int) := by omega
      have p2 : (m : Int) < (l.length : Int) := by omega
      obtain ⟨ad, he, hx0, hx1⟩ := at_T49 (Kd.C_below HC.out HB.out) (m : Int) p1 p2
      subst he
      rw [Int.toNat_natCast] at hx0 hx1
      obtain ⟨x, hx⟩ : ∃ x, x = rd_T49 l (m : Int) := ⟨_, rfl⟩
      rw [← hx] at hx0 hx1
      have HX := Aside0.mk hx
      clear hx hm i1 i2 i3 i4
      replace p1 := eq_true p1
      replace p2 := eq_true p2
      by_cases hcm : x.f0 < id
      · have c31 : decide (cmp3 x.f0 id < 0) = true := by unfold cmp3; rw [if_pos hcm]; decide
        have HCM := Aside0.mk hcm
        clear hcm
        go_wp2_with (first | (go_at_call 53; refine (place1_w x.f0 x.f1 id _).mono ?_; rintro e wx ⟨rfl, hB⟩; have nB := Aside0.mk (HB.out.trans (hB.mono HB.out.size)); clear HB hx0 hx1 hB; have HB := nB; clear nB))
        go_roundg (q - (m + 1))
        case measure => have := HI.out; have := HM.out; omega
        case rel =>
          have hq := HI.out
          have hm := HM.out
          have him : m + 1 ≤ i := by
            by_cases hh : i ≤ m
            · have h1 := XHI.out m hh (by omega)
              have h2 := HCM.out
              rw [HX.out] at h2
              omega
            · omega
          refine ⟨m + 1, q, ?_, rfl, ⟨him, hq.2.1, hq.2.2.1, rfl⟩, HB⟩
          show Value.int .i64 (wrap64 ((m : Int) + 1)) = _
          have h1 := XN.out
          have h2 : wrap64 ((m : Int) + 1) = ((m + 1 : Nat) : Int) := by unfold wrap64; omega
          rw [h2]
      · have c31 : decide (cmp3 x.f0 id < 0) = false := by unfold cmp3; rw [if_neg hcm]; split <;> decide
        have HCM := Aside0.mk hcm
        clear hcm
        go_wp2_with (first | (go_at_call 53; refine (place1_w x.f0 x.f1 id _).mono ?_; rintro e wx ⟨rfl, hB⟩; have nB := Aside0.mk (HB.out.trans (hB.mono HB.out.size)); clear HB hx0 hx1 hB; have HB := nB; clear nB))
        go_roundg (m - p)
        case measure => have := HI.out; have := HM.out; omega
        case rel =>
          have hq := HI.out
          have hm := HM.out
          have him : i ≤ m := by
            by_cases hh : i ≤ m
            · exact hh
            · have h1 := XLO.out m (by omega)
              have h2 := HCM.out
              rw [HX.out] at h2
              omega
          exact ⟨p, m, rfl, rfl, ⟨hq.1, him, by omega, rfl⟩, HB⟩
    · have c17 : decide ((p : Int) < (q : Int)) = false := decide_eq_false (by omega)
      have hl := XN.out
      have hie : p = i ∧ q = i := by have := HI.out; omega
      obtain ⟨rfl, rfl⟩ := hie
      clear hlt
      by_cases hin : q < l.length
      · have c38 : decide ((q : Int) < (l.length : Int)) = true := decide_eq_true (by omega)
        have p1 : (0 : Int) ≤ (q : Int) := by omega
        have p2 : (q : Int) < (l.length : Int) := by omega
        obtain ⟨ad, he, hx0, hx1⟩ := at_T49 (Kd.C_below HC.out HB.out) (q : Int) p1 p2
        subst he
        rw [Int.toNat_natCast] at hx0 hx1
        obtain ⟨x, hx⟩ : ∃ x, x = rd_T49 l (q : Int) := ⟨_, rfl⟩
        rw [← hx] at hx0 hx1
        have HX := Aside0.mk hx
        have HIN := Aside0.mk hin
        clear hx hin
        replace p1 := eq_true p1
        replace p2 := eq_true p2
        have c47 : (cmp3 x.f0 id == 0) = decide (x.f0 = id) := cmp3_eq _ _
        go_wp2_with (first | (go_at_call 53; refine (place1_w x.f0 x.f1 id _).mono ?_; rintro e wx ⟨rfl, hB⟩; have nB := Aside0.mk (HB.out.trans (hB.mono HB.out.size)); clear HB hx0 hx1 hB; have HB := nB; clear nB))
        go_ret2
        rw [decide_eq_true HIN.out, Bool.true_and, ← HX.out]
        exact ⟨rfl, HB.out⟩
      · have c38 : decide ((q : Int) < (l.length : Int)) = false := decide_eq_false (by omega)
        have HIN := Aside0.mk hin
        go_wp2
        go_ret2
        rw [decide_eq_false HIN.out, Bool.false_and]
        exact ⟨rfl, HB.out⟩
set_option maxHeartbeats 8000000 in
set_option maxRecDepth 100000 in
theorem place_w {l : List S49} {id : Int} {i : Nat} (hi : i ≤ l.length) (hlo : ∀ k : Nat, k < i → (rd_T49 l k).f0 < id) (hhi : ∀ k : Nat, i ≤ k → k < l.length → id ≤ (rd_T49 l k).f0) (hn : l.length ≤ 1000000) (A_l : Option Addr) (c_l : Nat) (w : World) (hr : Kd.C k49 w A_l l.length l) (hc : l.length ≤ c_l) :
    Calls Try.prog 34 #[.slice A_l l.length c_l, .int .u32 id] w fun e w' => e = .returned (.tuple #[.int .i64 i, .bool (decide (i < l.length) && decide ((rd_T49 l i).f0 = id))]) ∧ Below w.heap.size w w' := by
  have HB := Aside0.mk (Below.refl w.heap.size w)
  have HC_l := Aside0.mk hr
  have HK_l := Aside0.mk hc
  have XI := Aside0.mk hi
  have XLO := Aside0.mk hlo
  have XHI := Aside0.mk hhi
  have XN := Aside0.mk hn
  clear hr hc hi hlo hhi hn
  go_enter Try.func34, Try.ntmps34
  go_wp2_with (first | (go_at_call 52; with_reducible refine (search_w XI.out XLO.out XHI.out XN.out _ _ _ (Kd.C_below HC_l.out HB.out) HK_l.out).mono ?_; rintro e w1_ ⟨rfl, hB⟩; have nHB := Aside0.mk (HB.out.trans (hB.mono HB.out.size)); clear HB; have HB := nHB; clear nHB; clear hB))
  go_ret2
  exact ⟨rfl, HB.out⟩
end Go.Proofs.Ytbllchfgjginoaa
/-
  A call of a function value that catches nothing, as an arm of a walk; a row of truths told by a number.
-/
namespace Go.Proofs.Ytbllchfgjginoaa
open Go.RowKit Go.Proofs.YtbllchfgjginoaaW.PrintWords Go.Proofs.YtbllchfgjginoaaW.PrintLast Go.Proofs.YtbllchfgjginoaaW.PrintMore

section
variable {P : Program} {ops : Array Oper} {Q : Exit → Act → World → Prop}
end
section
variable {P : Program} {ops : Array Oper} {Q : Exit → Act → World → Prop} {md : Region.Mode} {S : World → Prop} {ds : List Nat}
end
end Go.Proofs.Ytbllchfgjginoaa
/-
  What is known, brought from world to world.
-/
namespace Go.Proofs.Ytbllchfgjginoaa
open Go.RowKit Go.Proofs.YtbllchfgjginoaaW.PrintWords
theorem mvB {w w1 : World} {g : Nat} {o : Obj} (h : Aside0 (w.heap[g]? = some o)) (hB : Below w.heap.size w w1) : Aside0 (w1.heap[g]? = some o) := ⟨blk_below h.out hB⟩
theorem mvH {w0 w w1 : World} (h : Aside0 (Below w0.heap.size w0 w)) (hB : Below w.heap.size w w1) : Aside0 (Below w0.heap.size w0 w1) := ⟨h.out.trans (hB.mono h.out.size)⟩
theorem mvR {α : Type} {d : Kd α} {e base : Nat} {ok : Nat → Prop} {v : Value} {xs : List α} {w w1 : World} (h : Aside0 (Kd.R d e w base ok v xs)) (hB : Below w.heap.size w w1) : Aside0 (Kd.R d e w1 base ok v xs) := ⟨Kd.R_below h.out hB⟩
theorem mvC {α : Type} {d : Kd α} {A : Option Addr} {n : Nat} {xs : List α} {w w1 : World} (h : Aside0 (Kd.C d w A n xs)) (hB : Below w.heap.size w w1) : Aside0 (Kd.C d w1 A n xs) := ⟨Kd.C_below h.out hB⟩
end Go.Proofs.Ytbllchfgjginoaa
/-
  memb.work: what it holds, and what a call that changes it leaves as it was.
-/
namespace Go.Proofs.Ytbllchfgjginoaa
open Go.RowKit Go.Lib Go.Proofs.YtbllchfgjginoaaW.PrintWords Go.Proofs.YtbllchfgjginoaaW.PrintMore Go.Proofs.Ytbllchfgjginoaa.PMe
set_option linter.unusedVariables false
set_option linter.unusedSimpArgs false
/-- What a work holds. -/
structure WM where
  g : Int
  ex : Bool
  left : Int
  srcs : List S49
  keep : Int
  last : Int
  b : List Int
  asks : List S46
abbrev RA (w : World) (base : Nat) (v : Value) (l : List Int) : Prop := Kd.R (Kd.int .u32) 25 w base (fun _ => True) v l
structure Wk (base gw : Nat) (m : WM) (vS vB vA : Value) (w : World) : Prop where
  blk : w.heap[gw]? = some (.cells #[.int .u32 m.g, .bool m.ex, .int .i64 m.left, vS, .int .i64 m.keep, .int .i64 m.last, vB, vA] 73 (0, 0))
  ge : base ≤ gw
  S : Kd.R k49 49 w base (fun _ => True) vS m.srcs
  B : RA w base vB m.b
  A : Kd.R k46 46 w base (fun _ => True) vA m.asks
variable {base gw : Nat} {m : WM} {vS vB vA : Value} {w w1 w2 : World}
theorem Wk.lt (h : Wk base gw m vS vB vA w) : gw < w.heap.size := (Array.getElem?_eq_some_iff.1 h.blk).1
theorem Wk.below (h : Wk base gw m vS vB vA w) (hB : Below w.heap.size w w1) : Wk base gw m vS vB vA w1 :=
  ⟨blk_below h.blk hB, h.ge, Kd.R_below h.S hB, Kd.R_below h.B hB, Kd.R_below h.A hB⟩
/-- All but the work, its sources and its questions is as it was. -/
structure Fr (base gw : Nat) (w w' : World) : Prop where
  os : w'.os = w.os
  tape : w'.tape = w.tape
  output : w'.output = w.output
  size : w.heap.size ≤ w'.heap.size
  block : ∀ k, k < w.heap.size → k ≠ gw → (k < base ∨ ∃ cells t, w.heap[k]? = some (.cells cells t (0, 0)) ∧ t ≠ 49 ∧ t ≠ 46) → w'.heap[k]? = w.heap[k]?
theorem Fr.refl (base gw : Nat) (w : World) : Fr base gw w w := ⟨rfl, rfl, rfl, Nat.le_refl _, fun _ _ _ _ => rfl⟩
theorem Fr.trans (h : Fr base gw w w1) (h2 : Fr base gw w1 w2) : Fr base gw w w2 :=
  ⟨h2.os.trans h.os, h2.tape.trans h.tape, h2.output.trans h.output, Nat.le_trans h.size h2.size, fun k hk hne hc => by
    have e := h.block k hk hne hc
    exact (h2.block k (Nat.lt_of_lt_of_le hk h.size) hne (by rw [e]; exact hc)).trans e⟩
theorem Fr.of_below (hB : Below w.heap.size w w1) : Fr base gw w w1 := ⟨hB.os, hB.tape, hB.output, hB.size, fun k hk _ _ => hB.block k hk⟩
theorem Fr.set (j : Nat) (u : Value) : Fr base gw w (w.setCell ⟨gw, j, none⟩ u) :=
  ⟨rfl, rfl, rfl, by simp [World.setCell], fun k _ hne _ => Below.heap_setCell w ⟨gw, j, none⟩ u k hne⟩
theorem Fr.grown {v : Value} {e : Nat} (he : e = 49 ∨ e = 46) (hty : ∀ k, v.ownBlock = some k → base ≤ k ∧ ∃ cells, w.heap[k]? = some (.cells cells e (0, 0))) (hg : w.grownBy w1 v.ownBlock) : Fr base gw w w1 :=
  ⟨hg.os, hg.tape, hg.output, hg.size, fun k hk _ hc => hg.block k hk (fun e2 => by
    obtain ⟨h1, cells, h2⟩ := hty k e2.symm
    rcases hc with hc | ⟨c2, t, h3, h4, h5⟩
    · omega
    · rw [h2] at h3
      injection h3 with h3
      injection h3 with _ h3 _
      rcases he with rfl | rfl
      · exact h4 h3.symm
      · exact h5 h3.symm)⟩
theorem Fr.below (h : Fr base gw w w1) (hb : base ≤ gw) (hs : base ≤ w.heap.size) : Below base w w1 :=
  ⟨h.os, h.tape, h.output, h.size, fun k hk => h.block k (by omega) (by omega) (.inl hk)⟩
theorem Fr.row {v : Value} {l : List Int} (h : Fr base gw w w1) (hr : RA w base v l) (hg : ∃ cells, w.heap[gw]? = some (.cells cells 73 (0, 0))) : RA w1 base v l := by
  refine Kd.R_mono (Kd.R_step (Kd.R_bound hr) (fun k hk hlt => h.block k hlt ?_ (.inr ?_))) (fun _ _ => trivial)
  · rintro rfl
    obtain ⟨q, hq, cells, hc⟩ := hk.2.2.2
    obtain ⟨c2, h2⟩ := hg
    rw [h2] at hc
    injection hc with hc
    injection hc with _ hc _
    simp only [List.mem_cons] at hq
    rcases hq with hq | hq
    · rw [hq] at hc; exact absurd hc (by decide)
    · cases hq
  · obtain ⟨q, hq, cells, hc⟩ := hk.2.2.2
    refine ⟨cells, q, hc, ?_⟩
    simp only [List.mem_cons] at hq
    rcases hq with rfl | hq
    · exact ⟨by decide, by decide⟩
    · cases hq
theorem Wk.box (h : Wk base gw m vS vB vA w) : ∃ cells, w.heap[gw]? = some (.cells cells 73 (0, 0)) := ⟨_, h.blk⟩
/-! ### what is stored into it -/
theorem Wk.put {m2 : WM} {vS2 vA2 : Value} (h : Wk base gw m vS vB vA w) (j : Nat) (u : Value) (hb : m2.b = m.b) (hS : Kd.R k49 49 w base (fun _ => True) vS2 m2.srcs) (hA : Kd.R k46 46 w base (fun _ => True) vA2 m2.asks)
    (hc : (w.setCell ⟨gw, j, none⟩ u).heap[gw]? = some (.cells #[.int .u32 m2.g, .bool m2.ex, .int .i64 m2.left, vS2, .int .i64 m2.keep, .int .i64 m2.last, vB, vA2] 73 (0, 0))) : Wk base gw m2 vS2 vB vA2 (w.setCell ⟨gw, j, none⟩ u) :=
  ⟨hc, h.ge, Kd.R_set hS h.blk (by decide) j u, by rw [hb]; exact Kd.R_set h.B h.blk (by decide) j u, Kd.R_set hA h.blk (by decide) j u⟩
/-- The sources' row was written into, or grew. -/
theorem Wk.overS {vS2 : Value} {srcs2 : List S49} (h : Wk base gw m vS vB vA w) (hg : w.grownBy w1 vS.ownBlock) (hS : Kd.R k49 49 w1 base (fun _ => True) vS2 srcs2) :
    w1.heap[gw]? = w.heap[gw]? ∧ RA w1 base vB m.b ∧ Kd.R k46 46 w1 base (fun _ => True) vA m.asks ∧ Fr base gw w w1 := by
  have hty : ∀ k, vS.ownBlock = some k → ∃ cells, w.heap[k]? = some (.cells cells 49 (0, 0)) := Kd.R_typed h.S
  exact ⟨hg.block gw h.lt (Kd.R_ne h.S h.blk (by decide)), Kd.R_over' h.B hty (by decide) hg, Kd.R_over' h.A hty (by decide) hg, Fr.grown (.inl rfl) (fun k hk => ⟨Kd.R_base h.S k hk, hty k hk⟩) hg⟩
theorem Wk.overA {vA2 : Value} {asks2 : List S46} (h : Wk base gw m vS vB vA w) (hg : w.grownBy w1 vA.ownBlock) :
    w1.heap[gw]? = w.heap[gw]? ∧ RA w1 base vB m.b ∧ Kd.R k49 49 w1 base (fun _ => True) vS m.srcs ∧ Fr base gw w w1 := by
  have hty : ∀ k, vA.ownBlock = some k → ∃ cells, w.heap[k]? = some (.cells cells 46 (0, 0)) := Kd.R_typed h.A
  exact ⟨hg.block gw h.lt (Kd.R_ne h.A h.blk (by decide)), Kd.R_over' h.B hty (by decide) hg, Kd.R_over' h.S hty (by decide) hg, Fr.grown (.inr rfl) (fun k hk => ⟨Kd.R_base h.A k hk, hty k hk⟩) hg⟩
end Go.Proofs.Ytbllchfgjginoaa
/-
  Held sources in plain words: where one stands, one put in, some kept, some asked for.
-/
namespace Go.Proofs.Ytbllchfgjginoaa
open Go.RowKit Go.Lib Go.Proofs.YtbllchfgjginoaaW.PrintWords Go.Proofs.Ytbllchfgjginoaa.PMe
set_option linter.unusedVariables false
set_option linter.unusedSimpArgs false
theorem rd49 (l : List S49) (i : Nat) (h : i < l.length) : rd_T49 l (i : Int) = l[i] := by
  show l.getD _ _ = _
  rw [Int.toNat_natCast, List.getD_eq_getElem?_getD, List.getElem?_eq_getElem h]; rfl
theorem rdI (l : List Int) (i : Nat) (h : i < l.length) : rd l (i : Int) = l[i] := by
  show l.getD _ _ = _
  rw [Int.toNat_natCast, List.getD_eq_getElem?_getD, List.getElem?_eq_getElem h]; rfl
def thoseS (p : Int → Bool) (l : List S49) : List Int := (l.filter fun x => p x.f1).map (·.f0)
theorem those_succ (p : Int → Bool) {l : List S49} {i : Nat} (h : i < l.length) : thoseS p (l.take (i + 1)) = if p (rd_T49 l i).f1 = true then thoseS p (l.take i) ++ [(rd_T49 l i).f0] else thoseS p (l.take i) := by
  unfold thoseS
  rw [rd49 l i h, ← List.take_append_getElem h, List.filter_append, List.map_append]
  by_cases c : p l[i].f1 = true
  · rw [if_pos c, List.filter_cons_of_pos (by simpa using c)]; rfl
  · rw [if_neg c, List.filter_cons_of_neg (by simpa using c)]; simp
theorem those_len (p : Int → Bool) (l : List S49) : (thoseS p l).length ≤ l.length := by
  unfold thoseS; rw [List.length_map]; exact List.length_filter_le _ _
/-! ### where one stands -/
def SortH (l : List S49) : Prop := l.Pairwise (fun a b => a.f0 < b.f0)
def ltH (l : List S49) (a : Int) : List S49 := l.filter fun x => decide (x.f0 < a)
def gtH (l : List S49) (a : Int) : List S49 := l.filter fun x => decide (a < x.f0)
def hasH (l : List S49) (a : Int) : Bool := l.any fun x => decide (x.f0 = a)
def posH (l : List S49) (a : Int) : Nat := (ltH l a).length
def insH (l : List S49) (s : S49) : List S49 := ltH l s.f0 ++ [s] ++ gtH l s.f0
theorem hasH_iff {l : List S49} {a : Int} : hasH l a = true ↔ ∃ x ∈ l, x.f0 = a := by unfold hasH; simp
theorem gtH_all {l : List S49} {a : Int} (h : ∀ x ∈ l, a < x.f0) : ltH l a = [] ∧ gtH l a = l := by
  refine ⟨List.filter_eq_nil_iff.2 (fun x hx => ?_), List.filter_eq_self.2 (fun x hx => decide_eq_true (h x hx))⟩
  have := h x hx
  rw [decide_eq_true_eq]; omega
theorem splitH_at : ∀ {l : List S49}, SortH l → ∀ {x : S49}, x ∈ l → l = ltH l x.f0 ++ [x] ++ gtH l x.f0
  | [], _, x, hx => by cases hx
  | y :: l, hs, x, hx => by
    have hs1 := (List.pairwise_cons.1 hs).1
    have hs2 : SortH l := (List.pairwise_cons.1 hs).2
    rcases List.mem_cons.1 hx with rfl | hx
    · have h := gtH_all (l := l) (a := x.f0) (fun z hz => hs1 z hz)
      have e1 : ltH (x :: l) x.f0 = [] := by unfold ltH; rw [List.filter_cons_of_neg (by simp)]; exact h.1
      have e2 : gtH (x :: l) x.f0 = l := by unfold gtH; rw [List.filter_cons_of_neg (by simp)]; exact h.2
      rw [e1, e2]; rfl
    · have hyx := hs1 x hx
      have h := splitH_at hs2 hx
      have e1 : ltH (y :: l) x.f0 = y :: ltH l x.f0 := by unfold ltH; rw [List.filter_cons_of_pos (by simpa using hyx)]
      have e2 : gtH (y :: l) x.f0 = gtH l x.f0 := by unfold gtH; rw [List.filter_cons_of_neg (by simp; omega)]
      rw [e1, e2, List.cons_append, List.cons_append, ← h]
theorem splitH_no : ∀ {l : List S49}, SortH l → ∀ {a : Int}, (∀ x ∈ l, x.f0 ≠ a) → l = ltH l a ++ gtH l a
  | [], _, a, _ => rfl
  | y :: l, hs, a, hn => by
    have hs1 := (List.pairwise_cons.1 hs).1
    have hs2 : SortH l := (List.pairwise_cons.1 hs).2
    have hy := hn y List.mem_cons_self
    have h := splitH_no hs2 (a := a) (fun x hx => hn x (List.mem_cons_of_mem _ hx))
    by_cases c : y.f0 < a
    · have e1 : ltH (y :: l) a = y :: ltH l a := by unfold ltH; rw [List.filter_cons_of_pos (by simpa using c)]
      have e2 : gtH (y :: l) a = gtH l a := by unfold gtH; rw [List.filter_cons_of_neg (by simp; omega)]
      rw [e1, e2, List.cons_append, ← h]
    · have h2 := gtH_all (l := l) (a := a) (fun z hz => by have := hs1 z hz; omega)
      have e1 : ltH (y :: l) a = [] := by unfold ltH; rw [List.filter_cons_of_neg (by simpa using c)]; exact h2.1
      have e2 : gtH (y :: l) a = y :: l := by unfold gtH; rw [List.filter_cons_of_pos (by simp; omega)]; congr 1; exact h2.2
      rw [e1, e2]; rfl
theorem mem_insH {l : List S49} {s x : S49} : x ∈ insH l s ↔ x = s ∨ (x ∈ l ∧ x.f0 ≠ s.f0) := by
  unfold insH ltH gtH
  simp only [List.mem_append, List.mem_filter, List.mem_singleton, decide_eq_true_eq]
  constructor
  · rintro ((⟨h1, h2⟩ | h) | ⟨h1, h2⟩)
    · exact .inr ⟨h1, by omega⟩
    · exact .inl h
    · exact .inr ⟨h1, by omega⟩
  · rintro (h | ⟨h1, h2⟩)
    · exact .inl (.inr h)
    · rcases Int.lt_or_gt_of_ne h2 with h3 | h3
      · exact .inl (.inl ⟨h1, h3⟩)
      · exact .inr ⟨h1, h3⟩
theorem insH_sorted {l : List S49} (hs : SortH l) (s : S49) : SortH (insH l s) := by
  unfold SortH insH
  rw [List.pairwise_append, List.pairwise_append]
  refine ⟨⟨hs.filter _, List.pairwise_singleton _ _, fun a ha b hb => ?_⟩, hs.filter _, fun a ha b hb => ?_⟩
  · rw [List.mem_singleton.1 hb]
    exact of_decide_eq_true (List.mem_filter.1 ha).2
  · have h2 := of_decide_eq_true (List.mem_filter.1 hb).2
    rcases List.mem_append.1 ha with ha | ha
    · have h1 := of_decide_eq_true (List.mem_filter.1 ha).2
      exact Int.lt_trans h1 h2
    · rw [List.mem_singleton.1 ha]
      exact h2
theorem setH_mid (A B : List S49) (x s : S49) : (A ++ [x] ++ B).set A.length s = A ++ [s] ++ B := by
  induction A with
  | nil => rfl
  | cons a A ih => simp
theorem getH_mid (A B : List S49) (x : S49) : (A ++ [x] ++ B)[A.length]? = some x := by
  induction A with
  | nil => rfl
  | cons a A ih => simp
theorem insH_set {l : List S49} (hs : SortH l) {s x : S49} (hx : x ∈ l) (he : x.f0 = s.f0) : l.set (posH l s.f0) s = insH l s := by
  have h := splitH_at hs hx
  rw [he] at h
  have h2 := setH_mid (ltH l s.f0) (gtH l s.f0) x s
  rw [← h] at h2
  exact h2
theorem insH_new {l : List S49} (hs : SortH l) {s : S49} (hn : hasH l s.f0 = false) : l.take (posH l s.f0) ++ [s] ++ l.drop (posH l s.f0) = insH l s := by
  have h := splitH_no hs (a := s.f0) (fun x hx e => by rw [hasH_iff.2 ⟨x, hx, e⟩] at hn; cases hn)
  have h1 : (ltH l s.f0 ++ gtH l s.f0).take (ltH l s.f0).length = ltH l s.f0 := List.take_left' rfl
  have h2 : (ltH l s.f0 ++ gtH l s.f0).drop (ltH l s.f0).length = gtH l s.f0 := List.drop_left' rfl
  rw [← h] at h1 h2
  replace h1 : l.take (posH l s.f0) = ltH l s.f0 := h1
  replace h2 : l.drop (posH l s.f0) = gtH l s.f0 := h2
  rw [h1, h2]; rfl
theorem insH_len {l : List S49} (hs : SortH l) (s : S49) : (insH l s).length ≤ l.length + 1 := by
  cases h : hasH l s.f0
  · rw [← insH_new hs h]
    simp only [List.length_append, List.length_take, List.length_drop, List.length_cons, List.length_nil]; omega
  · obtain ⟨x, hx, he⟩ := hasH_iff.1 h
    rw [← insH_set hs hx he, List.length_set]; omega
theorem standsH {l : List S49} (hs : SortH l) (a : Int) : posH l a ≤ l.length ∧ (∀ k : Nat, k < posH l a → (rd_T49 l k).f0 < a) ∧ ∀ k : Nat, posH l a ≤ k → k < l.length → a ≤ (rd_T49 l k).f0 := by
  have hp : posH l a ≤ l.length := List.length_filter_le _ _
  have key : ∃ C, l = ltH l a ++ C ∧ ∀ x ∈ C, a ≤ x.f0 := by
    by_cases h : hasH l a = true
    · obtain ⟨x, hx, he⟩ := hasH_iff.1 h
      have h2 := splitH_at hs hx
      rw [he] at h2
      refine ⟨[x] ++ gtH l a, by rw [← List.append_assoc]; exact h2, fun y hy => ?_⟩
      rcases List.mem_append.1 hy with hy | hy
      · rw [List.mem_singleton.1 hy, he]; exact Int.le_refl _
      · exact Int.le_of_lt (of_decide_eq_true (List.mem_filter.1 hy).2)
    · exact ⟨gtH l a, splitH_no hs (fun x hx e => h (hasH_iff.2 ⟨x, hx, e⟩)), fun y hy => Int.le_of_lt (of_decide_eq_true (List.mem_filter.1 hy).2)⟩
  obtain ⟨C, hC, hge⟩ := key
  refine ⟨hp, fun k hk => ?_, fun k hk hl => ?_⟩
  · rw [rd49 l k (by omega)]
    have h1 : l[k]? = (ltH l a)[k]? := by
      conv => lhs; rw [hC]
      exact List.getElem?_append_left hk
    rw [List.getElem?_eq_getElem (by omega), List.getElem?_eq_getElem hk] at h1
    have h2 := Option.some.inj h1
    rw [h2]
    exact of_decide_eq_true (List.mem_filter.1 (List.getElem_mem hk)).2
  · rw [rd49 l k hl]
    have hlen : (ltH l a).length + C.length = l.length := by rw [← List.length_append, ← hC]
    have hk' : (ltH l a).length ≤ k := hk
    have h1 : l[k]? = C[k - (ltH l a).length]? := by
      conv => lhs; rw [hC]
      exact List.getElem?_append_right hk'
    rw [List.getElem?_eq_getElem hl, List.getElem?_eq_getElem (show k - (ltH l a).length < C.length by omega)] at h1
    rw [Option.some.inj h1]
    exact hge _ (List.getElem_mem _)
theorem atH_has {l : List S49} (hs : SortH l) (a : Int) : (decide (posH l a < l.length) && decide ((rd_T49 l (posH l a)).f0 = a)) = hasH l a := by
  by_cases h : hasH l a = true
  · rw [h]
    obtain ⟨x, hx, he⟩ := hasH_iff.1 h
    have h2 := splitH_at hs hx
    rw [he] at h2
    have h3 := getH_mid (ltH l a) (gtH l a) x
    rw [← h2] at h3
    replace h3 : l[posH l a]? = some x := h3
    have h4 := (List.getElem?_eq_some_iff.1 h3).1
    rw [decide_eq_true h4, rd49 l _ h4, (List.getElem?_eq_some_iff.1 h3).2, decide_eq_true he]; rfl
  · have hf : hasH l a = false := Bool.eq_false_iff.2 h
    rw [hf]
    by_cases h4 : posH l a < l.length
    · rw [decide_eq_false (show ¬ (rd_T49 l ((posH l a : Nat) : Int)).f0 = a from fun e => h (hasH_iff.2 ⟨_, List.getElem_mem h4, by rw [← rd49 l _ h4]; exact e⟩)), Bool.and_false]
    · rw [decide_eq_false h4]; rfl
/-! ### keep -/
def keepS (srcs : List S49) (l : List Int) (left : Int) : List S49 := l.foldl (fun s a => insH s ⟨a, left⟩) srcs
theorem keep_succ (srcs : List S49) {l : List Int} {i : Nat} (h : i < l.length) (left : Int) : keepS srcs (l.take (i + 1)) left = insH (keepS srcs (l.take i) left) ⟨rd l i, left⟩ := by
  unfold keepS
  rw [rdI l i h, ← List.take_append_getElem h, List.foldl_append]
  rfl
theorem keep_sorted (l : List Int) (left : Int) : ∀ {srcs : List S49}, SortH srcs → SortH (keepS srcs l left) := by
  unfold keepS
  induction l with
  | nil => exact fun h => h
  | cons a l ih => exact fun h => ih (insH_sorted h _)
theorem keep_len (l : List Int) (left : Int) : ∀ {srcs : List S49}, SortH srcs → (keepS srcs l left).length ≤ srcs.length + l.length := by
  unfold keepS
  induction l with
  | nil => exact fun _ => Nat.le_refl _
  | cons a l ih =>
    intro srcs h
    have h1 := ih (insH_sorted h ⟨a, left⟩)
    have h2 := insH_len h ⟨a, left⟩
    rw [List.foldl_cons, List.length_cons]
    omega
/-! ### a source's time, put into its row -/
theorem R49_store {w : World} {base g n c : Nat} {xs : List S49} (h : Kd.R k49 49 w base (fun _ => True) (.slice (some ⟨g, 0, none⟩) n c) xs) (i : Nat) (hi : i < xs.length) (t : Int) :
    Kd.R k49 49 (w.setCell ⟨g, i * 2 + 1, none⟩ (.int .i64 t)) base (fun _ => True) (.slice (some ⟨g, 0, none⟩) n c) (xs.set i ⟨(rd_T49 xs i).f0, t⟩) ∧ w.grownBy (w.setCell ⟨g, i * 2 + 1, none⟩ (.int .i64 t)) (some g) := by
  obtain rfl := (Kd.R_reads' h).1
  obtain ⟨h0, inner, hown, hr⟩ := h
  obtain ⟨h1, g1⟩ := hown.stored (i * 2 + 1) (.int .i64 t)
  have hil : inner.length = xs.length * 2 := hown.1
  have hx := hr.2 i xs[i] (List.getElem?_eq_getElem hi)
  have hK : (inner.drop (i * 2)).take 2 = [.int .u32 xs[i].f0, .int .i64 xs[i].f1] := k49_openM hx
  have e : inner.set (i * 2 + 1) (.int .i64 t) = inner.take (i * 2) ++ [.int .u32 xs[i].f0, .int .i64 t] ++ inner.drop (i * 2 + 2) := by
    have e1 : inner = inner.take (i * 2) ++ [.int .u32 xs[i].f0, .int .i64 xs[i].f1] ++ inner.drop (i * 2 + 2) := by
      conv => lhs; rw [← List.take_append_drop (i * 2) inner, ← List.take_append_drop 2 (inner.drop (i * 2)), hK, List.drop_drop]
      rw [List.append_assoc]
    conv => lhs; rw [e1]
    have hl : (inner.take (i * 2)).length = i * 2 := by rw [List.length_take]; omega
    rw [List.append_assoc, List.set_append_right _ _ (by omega), hl, show i * 2 + 1 - i * 2 = 1 by omega]
    rw [List.append_assoc]; rfl
  refine ⟨⟨h0, _, by rw [List.length_set]; exact h1, ?_⟩, g1⟩
  rw [e, rd49 xs i hi]
  exact Kd.reps_set (size := 2) (x := ⟨xs[i].f0, t⟩) (seg := [.int .u32 xs[i].f0, .int .i64 t]) (Reps.imp_ hr (fun p c hp => by rw [k49_openM hp]; exact k49_mkM _ _ _ _)) hi (k49_mkM _ _ _ _) rfl
end Go.Proofs.Ytbllchfgjginoaa
