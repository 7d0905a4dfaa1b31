/-
  slices.Insert of one socket into a row of the call's own: the four roads.
-/
import Derived.Test.YtjncmiclpaodhaaHoS
import Derived.Shelf.Spec.SlicesInsert
import Derived.Lib.AppendZerosOnto
import Derived.Lib.Overlaps
import Derived.Test.YtjncmiclpaodhaaSoI
namespace Go.Proofs.Ytjncmiclpaodhaa
set_option maxHeartbeats 4000000
set_option maxRecDepth 100000
open Go.RowKit Go.Lib Go.Proofs.YtjncmiclpaodhaaW.PrintWords Go.Proofs.Ytjncmiclpaodhaa.PHo
set_option linter.unusedVariables false
set_option linter.unusedSimpArgs false
theorem run_copy_wide {P : Program} (w : World) (dT sT ty elem : TypeId) (sz g o dLen dCap : Nat) (a : Addr) (sLen sCap m : Nat) (cur : Array Value) (t : TypeId) (cs : List Value)
    (hu : P.underlying dT = some (.slice elem)) (hs : (P.info? elem).map (·.size) = some sz)
    (hg : w.heap[g]? = some (.cells cur t (0, 0))) (hm : Nat.min sLen dLen = m) (hn : cs.length = m * sz)
    (hsrc : ∀ j v, cs[j]? = some v → w.cell? (a.add j) = some v) (hfit : o + cs.length ≤ cur.size) (h1 : ∀ v ∈ cs, v.oneCell' = true) :
    (Builtin.copy_ #[dT, sT] ty #[.slice (some ⟨g, o, none⟩) dLen dCap, .slice (some a) sLen sCap]).run P w =
      .ok (goInt m) (w.setRow g (cur.toList.take o ++ cs ++ cur.toList.drop (o + cs.length)).toArray) := by
  have hl := run_loadCells_list (P := P) w a cs hsrc
  have hst := run_storeCells_at P g o t cs 0 cur w hg (by simpa using hfit) h1
  cases hq : P.info? elem with
  | none => simp [hq] at hs
  | some i =>
    have hi : i.size = sz := by simpa [hq] using hs
    rw [hn] at hl
    simp [Builtin.copy_, run_underlying hu, Builtin.lenOf, Builtin.firstCells, sizeOf, typeInfo, hq, hi, hm, hl, hst]
theorem setRow_other (w : World) (g k : Nat) (c : Array Value) (h : k ≠ g) : (w.setRow g c).heap[k]? = w.heap[k]? := by
  unfold World.setRow
  simp [Array.getElem?_modify, Ne.symm h]
theorem setRow_grown (w : World) (g : Nat) (c : Array Value) : w.grownBy (w.setRow g c) (some g) :=
  ⟨rfl, rfl, rfl, by simp [World.setRow], fun k _ hk => setRow_other w g k c (fun e => hk (by rw [e]))⟩
theorem size42_ : (Try.prog.info? 42).map (·.size) = some 4 := by kernel_rfl
theorem sizeOf42_ (w : World) : (Go.sizeOf 42).run Try.prog w = .ok 4 w := by kernel_rfl
theorem add0_ (b o k : Nat) : (⟨b, o, none⟩ : Addr).add k = ⟨b, o + k, none⟩ := by unfold Addr.add; split <;> simp_all
theorem insert_shift_w (b n c i vb vc : Nat) (cur : Array Value) (cs vs : List Value) (vcur : Array Value) (w : World) (hi : i < n) (hroom : n + 1 ≤ c) (hc63 : c ≤ 9223372036854775807) (hvb : vb ≠ b)
    (hb : w.heap[b]? = some (.cells cur 42 (0, 0))) (hsz : cur.size = c * 4) (hcs : (cur.toList.take (n * 4)).drop (i * 4) = cs)
    (hv : w.heap[vb]? = some (.cells vcur 42 (0, 0))) (hvs : vcur.toList.take 4 = vs) (hvl : vs.length = 4) (h1c : ∀ v ∈ cs, v.oneCell' = true) (h1v : ∀ v ∈ vs, v.oneCell' = true) :
    Calls Try.prog 32 #[.slice (some ⟨b, 0, none⟩) n c, .int .i64 i, .slice (some ⟨vb, 0, none⟩) 1 vc] w fun e w' =>
      e = .returned (.slice (some ⟨b, 0, none⟩) (n + 1) c) ∧ w.grownBy w' (some b) ∧ ∃ cur2 : Array Value, w'.heap[b]? = some (.cells cur2 42 (0, 0)) ∧ cur2.size = cur.size ∧ cur2.toList.take ((n + 1) * 4) = cur.toList.take (i * 4) ++ vs ++ cs := by
  have hz2 : ¬ ((i : Int) = (n : Int)) := by omega
  have hcl : cs.length = (n - i) * 4 := by rw [← hcs, List.length_drop, List.length_take, Array.length_toList]; omega
  have hw1 : IntKind.i64.wrap ((i : Int) + (1 : Int)) = (i : Int) + (1 : Int) := by rw [IntKind.wrap_i64]; omega
  have hw2 : IntKind.i64.wrap ((n : Int) + (1 : Int)) = (n : Int) + (1 : Int) := by rw [IntKind.wrap_i64]; omega
  have hov : ∀ o lb cb, (callFunc 55 #[.slice (some ⟨vb, 0, none⟩) 1 vc, .slice (some ⟨b, o, none⟩) lb cb]).run Try.prog w = .ok (.value (.bool false)) w := fun o lb cb => by
    rw [run_callFunc_extern Try.func55 (by kernel_rfl) (by kernel_rfl) (by kernel_rfl) (e := Extern.SlicesOverlaps.overlaps #[38, 38] #[4]) (by kernel_rfl),
      Lib.run_overlaps_apart w 38 4 42 Try.underlying38 4 sizeOf42_ ⟨vb, 0, none⟩ ⟨b, o, none⟩ 1 vc lb cb hvb 42 42 vcur.size cur.size (by simp [World.shape?, hv]) (by simp [World.shape?, hb]) (by omega) (by simp [World.frozen?, hv]) (by simp [World.frozen?, hv])]
    rfl
  have hbw : b < w.heap.size := (Array.getElem?_eq_some_iff.1 hb).1
  have hcurl : cur.toList.length = c * 4 := by rw [Array.length_toList, hsz]
  obtain ⟨cur1, hcur1⟩ : ∃ cur1 : Array Value, cur1 = (cur.toList.take ((i + 1) * 4) ++ cs ++ cur.toList.drop ((i + 1) * 4 + cs.length)).toArray := ⟨_, rfl⟩
  obtain ⟨W1, hW1⟩ : ∃ W1, W1 = w.drew.setRow b cur1 := ⟨_, rfl⟩
  have hcl1 : cur1.toList.length = c * 4 := by rw [hcur1]; simp only [List.toList_toArray, List.length_append, List.length_take, List.length_drop, hcurl, hcl]; omega
  have hb1 : W1.heap[b]? = some (.cells cur1 42 (0, 0)) := by rw [hW1]; exact setRow_heap w.drew b cur _ 42 _ hb
  have hv1 : W1.heap[vb]? = some (.cells vcur 42 (0, 0)) := by rw [hW1, setRow_other _ _ _ _ hvb]; exact hv
  obtain ⟨cur2, hcur2⟩ : ∃ cur2 : Array Value, cur2 = (cur1.toList.take (i * 4) ++ vs ++ cur1.toList.drop (i * 4 + vs.length)).toArray := ⟨_, rfl⟩
  have hcp1 : ∀ ty dc sc, (Builtin.copy_ #[38, 38] ty #[.slice (some ⟨b, (i + 1) * 4, none⟩) (n - i) dc, .slice (some ⟨b, i * 4, none⟩) (n + 1 - i) sc]).run Try.prog w.drew = .ok (goInt ((n - i : Nat) : Int)) W1 := fun ty dc sc => by
    rw [run_copy_wide w.drew 38 38 ty 42 4 b ((i + 1) * 4) (n - i) dc ⟨b, i * 4, none⟩ (n + 1 - i) sc (n - i) cur 42 cs Try.underlying38 size42_ hb (by simp only [Nat.min_def]; split <;> omega) hcl
      (fun j v hj => by
        rw [add0_]
        rw [← hcs, List.getElem?_drop, List.getElem?_take] at hj
        split at hj
        · have h2 := cell_of_row w.drew b (i * 4 + j) cur 42 (0, 0) hb
          rw [h2, ← Array.getElem?_toList]; exact hj
        · cases hj)
      (by rw [hcl, hsz]; omega) h1c, hW1, hcur1]
  have hcp2 : ∀ ty dc, (Builtin.copy_ #[38, 38] ty #[.slice (some ⟨b, i * 4, none⟩) (n + 1 - i) dc, .slice (some ⟨vb, 0, none⟩) 1 vc]).run Try.prog W1 = .ok (goInt ((1 : Nat) : Int)) (W1.setRow b cur2) := fun ty dc => by
    rw [run_copy_wide W1 38 38 ty 42 4 b (i * 4) (n + 1 - i) dc ⟨vb, 0, none⟩ 1 vc 1 cur1 42 vs Try.underlying38 size42_ hb1 (by simp only [Nat.min_def]; split <;> omega) (by rw [hvl])
      (fun j v hj => by
        rw [add0_]
        rw [← hvs, List.getElem?_take] at hj
        split at hj
        · have h2 := cell_of_row W1 vb (0 + j) vcur 42 (0, 0) hv1
          rw [h2, ← Array.getElem?_toList, Nat.zero_add]; exact hj
        · cases hj)
      (by rw [← Array.length_toList, hcl1, hvl]; omega) h1v, hcur2]
  have hres : cur2.toList.take ((n + 1) * 4) = cur.toList.take (i * 4) ++ vs ++ cs := by
    have e1 : cur1.toList.take (i * 4) = cur.toList.take (i * 4) := by
      rw [hcur1, List.toList_toArray, List.append_assoc, List.take_append_of_le_length (by rw [List.length_take]; omega), List.take_take]
      congr 1; omega
    have e2 : cur1.toList.drop (i * 4 + vs.length) = cs ++ cur.toList.drop ((i + 1) * 4 + cs.length) := by
      rw [hcur1, List.toList_toArray, List.append_assoc, List.drop_left' (by rw [List.length_take]; omega)]
    rw [hcur2, List.toList_toArray, e1, e2, ← List.append_assoc]
    rw [List.take_left' (by simp only [List.length_append, List.length_take, hcl, hvl]; omega)]
  have hsz2 : cur2.size = cur.size := by
    rw [← Array.length_toList, hcur2, List.toList_toArray]
    simp only [List.length_append, List.length_take, List.length_drop, hcl1, hvl, hsz]; omega
  have hg1 : w.grownBy W1 (some b) := by rw [hW1]; exact ⟨rfl, rfl, rfl, (setRow_grown w.drew b cur1).size, (setRow_grown w.drew b cur1).block⟩
  have hg2 : w.grownBy (W1.setRow b cur2) (some b) := ⟨hg1.os, hg1.tape, hg1.output, Nat.le_trans hg1.size (setRow_grown W1 b cur2).size, fun k hk hne => ((setRow_grown W1 b cur2).block k (Nat.lt_of_lt_of_le hk hg1.size) hne).trans (hg1.block k hk hne)⟩
  have hb2 : (W1.setRow b cur2).heap[b]? = some (.cells cur2 42 (0, 0)) := setRow_heap W1 b cur1 cur2 42 _ hb1
  obtain ⟨W2, hW2⟩ : ∃ W2, W2 = W1.setRow b cur2 := ⟨_, rfl⟩
  rw [← hW2] at hg2 hb2 hcp2
  clear hcur1 hcur2 hW1 hW2
  have hb1_ : (0 : Int) ≤ (i : Int) + (1 : Int) := by omega
  have hin : i ≤ n := by omega
  have htn : ((i : Int) + (1 : Int)).toNat = i + 1 := by omega
  have hb5 : ¬ (c = i + 1) := by omega
  have hb3 : (i : Int) ≤ (n : Int) + (1 : Int) := by omega
  have hb4 : ¬ (c = i) := by omega
  go_enter Try.func32, Try.ntmps32
  go_wp2_with (simp only [hov])
  go_region_law (refine step_copy_runI rfl _ _ 38 38 rfl _ _ (by simp [Act.eval, Act.put]) (by simp [Act.eval, Act.put]) (hcp1 _ _ _) ?_)
  go_wp2_with (at_builtin; refine wpList_copy_runI _ rfl _ _ 38 38 rfl _ _ rfl rfl (hcp2 _ _) ?_)
  go_ret
  exact ⟨rfl, hg2, cur2, hb2, hsz2, hres⟩
theorem grown_none {w w' : World} {b : Nat} (h : w.grownBy w' (some b)) (hb : w.heap.size ≤ b) (r : Option Nat) : w.grownBy w' r :=
  ⟨h.os, h.tape, h.output, h.size, fun k hk _ => h.block k hk (fun e => by injection e with e; omega)⟩
theorem insert_grow_w (b n c i vb vc : Nat) (cur : Array Value) (cs vs : List Value) (vcur : Array Value) (w : World) (hi : i < n) (hroom : ¬ n + 1 ≤ c) (hnc : n ≤ c) (hn : n ≤ 1000000)
    (hb : w.heap[b]? = some (.cells cur 42 (0, 0))) (hsz : cur.size = c * 4) (hcs : (cur.toList.take (n * 4)).drop (i * 4) = cs)
    (hv : w.heap[vb]? = some (.cells vcur 42 (0, 0))) (hvs : vcur.toList.take 4 = vs) (hvl : vs.length = 4) (h1c : ∀ v ∈ cs, v.oneCell' = true) (h1v : ∀ v ∈ vs, v.oneCell' = true) :
    Calls Try.prog 32 #[.slice (some ⟨b, 0, none⟩) n c, .int .i64 i, .slice (some ⟨vb, 0, none⟩) 1 vc] w fun e w' =>
      ∃ G, n + 1 ≤ G ∧ G ≤ maxLen ∧ e = .returned (.slice (some ⟨w.heap.size, 0, none⟩) (n + 1) G) ∧ w.grownBy w' none ∧ ∃ cur2 : Array Value, w'.heap[w.heap.size]? = some (.cells cur2 42 (0, 0)) ∧ cur2.size = G * 4 ∧ cur2.toList.take ((n + 1) * 4) = cur.toList.take (i * 4) ++ vs ++ cs := by
  have hz2 : ¬ ((i : Int) = (n : Int)) := by omega
  have hcl : cs.length = (n - i) * 4 := by rw [← hcs, List.length_drop, List.length_take, Array.length_toList]; omega
  have hw1 : IntKind.i64.wrap ((i : Int) + (1 : Int)) = (i : Int) + (1 : Int) := by rw [IntKind.wrap_i64]; omega
  have hw2 : IntKind.i64.wrap ((n : Int) + (1 : Int)) = (n : Int) + (1 : Int) := by rw [IntKind.wrap_i64]; omega
  have hw3 : IntKind.i64.wrap ((n : Int) + (1 : Int) - (i : Int)) = ((n + 1 - i : Nat) : Int) := by rw [IntKind.wrap_i64]; omega
  have hz3 : (c : Int) < (n : Int) + (1 : Int) := by omega
  have hbw : b < w.heap.size := (Array.getElem?_eq_some_iff.1 hb).1
  have hvw : vb < w.heap.size := (Array.getElem?_eq_some_iff.1 hv).1
  have hcurl : cur.toList.length = c * 4 := by rw [Array.length_toList, hsz]
  obtain ⟨i0, hi0, hz0⟩ := Option.map_eq_some_iff.1 info42_
  simp only [Prod.mk.injEq] at hz0
  obtain ⟨hz0, hzs, hzb⟩ := hz0
  have hold : (Builtin.firstCells i0.size i (.slice (some ⟨b, 0, none⟩) i c)).run Try.prog w.drew = .ok (cur.toList.take (i * 4)).toArray w.drew := by
    rw [hzs]
    exact run_firstCells_some w.drew 4 i ⟨b, 0, none⟩ i c (cur.toList.take (i * 4)) (by rw [List.length_take]; omega) (fun j v hj => by
      rw [add0_, Nat.zero_add]
      rw [List.getElem?_take] at hj
      split at hj
      · have h2 := cell_of_row w.drew b j cur 42 (0, 0) hb
        rw [h2, ← Array.getElem?_toList]; exact hj
      · cases hj)
  obtain ⟨G, hG⟩ : ∃ G, G = grownCap w (n + 1) c 42 := ⟨_, rfl⟩
  have hGn : n + 1 ≤ G := by rw [hG]; exact grownCap_ge w _ _ _
  have hGm : G ≤ maxLen := by rw [hG]; exact grownCap_le_maxLen w (n + 1) c 42 (by unfold maxLen; omega)
  have hG63 : G ≤ 9223372036854775807 := by unfold maxLen at hGm; omega
  obtain ⟨ROW, hROW⟩ : ∃ ROW : Array Value, ROW = (cur.toList.take (i * 4)).toArray ++ Builtin.zeroCells (Value.agg #[.int .i64 0, .int .u32 0, .bool false, .slice none 0 0]).cells (n + 1 - i) ++ Builtin.zeroCells (Value.agg #[.int .i64 0, .int .u32 0, .bool false, .slice none 0 0]).cells (G - (n + 1)) := ⟨_, rfl⟩
  have hRl : ROW.size = G * 4 := by
    rw [hROW]
    simp only [Array.size_append, List.size_toArray, List.length_take, hcurl, size_zeroCells]
    rw [show (Value.agg #[.int .i64 0, .int .u32 0, .bool false, .slice none 0 0]).cells.size = 4 from by kernel_rfl]
    omega
  have hRt : ROW.toList.take (i * 4) = cur.toList.take (i * 4) := by
    rw [hROW]
    simp only [Array.toList_append, List.append_assoc]
    rw [List.take_append_of_le_length (by rw [List.length_take]; omega), List.take_take, Nat.min_self]
  have hik : i + (n + 1 - i) = n + 1 := by omega
  obtain ⟨W1, hW1⟩ : ∃ W1, W1 = w.drew.alloc (.cells ROW 42) := ⟨_, rfl⟩
  have hrz : ∀ ty, (Builtin.append_ #[38, 3] ty #[.slice (some ⟨b, 0, none⟩) i c, .int .i64 ((n + 1 - i : Nat) : Int)]).run Try.prog w = .ok (.slice (some ⟨w.heap.size, 0, none⟩) (n + 1) G) W1 := fun ty => by
    have h := Lib.run_append_grow_zeros w 38 3 ty 42 i0 _ .i64 .i64 Try.underlying38 Try.underlying3 hi0 hz0 (some ⟨b, 0, none⟩) i c (cur.toList.take (i * 4)) hold (n + 1 - i) (by omega) (by omega) (by omega) (by omega) (by rw [hzb]; omega) (by rw [hzb, hik]; exact growslice_fits (by omega) (by omega))
    rw [hik, ← hG] at h
    rw [h, hW1, hROW]
  have hg1 : w.grownBy W1 none := by rw [hW1]; exact ⟨rfl, rfl, rfl, (World.grownBy_alloc w.drew _ none).size, (World.grownBy_alloc w.drew _ none).block⟩
  have hb1 : W1.heap[w.heap.size]? = some (.cells ROW 42 (0, 0)) := by rw [hW1]; exact heap_alloc_new w.drew _
  have hv1 : W1.heap[vb]? = some (.cells vcur 42 (0, 0)) := by rw [hg1.block vb hvw (by simp)]; exact hv
  have ho1 : W1.heap[b]? = some (.cells cur 42 (0, 0)) := by rw [hg1.block b hbw (by simp)]; exact hb
  clear hW1
  obtain ⟨cur1, hcur1⟩ : ∃ cur1 : Array Value, cur1 = (ROW.toList.take (i * 4) ++ vs ++ ROW.toList.drop (i * 4 + vs.length)).toArray := ⟨_, rfl⟩
  have hcp1 : ∀ ty dc, (Builtin.copy_ #[38, 38] ty #[.slice (some ⟨w.heap.size, i * 4, none⟩) (n + 1 - i) dc, .slice (some ⟨vb, 0, none⟩) 1 vc]).run Try.prog W1 = .ok (goInt ((1 : Nat) : Int)) (W1.setRow w.heap.size cur1) := fun ty dc => by
    rw [run_copy_wide W1 38 38 ty 42 4 w.heap.size (i * 4) (n + 1 - i) dc ⟨vb, 0, none⟩ 1 vc 1 ROW 42 vs Try.underlying38 size42_ hb1 (by simp only [Nat.min_def]; split <;> omega) (by rw [hvl])
      (fun j v hj => by
        rw [add0_]
        rw [← hvs, List.getElem?_take] at hj
        split at hj
        · have h2 := cell_of_row W1 vb (0 + j) vcur 42 (0, 0) hv1
          rw [h2, ← Array.getElem?_toList, Nat.zero_add]; exact hj
        · cases hj)
      (by rw [hRl, hvl]; omega) h1v, hcur1]
  have hl1 : cur1.toList.length = G * 4 := by
    rw [hcur1, List.toList_toArray]
    simp only [List.length_append, List.length_take, List.length_drop, Array.length_toList, hvl, hRl]; omega
  have hg2 : w.grownBy (W1.setRow w.heap.size cur1) none :=
    grown_none (w' := W1.setRow w.heap.size cur1) (b := w.heap.size) ⟨hg1.os, hg1.tape, hg1.output, Nat.le_trans hg1.size (setRow_grown W1 w.heap.size cur1).size, fun k hk hne => ((setRow_grown W1 w.heap.size cur1).block k (Nat.lt_of_lt_of_le hk hg1.size) hne).trans (hg1.block k hk (by simp))⟩ (Nat.le_refl _) none
  have hb2 : (W1.setRow w.heap.size cur1).heap[w.heap.size]? = some (.cells cur1 42 (0, 0)) := setRow_heap W1 w.heap.size ROW cur1 42 _ hb1
  have ho2 : (W1.setRow w.heap.size cur1).heap[b]? = some (.cells cur 42 (0, 0)) := by rw [setRow_other _ _ _ _ (by omega)]; exact ho1
  obtain ⟨W2, hW2⟩ : ∃ W2, W2 = W1.setRow w.heap.size cur1 := ⟨_, rfl⟩
  rw [← hW2] at hg2 hb2 hcp1 ho2
  clear hW2 hb1 hv1 ho1 hg1
  obtain ⟨cur2, hcur2⟩ : ∃ cur2 : Array Value, cur2 = (cur1.toList.take ((i + 1) * 4) ++ cs ++ cur1.toList.drop ((i + 1) * 4 + cs.length)).toArray := ⟨_, rfl⟩
  obtain ⟨W3, hW3⟩ : ∃ W3, W3 = W2.drew.setRow w.heap.size cur2 := ⟨_, rfl⟩
  have hcp2 : ∀ ty dc sc, (Builtin.copy_ #[38, 38] ty #[.slice (some ⟨w.heap.size, (i + 1) * 4, none⟩) (n - i) dc, .slice (some ⟨b, i * 4, none⟩) (n - i) sc]).run Try.prog W2.drew = .ok (goInt ((n - i : Nat) : Int)) W3 := fun ty dc sc => by
    rw [run_copy_wide W2.drew 38 38 ty 42 4 w.heap.size ((i + 1) * 4) (n - i) dc ⟨b, i * 4, none⟩ (n - i) sc (n - i) cur1 42 cs Try.underlying38 size42_ hb2 (by simp only [Nat.min_def]; split <;> omega) hcl
      (fun j v hj => by
        rw [add0_]
        rw [← hcs, List.getElem?_drop, List.getElem?_take] at hj
        split at hj
        · have h2 := cell_of_row W2.drew b (i * 4 + j) cur 42 (0, 0) ho2
          rw [h2, ← Array.getElem?_toList]; exact hj
        · cases hj)
      (by rw [← Array.length_toList, hl1, hcl]; omega) h1c, hW3, hcur2]
  have hg3 : w.grownBy W3 none := by
    rw [hW3]
    exact grown_none (w' := W2.drew.setRow w.heap.size cur2) (b := w.heap.size) ⟨hg2.os, hg2.tape, hg2.output, Nat.le_trans hg2.size (setRow_grown W2.drew w.heap.size cur2).size, fun k hk hne => ((setRow_grown W2.drew w.heap.size cur2).block k (Nat.lt_of_lt_of_le hk hg2.size) hne).trans (hg2.block k hk (by simp))⟩ (Nat.le_refl _) none
  have hb3 : W3.heap[w.heap.size]? = some (.cells cur2 42 (0, 0)) := by rw [hW3]; exact setRow_heap W2.drew w.heap.size cur1 cur2 42 _ hb2
  have hsz2 : cur2.size = G * 4 := by
    rw [← Array.length_toList, hcur2, List.toList_toArray]
    simp only [List.length_append, List.length_take, List.length_drop, hl1, hcl]; omega
  have hres : cur2.toList.take ((n + 1) * 4) = cur.toList.take (i * 4) ++ vs ++ cs := by
    have e1 : cur1.toList.take ((i + 1) * 4) = cur.toList.take (i * 4) ++ vs := by
      rw [hcur1, List.toList_toArray, hRt]
      exact List.take_left' (by simp only [List.length_append, List.length_take, hcurl, hvl]; omega)
    rw [hcur2, List.toList_toArray, e1]
    exact List.take_left' (by simp only [List.length_append, List.length_take, hcurl, hcl, hvl]; omega)
  clear hcur1 hcur2 hW3 hROW hG
  have hb1_ : (0 : Int) ≤ (i : Int) + (1 : Int) := by omega
  have hin : i ≤ n := by omega
  have htn : ((i : Int) + (1 : Int)).toNat = i + 1 := by omega
  have hb3_ : (i : Int) ≤ (n : Int) + (1 : Int) := by omega
  have hb4 : ¬ (c = i) := by omega
  have hb6 : ¬ (G = i + 1) := by omega
  have hb7 : ¬ (G = i) := by omega
  go_enter Try.func32, Try.ntmps32
  go_wp2_with (first | (at_builtin; refine Lib.wpList_append_run _ rfl _ _ _ _ rfl _ _ rfl rfl _ _ (hrz _) ?_) | (at_builtin; refine wpList_copy_runI _ rfl _ _ 38 38 rfl _ _ rfl rfl (hcp1 _ _) ?_))
  go_region_law (refine step_copy_runI rfl _ _ 38 38 rfl _ _ (by simp [Act.eval, Act.put]) (by simp [Act.eval, Act.put]) (hcp2 _ _ _) ?_)
  go_wp2
  go_ret
  exact ⟨G, hGn, hGm, rfl, hg3, cur2, hb3, hsz2, hres⟩
theorem insert_end_w (B : Nat) (A : Option Addr) (n c vb vc : Nat) (inner vs : List Value) (vcur : Array Value) (w : World) (hB : B ≤ w.heap.size) (hn : n ≤ 1000000) (ho : w.ownsRow B 42 4 (.slice A n c) n inner)
    (hv : w.heap[vb]? = some (.cells vcur 42 (0, 0))) (hvs : vcur.toList.take 4 = vs) (hvl : vs.length = 4) (h1v : ∀ v ∈ vs, v.oneCell' = true) :
    Calls Try.prog 32 #[.slice A n c, .int .i64 n, .slice (some ⟨vb, 0, none⟩) 1 vc] w fun e w' => ∃ v', e = .returned v' ∧ w'.ownsRow B 42 4 v' (n + 1) (inner ++ vs) ∧ w.grownBy w' (Value.slice A n c).ownBlock := by
  obtain ⟨i0, hi0, hz0⟩ := Option.map_eq_some_iff.1 info42_
  simp only [Prod.mk.injEq] at hz0
  obtain ⟨hz0, hzs, hzb⟩ := hz0
  have hcell : ∀ j u, vs[j]? = some u → w.cell? ((⟨vb, 0, none⟩ : Addr).add j) = some u := fun j v hj => by
    rw [add0_]
    rw [← hvs, List.getElem?_take] at hj
    split at hj
    · have h2 := cell_of_row w vb (0 + j) vcur 42 (0, 0) hv
      rw [h2, ← Array.getElem?_toList, Nat.zero_add]; exact hj
    · cases hj
  have hzc : (Value.agg #[.int .i64 0, .int .u32 0, .bool false, .slice none 0 0]).cells.size = 4 := by kernel_rfl
  have hc : n ≤ c := by
    rcases ho.2 with ⟨he, h0⟩ | ⟨g, cap, cur, he, _, _, hnc, _⟩
    · omega
    · simp only [Value.slice.injEq] at he
      omega
  have hO := Aside0.mk ho
  clear ho
  have hmax : n + 1 ≤ maxLen := by unfold maxLen; omega
  cases A with
  | none =>
    obtain ⟨rfl, rfl⟩ : n = 0 ∧ c = 0 := by
      rcases hO.out.2 with ⟨he, h0⟩ | ⟨g, cap, cur, he, _, _, hnc, _⟩
      · simp only [Value.slice.injEq] at he
        exact ⟨h0, he.2.2⟩
      · simp at he
    go_enter Try.func32, Try.ntmps32
    go_wp2_with (first | (at_builtin; refine wpList_append_own _ rfl _ _ 38 rfl B 42 i0 _ 4 48 Try.underlying38 hi0 hz0 hzs hzb hzc (by decide) _ 0 inner rfl hO.out ⟨vb, 0, none⟩ 1 vc vs rfl (by rw [hvl]) hcell h1v hmax (by omega) hB ?_; intro v' w' hO' hG' _; have HO' := Aside0.mk hO'; clear hO'))
    go_ret
    exact ⟨_, rfl, HO'.out, hG'⟩
  | some ad =>
    go_enter Try.func32, Try.ntmps32
    go_wp2_with (first | (at_builtin; refine wpList_append_own _ rfl _ _ 38 rfl B 42 i0 _ 4 48 Try.underlying38 hi0 hz0 hzs hzb hzc (by decide) _ n inner rfl hO.out ⟨vb, 0, none⟩ 1 vc vs rfl (by rw [hvl]) hcell h1v hmax (by omega) hB ?_; intro v' w' hO' hG' _; have HO' := Aside0.mk hO'; clear hO'))
    all_goals go_ret
    all_goals exact ⟨_, rfl, HO'.out, hG'⟩
theorem insert_w (B : Nat) (v : Value) (n i vb vc : Nat) (inner vs : List Value) (vcur : Array Value) (w : World) (hB : B ≤ w.heap.size) (hn : n ≤ 1000000) (hi : i ≤ n) (ho : w.ownsRow B 42 4 v n inner) (h1 : ∀ u ∈ inner, u.oneCell' = true)
    (hv : w.heap[vb]? = some (.cells vcur 42 (0, 0))) (hvs : vcur.toList.take 4 = vs) (hvl : vs.length = 4) (h1v : ∀ v ∈ vs, v.oneCell' = true) (hne : v.ownBlock ≠ some vb) :
    Calls Try.prog 32 #[v, .int .i64 i, .slice (some ⟨vb, 0, none⟩) 1 vc] w fun e w' => ∃ v', e = .returned v' ∧ w'.ownsRow B 42 4 v' (n + 1) (inner.take (i * 4) ++ vs ++ inner.drop (i * 4)) ∧ w.grownBy w' v.ownBlock := by
  obtain ⟨A, c, rfl⟩ : ∃ A c, v = .slice A n c := by
    rcases ho.2 with ⟨rfl, rfl⟩ | ⟨g, cap, cur, rfl, _⟩
    · exact ⟨_, _, rfl⟩
    · exact ⟨_, _, rfl⟩
  by_cases he : i = n
  · subst he
    rw [List.take_of_length_le (by rw [ho.1]; exact Nat.le_refl _), List.drop_of_length_le (by rw [ho.1]; exact Nat.le_refl _), List.append_nil]
    exact insert_end_w B A i c vb vc inner vs vcur w hB hn ho hv hvs hvl h1v
  rcases ho.2 with ⟨hz, h0⟩ | ⟨g, cap, cur, hz, hbg, hg, hnc, hcm, hcs, htake⟩
  · omega
  simp only [Value.slice.injEq, true_and] at hz
  obtain ⟨rfl, rfl⟩ := hz
  have hit : cur.toList.take (i * 4) = inner.take (i * 4) := by
    rw [← htake, List.take_take]
    congr 1; omega
  have hlen : (inner.take (i * 4) ++ vs ++ inner.drop (i * 4)).length = (n + 1) * 4 := by
    simp only [List.length_append, List.length_take, List.length_drop, ho.1, hvl]; omega
  have h1c : ∀ u ∈ inner.drop (i * 4), u.oneCell' = true := fun u hu => h1 u (List.mem_of_mem_drop hu)
  by_cases hr : n + 1 ≤ c
  · refine (insert_shift_w g n c i vb vc cur (inner.drop (i * 4)) vs vcur w (by omega) hr (by unfold maxLen at hcm; omega) (fun e => hne (by simp [Value.ownBlock, e])) hg hcs (by rw [htake]) hv hvs hvl h1c h1v).mono ?_
    rintro e w' ⟨rfl, hgr, cur2, hb2, hs2, ht2⟩
    exact ⟨_, rfl, ⟨hlen, .inr ⟨g, c, cur2, rfl, hbg, hb2, hr, hcm, by rw [hs2, hcs], by rw [ht2, hit]⟩⟩, hgr⟩
  · refine (insert_grow_w g n c i vb vc cur (inner.drop (i * 4)) vs vcur w (by omega) hr hnc hn hg hcs (by rw [htake]) hv hvs hvl h1c h1v).mono ?_
    rintro e w' ⟨G, hG1, hG2, rfl, hgr, cur2, hb2, hs2, ht2⟩
    exact ⟨_, rfl, ⟨hlen, .inr ⟨w.heap.size, G, cur2, rfl, hB, hb2, hG1, hG2, hs2, by rw [ht2, hit]⟩⟩, ⟨hgr.os, hgr.tape, hgr.output, hgr.size, fun k hk _ => hgr.block k hk (by simp)⟩⟩
end Go.Proofs.Ytjncmiclpaodhaa
/-
  slices.Clone of a row of sockets; slices.Delete of one of a row of the call's own.
-/
namespace Go.Proofs.Ytjncmiclpaodhaa
open Go.RowKit Go.Lib Go.Proofs.YtjncmiclpaodhaaW.PrintWords Go.Proofs.Ytjncmiclpaodhaa.PHo
set_option linter.unusedVariables false
set_option linter.unusedSimpArgs false
set_option maxRecDepth 100000 in
theorem eqnilA_ {ops : Array Oper} {Q : Exit → Act → World → Prop} {rest : List Oper} {o : Oper} {a : Act} {w : World} (hg : o.guard = none) (x y : Operand) (hop : o.op = .binOp .eql 38 x y 38) (A : Option Addr) (n c : Nat) (hx : a.eval x = .slice A n c) (hy : a.eval y = .slice none 0 0)
    (h : wpList Try.prog ops Q rest (a.put o.dst (.bool A.isNone)) w) : wpList Try.prog ops Q (o :: rest) a w := by
  have hrun : (binOp .eql 38 (.slice A n c) (.slice none 0 0)).run Try.prog w = .ok (.bool A.isNone) w := by
    cases A
    · kernel_rfl
    · kernel_rfl
  have hgu : (eqGuard .eql 38 x y (.slice A n c) (.slice none 0 0)).run Try.prog w = .ok () w := by
    cases A
    · kernel_rfl
    · kernel_rfl
  refine wpList_plain hg fun K hK => ?_
  unfold Oper.wp
  simp only [execOp, hop, hx, hy, Sem.run_bind, hgu, hrun, Result.andThen]
  exact hK _ _ h
theorem R_inner {R : S42 → List Value → Prop} (hR1 : ∀ p c, R p c → ∀ u ∈ c, u.oneCell' = true) {l : List S42} {ad : Addr} {w : World} (hr : ReadsRow R 4 w (some ad) l.length l) : ∃ inner, Reps R 4 l inner ∧ inner.length = l.length * 4 ∧ (∀ u ∈ inner, u.oneCell' = true) ∧ ∀ j u, inner[j]? = some u → w.cell? (ad.add j) = some u := by
  obtain ⟨inner, h1, h2⟩ := ReadsRow.inner_ hr
  exact ⟨inner, h1, h1.1, Kd.reps_one h1 (by decide) hR1, h2⟩
set_option maxHeartbeats 4000000 in
set_option maxRecDepth 100000 in
theorem clone_w {R : S42 → List Value → Prop} (hR1 : ∀ p c, R p c → ∀ u ∈ c, u.oneCell' = true) (A : Option Addr) (c : Nat) (l : List S42) (w : World) (hn : l.length ≤ 1000000) (hr : ReadsRow R 4 w A l.length l) :
    Calls Try.prog 31 #[.slice A l.length c] w fun e w' => ∃ v, e = .returned v ∧ ∃ inner, w'.ownsRow w.heap.size 42 4 v l.length inner ∧ Reps R 4 l inner ∧ (∀ u ∈ inner, u.oneCell' = true) ∧ w.grownBy w' none := by
  cases A with
  | none =>
    have h0 : l.length = 0 := by
      by_cases hp : 0 < l.length
      · obtain ⟨ad, he, _⟩ := hr.2.2 hp
        cases he
      · omega
    obtain rfl := List.eq_nil_of_length_eq_zero h0
    go_enter Try.func31, Try.ntmps31
    go_wp2_with (first | ((with_reducible refine gate_dst (N := 4) rfl ?_); refine eqnilA_ rfl _ _ rfl _ _ _ rfl rfl ?_))
    go_ret
    exact ⟨_, rfl, [], World.ownsRow_nil _ _ _ _, Reps.none _ _, (fun u hu => by simp at hu), ⟨rfl, rfl, rfl, Nat.le_refl _, fun _ _ _ => rfl⟩⟩
  | some ad =>
    obtain ⟨inner, hR, hl, h1, hcell⟩ := R_inner hR1 hr
    have HR := Aside0.mk hR
    clear hR hr hR1
    obtain ⟨i0, hi0, hz0⟩ := Option.map_eq_some_iff.1 info42_
    simp only [Prod.mk.injEq] at hz0
    obtain ⟨hz0, hzs, hzb⟩ := hz0
    have hzc : (Value.agg #[.int .i64 0, .int .u32 0, .bool false, .slice none 0 0]).cells.size = 4 := by kernel_rfl
    have hmax : 0 + l.length ≤ maxLen := by unfold maxLen; omega
    have hO := Aside0.mk (World.ownsRow_lit (base := w.heap.size) (e := 42) (size := 4) w #[] 0 (Nat.le_refl _) (by decide) rfl)
    have hcell2 : ∀ j u, inner[j]? = some u → (w.alloc (.cells #[] 42)).cell? (ad.add j) = some u := fun j u hu => (World.grownBy_alloc w (.cells #[] 42) none).cell (hcell j u hu) (by simp)
    have hAl := Aside0.mk (World.grownBy_alloc w (.cells #[] 42) none)
    go_enter Try.func31, Try.ntmps31
    go_wp2_with (first | ((with_reducible refine gate_dst (N := 4) rfl ?_); refine eqnilA_ rfl _ _ rfl _ _ _ rfl rfl ?_) | ((with_reducible refine gate_builtin (b := .append) (xs := #[.tmp 5, .tmp 6]) rfl ?_); at_builtin; refine wpList_append_own _ rfl _ _ 38 rfl w.heap.size 42 i0 _ 4 48 Try.underlying38 hi0 hz0 hzs hzb hzc (by decide) _ 0 [] rfl hO.out ad l.length c inner rfl hl hcell2 h1 hmax (by omega) (by simp) ?_; intro v' w' hO' hG' _; have HO' := Aside0.mk hO'; clear hO'))
    all_goals go_ret
    all_goals
      have h2 := HO'.out
      rw [Nat.zero_add, List.nil_append] at h2
      exact ⟨_, rfl, inner, h2, HR.out, h1, grown_none (w := w) (w' := w') (b := w.heap.size) ⟨hG'.os, hG'.tape, hG'.output, Nat.le_trans hAl.out.size hG'.size, fun k hk hne => (hG'.block k (Nat.lt_of_lt_of_le hk hAl.out.size) hne).trans (hAl.out.block k hk (by simp))⟩ (Nat.le_refl _) none⟩
end Go.Proofs.Ytjncmiclpaodhaa
/-
  slices.Delete of one of a row of the call's own.
-/
namespace Go.Proofs.Ytjncmiclpaodhaa
open Go.RowKit Go.Lib Go.Proofs.YtjncmiclpaodhaaW.PrintWords Go.Proofs.Ytjncmiclpaodhaa.PHo
set_option linter.unusedVariables false
set_option linter.unusedSimpArgs false
theorem step_append_runI {P : Program} {ops : Array Oper} {o : Oper} {a : Act} {w : World} {K : Act → World → Prop} {Q : Exit → Act → World → Prop} {E : Prop}
    (hg : o.guard = none) (d x : Operand) (dT sT : TypeId) (hop : o.op = Op.call { callee := Callee.builtin Builtin.append, args := #[d, x], argTypes := #[dT, sT] })
    (v u : Value) (hd : a.eval d = v) (hx : a.eval x = u) {v' : Value} {w' : World} (hr : (Builtin.append_ #[dT, sT] o.type #[v, u]).run P w = .ok v' w') (hK : K (a.put o.dst v') w') :
    if Region.wanted o (yielded ops a.tmps) = true then Oper.wp P o a w K Q else E := by
  have hw : Region.wanted o (yielded ops a.tmps) = true := by simp [Region.wanted, hg]
  rw [if_pos hw]
  exact wp_append_run w d x dT sT hop v u hd hx v' w' hr hK
theorem wpList_clear_runI {P : Program} (w : World) {ops : Array Oper} {rest : List Oper} {o : Oper} {a : Act} {Q : Exit → Act → World → Prop} (hgd : o.guard = none) (x : Operand) (t : TypeId)
    (ho : o.op = .call { callee := .builtin .clear, args := #[x], argTypes := #[t] }) (v : Value) (hx : a.eval x = v) {v' : Value} {w' : World}
    (hr : (Builtin.clear_ #[t] o.type #[v]).run P w = .ok v' w') (h : wpList P ops Q rest (a.put o.dst v') w') : wpList P ops Q (o :: rest) a w :=
  wpList_plain hgd fun _ hK => by
    unfold Oper.wp execOp
    simp only [ho, resolve, invoke, builtin, Sem.run_bind, Sem.run_pure, Result.andThen_ok, List.map_toArray, List.map_cons, List.map_nil, hx, hr]
    exact hK _ _ h
def z42c : List Value := [.int .i64 0, .int .u32 0, .bool false, .slice none 0 0]
set_option maxRecDepth 100000 in
theorem run_clear1 (w : World) (ty : TypeId) (g o c : Nat) (cur : Array Value) (hg : w.heap[g]? = some (.cells cur 42 (0, 0))) (hfit : o + 4 ≤ cur.size) :
    (Builtin.clear_ #[38] ty #[.slice (some ⟨g, o, none⟩) 1 c]).run Try.prog w = .ok (.tuple #[]) (w.setRow g (cur.toList.take o ++ z42c ++ cur.toList.drop (o + 4)).toArray) := by
  have hst := run_storeCells_at Try.prog g o 42 z42c 0 cur w hg (by simpa [z42c] using hfit) (by decide)
  obtain ⟨i0, hi0, hz0⟩ := Option.map_eq_some_iff.1 info42_
  simp only [Prod.mk.injEq] at hz0
  obtain ⟨hz0, hzs, hzb⟩ := hz0
  have hz : (Builtin.zeroCells (Value.agg #[.int .i64 0, .int .u32 0, .bool false, .slice none 0 0]).cells 1).toList = z42c := by kernel_rfl
  have hu := Try.underlying38
  simp only [Nat.add_zero, Nat.add_assoc] at hst
  simp only [Builtin.clear_, Sem.run_bind, run_underlying hu, zeroValue, typeInfo]
  simp [hi0, hz0, run_underlying hu]
  rw [hz, hst]
  simp [Result.andThen, z42c]
set_option maxHeartbeats 4000000 in
set_option maxRecDepth 100000 in
theorem delete_w (B : Nat) (v : Value) (n i : Nat) (inner : List Value) (w : World) (hi : i < n) (ho : w.ownsRow B 42 4 v n inner) (h1 : ∀ u ∈ inner, u.oneCell' = true) :
    Calls Try.prog 37 #[v, .int .i64 i, .int .i64 ((i : Int) + 1)] w fun e w' => ∃ v', e = .returned v' ∧ w'.ownsRow B 42 4 v' (n - 1) (inner.take (i * 4) ++ inner.drop ((i + 1) * 4)) ∧ w.grownBy w' v.ownBlock := by
  rcases ho.2 with ⟨hz, h0⟩ | ⟨g, c, cur, rfl, hbg, hg, hnc, hcm, hcs, htake⟩
  · omega
  have hc63 : c ≤ 9223372036854775807 := by unfold maxLen at hcm; omega
  have hcurl : cur.toList.length = c * 4 := by rw [Array.length_toList, hcs]
  have hil : inner.length = n * 4 := ho.1
  have hO := Aside0.mk ho
  clear ho
  obtain ⟨i0, hi0, hz0⟩ := Option.map_eq_some_iff.1 info42_
  simp only [Prod.mk.injEq] at hz0
  obtain ⟨hz0, hzs, hzb⟩ := hz0
  obtain ⟨cur1, hcur1⟩ : ∃ cur1 : Array Value, cur1 = (cur.toList.take (i * 4) ++ inner.drop ((i + 1) * 4) ++ cur.toList.drop (i * 4 + (inner.drop ((i + 1) * 4)).length)).toArray := ⟨_, rfl⟩
  obtain ⟨W1, hW1⟩ : ∃ W1, W1 = w.drew.setRow g cur1 := ⟨_, rfl⟩
  have hdl : (inner.drop ((i + 1) * 4)).length = (n - (i + 1)) * 4 := by rw [List.length_drop, hil]; omega
  have hap : ∀ ty (OFF : Nat), (c = i + 1 ∨ OFF = (i + 1) * 4) → (Builtin.append_ #[38, 38] ty #[.slice (some ⟨g, 0, none⟩) i c, .slice (some ⟨g, OFF, none⟩) (n - (i + 1)) (c - (i + 1))]).run Try.prog w.drew = .ok (.slice (some ⟨g, 0, none⟩) (n - 1) c) W1 := fun ty OFF hoff => by
    have h := run_append_room (P := Try.prog) w.drew 38 ty 42 i0 Try.underlying38 hi0 g i c cur hg ⟨g, OFF, none⟩ (n - (i + 1)) (c - (i + 1)) (inner.drop ((i + 1) * 4)) (by rw [hzs]; exact hdl)
      (fun j u hj => by
        have hjl : j < (n - (i + 1)) * 4 := by rw [← hdl]; exact (List.getElem?_eq_some_iff.1 hj).1
        rcases hoff with hoff | rfl
        · omega
        · rw [add0_]
          rw [List.getElem?_drop, ← htake, List.getElem?_take, if_pos (by omega)] at hj
          have h2 := cell_of_row w.drew g ((i + 1) * 4 + j) cur 42 (0, 0) hg
          rw [h2, ← Array.getElem?_toList]; exact hj)
      (fun u hu => h1 u (List.mem_of_mem_drop hu)) (by omega) (by rw [hzs, hdl, hcs]; omega)
    rw [hzs] at h
    rw [h, hW1, hcur1, show i + (n - (i + 1)) = n - 1 by omega]
  have hcl1 : cur1.toList.length = c * 4 := by rw [hcur1, List.toList_toArray]; simp only [List.length_append, List.length_take, hdl, List.length_drop, hcurl, hil]; omega
  have hct1 : cur1.toList.take ((n - 1) * 4) = inner.take (i * 4) ++ inner.drop ((i + 1) * 4) := by
    have e : cur.toList.take (i * 4) = inner.take (i * 4) := by
      rw [← htake, List.take_take]
      congr 1; omega
    rw [hcur1, List.toList_toArray, e]
    exact List.take_left' (by simp only [List.length_append, List.length_take, hdl, hil]; omega)
  have hg1 : w.grownBy W1 (some g) := by rw [hW1]; exact ⟨rfl, rfl, rfl, (setRow_grown w.drew g cur1).size, (setRow_grown w.drew g cur1).block⟩
  have hb1 : W1.heap[g]? = some (.cells cur1 42 (0, 0)) := by rw [hW1]; exact setRow_heap w.drew g cur _ 42 _ hg
  obtain ⟨cur2, hcur2⟩ : ∃ cur2 : Array Value, cur2 = (cur1.toList.take ((n - 1) * 4) ++ z42c ++ cur1.toList.drop ((n - 1) * 4 + 4)).toArray := ⟨_, rfl⟩
  have hcl2 : cur2.size = c * 4 := by rw [← Array.length_toList, hcur2, List.toList_toArray]; simp only [List.length_append, List.length_take, List.length_drop, hcl1, z42c, List.length_cons, List.length_nil]; omega
  have hct2 : cur2.toList.take ((n - 1) * 4) = inner.take (i * 4) ++ inner.drop ((i + 1) * 4) := by
    rw [hcur2, List.toList_toArray, hct1, List.append_assoc]
    exact List.take_left' (by simp only [List.length_append, List.length_take, hdl, hil]; omega)
  have hclr : ∀ ty dc, (Builtin.clear_ #[38] ty #[.slice (some ⟨g, (n - 1) * 4, none⟩) 1 dc]).run Try.prog W1 = .ok (.tuple #[]) (W1.setRow g cur2) := fun ty dc => by
    rw [run_clear1 W1 ty g ((n - 1) * 4) dc cur1 hb1 (by rw [← Array.length_toList, hcl1]; omega), hcur2]
  have hg2 : w.grownBy (W1.setRow g cur2) (some g) := ⟨hg1.os, hg1.tape, hg1.output, Nat.le_trans hg1.size (setRow_grown W1 g cur2).size, fun k hk hne => ((setRow_grown W1 g cur2).block k (Nat.lt_of_lt_of_le hk hg1.size) hne).trans (hg1.block k hk hne)⟩
  have hb2 : (W1.setRow g cur2).heap[g]? = some (.cells cur2 42 (0, 0)) := setRow_heap W1 g cur1 cur2 42 _ hb1
  obtain ⟨W2, hW2⟩ : ∃ W2, W2 = W1.setRow g cur2 := ⟨_, rfl⟩
  rw [← hW2] at hg2 hb2 hclr
  have HCT := Aside0.mk hct2
  clear hcur1 hcur2 hW1 hW2 hct1 hct2 htake
  have hz2 : ((i : Int) == (i : Int) + 1) = false := by
    rw [beq_eq_false_iff_ne]; omega
  have hx1 : (0 : Int) ≤ (i : Int) + 1 := by omega
  have hx2 : ((i : Int) + 1).toNat = i + 1 := by omega
  have hx3 : (i : Int) + 1 ≤ (n : Int) := by omega
  have hx4 : i ≤ n := by omega
  have hx5 : i ≤ c := by omega
  have hx6 : ¬ (c = n - 1) := by omega
  have hx7 : n - 1 ≤ n := by omega
  have hx8 : n - (n - 1) = 1 := by omega
  have hfin : ∃ v', (Ending.returned (.slice (some ⟨g, 0, none⟩) (n - 1) c) : Ending) = .returned v' ∧ W2.ownsRow B 42 4 v' (n - 1) (inner.take (i * 4) ++ inner.drop ((i + 1) * 4)) ∧ w.grownBy W2 (Value.slice (some ⟨g, 0, none⟩) n c).ownBlock :=
    ⟨_, rfl, ⟨by simp only [List.length_append, List.length_take, hdl, hil]; omega, .inr ⟨g, c, cur2, rfl, hbg, hb2, by omega, hcm, hcl2, HCT.out⟩⟩, hg2⟩
  have HF := Aside0.mk hfin
  clear hfin
  by_cases hce : c = i + 1
  · have hap0 : ∀ ty, (Builtin.append_ #[38, 38] ty #[.slice (some ⟨g, 0, none⟩) i c, .slice (some ⟨g, 0, none⟩) 0 0]).run Try.prog w.drew = .ok (.slice (some ⟨g, 0, none⟩) (n - 1) c) W1 := fun ty => by
      have h := hap ty 0 (.inl hce)
      rw [show n - (i + 1) = 0 by omega, show c - (i + 1) = 0 by omega] at h
      exact h
    have hn0 : n = i + 1 := by omega
    clear hap hx1 hx2 hx3 hx4 hx5 hx6 hx7 hx8 hdl hcl1 hcl2 hil hcs hcurl hnc
    subst hn0
    subst hce
    have hx1 : (0 : Int) ≤ (i : Int) + 1 := by omega
    have hx2 : ((i : Int) + 1).toNat = i + 1 := by omega
    have hx9 : (i : Int) ≤ (i : Int) + 1 := by omega
    have h := HF.out
    simp only [Nat.add_sub_cancel] at hclr hap0 h
    have HF2 := Aside0.mk h
    clear h HF HCT
    simp only [Nat.add_sub_cancel]
    go_enter Try.func37, Try.ntmps37
    go_wp2
    go_region_law (refine step_append_runI rfl _ _ 38 38 rfl _ _ (by simp [Act.eval, Act.put]) (by simp [Act.eval, Act.put]) (hap0 _) ?_)
    go_wp2_with (at_builtin; refine wpList_clear_runI _ rfl _ 38 rfl _ rfl (hclr _ _) ?_)
    all_goals go_ret
    all_goals exact HF2.out
  · go_enter Try.func37, Try.ntmps37
    go_wp2
    go_region_law (refine step_append_runI rfl _ _ 38 38 rfl _ _ (by simp [Act.eval, Act.put]) (by simp [Act.eval, Act.put]) (hap _ _ (.inr rfl)) ?_)
    go_wp2_with (at_builtin; refine wpList_clear_runI _ rfl _ 38 rfl _ rfl (hclr _ _) ?_)
    all_goals go_ret
    all_goals exact HF.out
end Go.Proofs.Ytjncmiclpaodhaa
/-
  slices.BinarySearchFunc over sockets by their ids; host.place.
-/
namespace Go.Proofs.Ytjncmiclpaodhaa
set_option maxHeartbeats 8000000
set_option maxRecDepth 100000
open Go.RowKit Go.Proofs.YtjncmiclpaodhaaW.PrintWords Go.Proofs.Ytjncmiclpaodhaa.PHo
set_option linter.unusedVariables false
set_option linter.unusedSimpArgs false
theorem nan_w (x : Int) (w : World) : Calls Try.prog 66 #[.int .i64 x] w fun e w' => e = .returned (.bool false) ∧ w' = w := by
  go_enter Try.func66, Try.ntmps66
  go_wp2
  go_ret
  exact ⟨by simp, rfl⟩
def cmp3 (x y : Int) : Int := if x < y then -1 else if y < x then 1 else 0
theorem cmp3_eq (x y : Int) : (cmp3 x y == 0) = decide (x = y) := by
  unfold cmp3
  by_cases h1 : x < y
  · rw [if_pos h1, decide_eq_false (by omega)]; rfl
  · by_cases h2 : y < x
    · rw [if_neg h1, if_pos h2, decide_eq_false (by omega)]; rfl
    · rw [if_neg h1, if_neg h2, decide_eq_true (by omega)]; rfl
theorem compare_w (x y : Int) (w : World) : Calls Try.prog 52 #[.int .i64 x, .int .i64 y] w fun e w' => e = .returned (.int .i64 (cmp3 x y)) ∧ w' = w := by
  by_cases h1 : x < y
  · have c1 : decide (x < y) = true := decide_eq_true h1
    go_enter Try.func52, Try.ntmps52
    go_wp2_with (first | (go_at_call 66; refine (nan_w _ _).mono ?_; rintro e w1 ⟨rfl, rfl⟩))
    go_ret
    first | exact ⟨rfl, rfl⟩ | (unfold cmp3; rw [if_pos h1]; exact ⟨rfl, rfl⟩)
  · have c1 : decide (x < y) = false := decide_eq_false h1
    by_cases h2 : y < x
    · have c2 : decide (y < x) = true := decide_eq_true h2
      go_enter Try.func52, Try.ntmps52
      go_wp2_with (first | (go_at_call 66; refine (nan_w _ _).mono ?_; rintro e w1 ⟨rfl, rfl⟩))
      go_ret
      first | exact ⟨rfl, rfl⟩ | (unfold cmp3; rw [if_neg (by omega), if_pos h2]; exact ⟨rfl, rfl⟩)
    · have c2 : decide (y < x) = false := decide_eq_false h2
      go_enter Try.func52, Try.ntmps52
      go_wp2_with (first | (go_at_call 66; refine (nan_w _ _).mono ?_; rintro e w1 ⟨rfl, rfl⟩))
      go_ret
      first | exact ⟨rfl, rfl⟩ | (unfold cmp3; rw [if_neg (by omega), if_neg (by omega)]; exact ⟨rfl, rfl⟩)
theorem place1_w (a b : Int) (e : Bool) (A : Option Addr) (n c : Nat) (id : Int) (w : World) : Calls Try.prog 51 #[.agg #[.int .i64 a, .int .u32 b, .bool e, .slice A n c], .int .i64 id] w fun x w' => x = .returned (.int .i64 (cmp3 a id)) ∧ Below w.heap.size w w' := by
  have hu42 := Try.underlying42
  have HB := Aside0.mk (Below.refl w.heap.size w)
  go_enter Try.func51, Try.ntmps51
  go_wp2_with (first | ((with_reducible refine gate_dst (N := 2) rfl ?_); (try (refine gate_guard (by rfl) ?_; dsimp only)); refine bxn (cs := #[.int .i64 a, .int .u32 b, .bool e, .slice A n c]) (t := 42) ?_; intro gs hg w1_ hbox hB; have HBo := Aside0.mk HB.out; replace HB := mvH HB hB; have BK_gs := Aside0.mk hbox; have GE_gs := Aside0.mk (show w.heap.size ≤ gs by rw [hg]; exact HBo.out.size); clear hg hbox hB; obtain ⟨hc_gs_0, hc_gs_1, hc_gs_2, hc_gs_3, hf_gs_0, hf_gs_1, hf_gs_2, hf_gs_3⟩ := cf4 BK_gs.out; clear HBo) | (go_at_call 52; refine (compare_w a id _).mono ?_; rintro e w7_ ⟨rfl, rfl⟩))
  go_ret
  exact ⟨rfl, HB.out⟩
theorem search_w {l : List S42} {id : Int} {i : Nat} (hi : i ≤ l.length) (hlo : ∀ k : Nat, k < i → (rd_T42 l k).f0 < id) (hhi : ∀ k : Nat, i ≤ k → k < l.length → id ≤ (rd_T42 l k).f0) (hn : l.length ≤ 1000000) (A : Option Addr) (c : Nat) (w : World) (hr : Kd.C k42 w A l.length l) (hc : l.length ≤ c) :
    Calls Try.prog 50 #[.slice A l.length c, .int .i64 id, .func (.func 51) #[] #[]] w fun e w' => e = .returned (.tuple #[.int .i64 i, .bool (decide (i < l.length) && decide ((rd_T42 l i).f0 = id))]) ∧ Below w.heap.size w w' := by
  have HB := Aside0.mk (Below.refl w.heap.size w)
  have HC := Aside0.mk hr
  have HK := Aside0.mk hc
  have XI := Aside0.mk hi
  have XLO := Aside0.mk hlo
  have XHI := Aside0.mk hhi
  have XN := Aside0.mk hn
  clear hr hc hi hlo hhi hn
  go_enter Try.func50, Try.ntmps50
  go_wp2
  go_loopg [9, 10] l.length (fun gk v9 v10 w' => ∃ p q : Nat, v9 = .int .i64 (p : Int) ∧ v10 = .int .i64 (q : Int) ∧ Aside0 (p ≤ i ∧ i ≤ q ∧ q ≤ l.length ∧ gk = q - p) ∧ Aside0 (Below w.heap.size w w'))
  case atStart => exact ⟨0, l.length, rfl, rfl, ⟨Nat.zero_le _, XI.out, Nat.le_refl _, rfl⟩, HB⟩
  case round =>
    clear HB
    obtain ⟨p, q, rfl, rfl, HI, HB⟩ := hrel
    by_cases hlt : p < q
    · have c17 : decide ((p : Int) < (q : Int)) = true := decide_eq_true (by omega)
      obtain ⟨i1, i2, i3, i4⟩ := HI.out
      have hl := XN.out
      obtain ⟨m, hm⟩ : ∃ m, m = (p + q) / 2 := ⟨_, rfl⟩
      have hmid : wrap64 (IntKind.u64.wrap (wrap64 ((p : Int) + (q : Int))) / 2) = (m : Int) := by
        rw [show wrap64 ((p : Int) + (q : Int)) = (p : Int) + (q : Int) by unfold wrap64; omega]
        rw [show IntKind.u64.wrap ((p : Int) + (q : Int)) = (p : Int) + (q : Int) by simp only [IntKind.wrap, IntKind.bits, IntKind.signed, Bool.false_and, Bool.false_eq_true, if_false]; omega]
        unfold wrap64
        omega
      have HM := Aside0.mk (show p ≤ m ∧ m < q by omega)
      have p1 : (0 : Int) ≤ (m : Int) := by omega
      have p2 : (m : Int) < (l.length : Int) := by omega
      obtain ⟨ad, A3, c3, he, hx0, hx1, hx2, hx3, _, _⟩ := at_T42 (Kd.C_below HC.out HB.out) (m : Int) p1 p2
      subst he
      rw [Int.toNat_natCast] at hx0 hx1 hx2 hx3
      obtain ⟨x, hx⟩ : ∃ x, x = rd_T42 l (m : Int) := ⟨_, rfl⟩
      rw [← hx] at hx0 hx1 hx2 hx3
      have HX := Aside0.mk hx
      clear hx hm i1 i2 i3 i4
      replace p1 := eq_true p1
      replace p2 := eq_true p2
      by_cases hcm : x.f0 < id
      · have c31 : decide (cmp3 x.f0 id < 0) = true := by unfold cmp3; rw [if_pos hcm]; decide
        have HCM := Aside0.mk hcm
        clear hcm
        go_wp2_with (first | (go_at_call 51; refine (place1_w x.f0 x.f1 x.f2.f0 A3 x.f2.f1.length c3 id _).mono ?_; rintro e wx ⟨rfl, hB⟩; have nB := Aside0.mk (HB.out.trans (hB.mono HB.out.size)); clear HB hx0 hx1 hx2 hx3 hB; have HB := nB; clear nB))
        go_roundg (q - (m + 1))
        case measure => have := HI.out; have := HM.out; omega
        case rel =>
          have hq := HI.out
          have hm := HM.out
          have him : m + 1 ≤ i := by
            by_cases hh : i ≤ m
            · have h1 := XHI.out m hh (by omega)
              have h2 := HCM.out
              rw [HX.out] at h2
              omega
            · omega
          refine ⟨m + 1, q, ?_, rfl, ⟨him, hq.2.1, hq.2.2.1, rfl⟩, HB⟩
          show Value.int .i64 (wrap64 ((m : Int) + 1)) = _
          have h1 := XN.out
          have h2 : wrap64 ((m : Int) + 1) = ((m + 1 : Nat) : Int) := by unfold wrap64; omega
          rw [h2]
      · have c31 : decide (cmp3 x.f0 id < 0) = false := by unfold cmp3; rw [if_neg hcm]; split <;> decide
        have HCM := Aside0.mk hcm
        clear hcm
        go_wp2_with (first | (go_at_call 51; refine (place1_w x.f0 x.f1 x.f2.f0 A3 x.f2.f1.length c3 id _).mono ?_; rintro e wx ⟨rfl, hB⟩; have nB := Aside0.mk (HB.out.trans (hB.mono HB.out.size)); clear HB hx0 hx1 hx2 hx3 hB; have HB := nB; clear nB))
        go_roundg (m - p)
        case measure => have := HI.out; have := HM.out; omega
        case rel =>
          have hq := HI.out
          have hm := HM.out
          have him : i ≤ m := by
            by_cases hh : i ≤ m
            · exact hh
            · have h1 := XLO.out m (by omega)
              have h2 := HCM.out
              rw [HX.out] at h2
              omega
          exact ⟨p, m, rfl, rfl, ⟨hq.1, him, by omega, rfl⟩, HB⟩
    · have c17 : decide ((p : Int) < (q : Int)) = false := decide_eq_false (by omega)
      have hl := XN.out
      have hie : p = i ∧ q = i := by have := HI.out; omega
      obtain ⟨rfl, rfl⟩ := hie
      clear hlt
      by_cases hin : q < l.length
      · have c38 : decide ((q : Int) < (l.length : Int)) = true := decide_eq_true (by omega)
        have p1 : (0 : Int) ≤ (q : Int) := by omega
        have p2 : (q : Int) < (l.length : Int) := by omega
        obtain ⟨ad, A3, c3, he, hx0, hx1, hx2, hx3, _, _⟩ := at_T42 (Kd.C_below HC.out HB.out) (q : Int) p1 p2
        subst he
        rw [Int.toNat_natCast] at hx0 hx1 hx2 hx3
        obtain ⟨x, hx⟩ : ∃ x, x = rd_T42 l (q : Int) := ⟨_, rfl⟩
        rw [← hx] at hx0 hx1 hx2 hx3
        have HX := Aside0.mk hx
        have HIN := Aside0.mk hin
        clear hx hin
        replace p1 := eq_true p1
        replace p2 := eq_true p2
        have c47 : (cmp3 x.f0 id == 0) = decide (x.f0 = id) := cmp3_eq _ _
        go_wp2_with (first | (go_at_call 51; refine (place1_w x.f0 x.f1 x.f2.f0 A3 x.f2.f1.length c3 id _).mono ?_; rintro e wx ⟨rfl, hB⟩; have nB := Aside0.mk (HB.out.trans (hB.mono HB.out.size)); clear HB hx0 hx1 hx2 hx3 hB; have HB := nB; clear nB))
        go_ret2
        rw [decide_eq_true HIN.out, Bool.true_and, ← HX.out]
        exact ⟨rfl, HB.out⟩
      · have c38 : decide ((q : Int) < (l.length : Int)) = false := decide_eq_false (by omega)
        have HIN := Aside0.mk hin
        go_wp2
        go_ret2
        rw [decide_eq_false HIN.out, Bool.false_and]
        exact ⟨rfl, HB.out⟩
theorem place_w {l : List S42} {id : Int} {i : Nat} (hi : i ≤ l.length) (hlo : ∀ k : Nat, k < i → (rd_T42 l k).f0 < id) (hhi : ∀ k : Nat, i ≤ k → k < l.length → id ≤ (rd_T42 l k).f0) (hn : l.length ≤ 1000000) (A_l : Option Addr) (c_l : Nat) (w : World) (hr : Kd.C k42 w A_l l.length l) (hc : l.length ≤ c_l) :
    Calls Try.prog 29 #[.agg #[.slice A_l l.length c_l], .int .i64 id] w fun e w' => e = .returned (.tuple #[.int .i64 i, .bool (decide (i < l.length) && decide ((rd_T42 l i).f0 = id))]) ∧ Below w.heap.size w w' := by
  have hu40 := Try.underlying40
  have HB := Aside0.mk (Below.refl w.heap.size w)
  have HC_l := Aside0.mk hr
  have HK_l := Aside0.mk hc
  have XI := Aside0.mk hi
  have XLO := Aside0.mk hlo
  have XHI := Aside0.mk hhi
  have XN := Aside0.mk hn
  clear hr hc hi hlo hhi hn
  go_enter Try.func29, Try.ntmps29
  go_wp2_with (first | ((with_reducible refine gate_dst (N := 2) rfl ?_); (try (refine gate_guard (by rfl) ?_; dsimp only)); refine bxn (cs := #[.slice A_l l.length c_l]) (t := 40) ?_; intro gh hg w1_ hbox hB; have HBo := Aside0.mk HB.out; replace HB := mvH HB hB; have BK_gh := Aside0.mk hbox; have GE_gh := Aside0.mk (show w.heap.size ≤ gh by rw [hg]; exact HBo.out.size); clear hg hbox hB; obtain ⟨hc_gh_0, hf_gh_0⟩ := cf1 BK_gh.out; clear HBo) | (go_at_call 50; with_reducible refine (search_w XI.out XLO.out XHI.out XN.out _ _ _ (Kd.C_below HC_l.out HB.out) HK_l.out).mono ?_; rintro e w2_ ⟨rfl, hB⟩; replace HB := mvH HB hB; clear hc_gh_0 hf_gh_0; replace BK_gh := mvB BK_gh hB; obtain ⟨hc_gh_0, hf_gh_0⟩ := cf1 BK_gh.out; clear hB))
  go_ret2
  exact ⟨rfl, HB.out⟩
end Go.Proofs.Ytjncmiclpaodhaa
/-
  Rows of sockets that were made: what they are, put together; the contract of host.changed in a plainer form.
-/
namespace Go.Proofs.Ytjncmiclpaodhaa
open Go.RowKit Go.Lib Go.Proofs.YtjncmiclpaodhaaW.PrintWords Go.Proofs.Ytjncmiclpaodhaa.PHo
set_option linter.unusedVariables false
set_option linter.unusedSimpArgs false
theorem blk_grown {w w' : World} {j : Nat} {o : Obj} {row : Option Nat} (h : w.heap[j]? = some o) (hg : w.grownBy w' row) (hne : some j ≠ row) : w'.heap[j]? = some o := by
  rw [hg.block j (Array.getElem?_eq_some_iff.1 h).1 hne]; exact h
theorem grown_trans {w w1 w2 : World} {row : Option Nat} (h : w.grownBy w1 row) (h' : w1.grownBy w2 row) : w.grownBy w2 row :=
  ⟨h'.os.trans h.os, h'.tape.trans h.tape, h'.output.trans h.output, Nat.le_trans h.size h'.size, fun k hk hne => (h'.block k (Nat.lt_of_lt_of_le hk h.size) hne).trans (h.block k hk hne)⟩
theorem k42_FKlen {w : World} {ok : Nat → Prop} {x : S42} {c : List Value} (h : Kd.FK k42 w ok x c) : c.length = 4 ∧ ∀ u ∈ c, u.oneCell' = true := ⟨k42.K_len (Kd.FK_now h), k42.K_one (Kd.FK_now h)⟩
theorem N_of_own {w : World} {base : Nat} {ok : Nat → Prop} {v : Value} {xs : List S42} {inner : List Value} (h0 : ∀ k, v.ownBlock = some k → ok k) (ho : w.ownsRow base 42 4 v xs.length inner) (hr : Reps (Kd.FK k42 w (fun k => ok k ∧ some k ≠ v.ownBlock)) 4 xs inner) : Kd.N k42 42 w base ok v xs := by
  refine ⟨h0, Kd.chunks 4 xs.length inner, Kd.chunks_length _ _ _, ⟨fun k hk => hk.symm, inner, by rw [Kd.chunks_length]; exact ho, Kd.reps_raw hr (fun x c hp => k42_FKlen hp)⟩, fun j x c hx hc => ?_⟩
  rw [Kd.chunks_get hc]
  exact hr.2 j x hx
theorem made_V {wn : World} {P : Nat → Prop} {nn : Nat} {v : Value} {xs : List S42} {inner : List Value} (hP : ∀ k, P k → k < nn) (ho : wn.ownsRow nn 42 4 v xs.length inner) (hr : Reps (Kd.FK k42 wn P) 4 xs inner) : Kd.V k42 42 wn 0 (fun k => P k ∨ nn ≤ k) v xs :=
  Kd.N_V (base := nn) (N_of_own (fun k hk => .inr (ho.lt k hk).1) ho (hr.imp_ (fun _ _ hp => Kd.FK_mono hp (fun k hk => ⟨.inl hk, fun e => by have := (ho.lt k e.symm).1; have := hP k hk; omega⟩))))
theorem set4 (l : List Value) (n : Nat) (h : n + 4 ≤ l.length) (a b c d : Value) : (((l.set n a).set (n + 1) b).set (n + 2) c).set (n + 3) d = l.take n ++ [a, b, c, d] ++ l.drop (n + 4) := by
  apply List.ext_getElem?
  intro j
  rw [List.getElem?_append, List.getElem?_append, List.getElem?_take, List.getElem?_drop]
  simp only [List.getElem?_set, List.length_set, List.length_append, List.length_take, List.length_cons, List.length_nil]
  have hm : min n l.length = n := by omega
  rw [hm]
  rcases Nat.lt_or_ge j n with hj | hj
  · rw [if_neg (by omega), if_neg (by omega), if_neg (by omega), if_neg (by omega), if_pos (by omega), if_pos hj, if_pos hj]
  · rcases Nat.lt_or_ge j (n + 4) with hj2 | hj2
    · rw [if_pos (show j < n + (0 + 1 + 1 + 1 + 1) by omega), if_neg (show ¬ j < n by omega)]
      obtain rfl | rfl | rfl | rfl : j = n ∨ j = n + 1 ∨ j = n + 2 ∨ j = n + 3 := by omega
      · rw [if_neg (by omega), if_neg (by omega), if_neg (by omega), if_pos rfl, if_pos (by omega), Nat.sub_self]; rfl
      · rw [if_neg (by omega), if_neg (by omega), if_pos rfl, if_pos (by omega), Nat.add_sub_cancel_left]; rfl
      · rw [if_neg (by omega), if_pos rfl, if_pos (by omega), Nat.add_sub_cancel_left]; rfl
      · rw [if_pos rfl, if_pos (by omega), Nat.add_sub_cancel_left]; rfl
    · rw [if_neg (by omega), if_neg (by omega), if_neg (by omega), if_neg (by omega), if_neg (show ¬ j < n + (0 + 1 + 1 + 1 + 1) by omega), show n + 4 + (j - (n + (0 + 1 + 1 + 1 + 1))) = j by omega]
theorem own_store4 {w : World} {B g n cap : Nat} {xs : List Value} (h : w.ownsRow B 42 4 (.slice (some ⟨g, 0, none⟩) n cap) n xs) (i : Nat) (hi : i < n) (a b c d : Value) :
    ((((w.setCell ⟨g, i * 4, none⟩ a).setCell ⟨g, i * 4 + 1, none⟩ b).setCell ⟨g, i * 4 + 2, none⟩ c).setCell ⟨g, i * 4 + 3, none⟩ d).ownsRow B 42 4 (.slice (some ⟨g, 0, none⟩) n cap) n (xs.take (i * 4) ++ [a, b, c, d] ++ xs.drop (i * 4 + 4)) ∧
      w.grownBy ((((w.setCell ⟨g, i * 4, none⟩ a).setCell ⟨g, i * 4 + 1, none⟩ b).setCell ⟨g, i * 4 + 2, none⟩ c).setCell ⟨g, i * 4 + 3, none⟩ d) (some g) := by
  obtain ⟨h1, g1⟩ := h.stored (i * 4) a
  obtain ⟨h2, g2⟩ := h1.stored (i * 4 + 1) b
  obtain ⟨h3, g3⟩ := h2.stored (i * 4 + 2) c
  obtain ⟨h4, g4⟩ := h3.stored (i * 4 + 3) d
  rw [set4 _ _ (by rw [h.1]; omega)] at h4
  exact ⟨h4, grown_trans (grown_trans (grown_trans g1 g2) g3) g4⟩
/-- What a call of Put or Drop comes to: the host, what is said, and how it went; P: the blocks of what came in. -/
def PutPost (P : Nat → Prop) (w : World) (l : List S42) (rs : List S36) (err : Int) (e : Ending) (w' : World) : Prop :=
  ∃ v0 v1 : Value, e = .returned (.tuple #[.agg #[v0], v1, .int .i64 err]) ∧ Kd.V k42 42 w' 0 (fun k => P k ∨ w.heap.size ≤ k) v0 l ∧ Kd.V k36 36 w' 0 (fun k => P k ∨ w.heap.size ≤ k) v1 rs ∧ Below w.heap.size w w'
theorem changed_w {k : Nat} {l l2 : List S42} {g : Int} {rs : List S36} {P : Nat → Prop} (h : host_changed.f k l l2 g = some (l2, rs, 0)) (A : Option Addr) (c : Nat) (v : Value) (w : World) (hr : Kd.C k42 w A l.length l) (hc : l.length ≤ c) (hv : Kd.V k42 42 w 0 P v l2) :
    ∃ A2 c2, v = .slice A2 l2.length c2 ∧ Calls Try.prog 33 #[.agg #[.slice A l.length c], .agg #[.slice A2 l2.length c2], .int .u32 g] w fun e w' => ∃ A0 c0 A1 c1, e = .returned (.tuple #[.agg #[.slice A0 l2.length c0], .slice A1 rs.length c1, .int .i64 0]) ∧
      Kd.V k42 42 w' 0 (fun k => P k ∨ w.heap.size ≤ k) (.slice A0 l2.length c0) l2 ∧ Kd.V k36 36 w' 0 (fun k => P k ∨ w.heap.size ≤ k) (.slice A1 rs.length c1) rs ∧ Below w.heap.size w w' := by
  obtain ⟨A2, c2, rfl⟩ := Kd.V_slice hv
  refine ⟨A2, c2, rfl, ?_⟩
  refine (host_changed.calls k A c l P A2 c2 l2 g l2 rs 0 w hr hc (Kd.V_mk (Kd.V_reads' hv).2.1 (Kd.V_F hv)) h).mono ?_
  rintro e w' ⟨v0, v1, rfl, h0, h1, hB⟩
  obtain ⟨A0, c0, rfl⟩ := Kd.V_slice h0
  obtain ⟨A1, c1, rfl⟩ := Kd.V_slice h1
  exact ⟨A0, c0, A1, c1, rfl, Kd.V_mk (Kd.V_reads' h0).2.1 (Kd.V_F h0), Kd.V_mk (Kd.V_reads' h1).2.1 (Kd.V_F h1), hB⟩
end Go.Proofs.Ytjncmiclpaodhaa
