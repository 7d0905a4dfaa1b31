/-
  host.Change, walked: what is said of a change.
-/
import Derived.Test.YtjncmiclpaodhaaSoI
import Derived.Test.YtjncmiclpaodhaaHoM
import Derived.Test.YtjncmiclpaodhaaPHoy1
namespace Go.Proofs.Ytjncmiclpaodhaa
open Go.RowKit Go.Proofs.YtjncmiclpaodhaaW.PrintWords Go.Proofs.YtjncmiclpaodhaaW.PrintLast Go.Proofs.YtjncmiclpaodhaaW.PrintMore Go.Proofs.Ytjncmiclpaodhaa.PHo
set_option linter.unusedVariables false
set_option linter.unusedSimpArgs false
def hc_T1 : Bool × List (List Nat × List Nat) := (true, [([], []), ([0], [0]), ([], []), ([2], [2]), ([1, 0, 1], [1]), ([3, 4, 0, 1, 2, 3, 4], [3])])
def hc_B1 : List Nat := [0, 1, 0, 4, 3, 31]
def hc_T2 : Bool × List (List Nat × List Nat) := (true, [([], []), ([], []), ([], []), ([], []), ([2, 3], [2, 3]), ([4], [4]), ([], []), ([], []), ([6, 7, 4], [6, 7]), ([8], [8]), ([5, 9], [5, 9]), ([0, 1, 10], [0, 1, 10]), ([], []), ([], []), ([], []), ([13, 14, 8], [13, 14]), ([15], [15]), ([], []), ([], []), ([17, 18, 15], [17, 18]), ([19], [19]), ([16, 20], [16, 20]), ([0, 12, 21], [0, 12, 21]), ([], []), ([], []), ([24], [24]), ([25], [25]), ([0, 23, 26], [0, 23, 26]), ([], []), ([], []), ([29], [29]), ([30], [30]), ([0, 28, 31], [0, 28, 31]), ([0, 1, 2, 3, 4, 5, 6, 7, 8, 9, 10, 11, 12, 13, 14, 15, 16, 17, 18, 19, 20, 21, 22, 23, 24, 25, 26, 27, 28, 29, 30, 31, 32], [0]), ([33, 19, 0, 1, 2, 3, 4, 5, 6, 7, 8, 9, 10, 11, 12, 13, 14, 15, 16, 17, 18, 19, 20, 21, 22, 23, 24, 25, 26, 27, 28, 29, 30, 31, 32, 33], [33])])
def hc_B2 : List Nat := [0, 0, 0, 0, 12, 28, 0, 0, 220, 476, 1020, 2047, 0, 0, 0, 25052, 57820, 0, 0, 451036, 975324, 2089436, 4190685, 0, 0, 16777216, 50331648, 125829121, 0, 0, 536870912, 1610612736, 4026531841, 8589934591, 17179869183]
theorem hc_t1 : rtab .any (opsOf Try.f10 1) = hc_T1 := by kernel_rfl
theorem hc_b1 : waitsOk hc_T1.2 hc_B1 = true := by kernel_rfl
theorem hc_t2 : rtab .any (opsOf Try.f10 2) = hc_T2 := by kernel_rfl
theorem hc_b2 : waitsOk hc_T2.2 hc_B2 = true := by kernel_rfl
/-- The map at g, as far as it is filled. -/
def MP (w : World) (g : Nat) (p11 p22 p27 p32 : Bool) (x11 x22 x27 x32 : Value) : Prop :=
  ∃ es clock, w.heap[g]? = some (.map es clock) ∧ Keys es.toList ∧ Ytjncmiclpaodhaa.val false false es.toList = (if p11 = true then some x11 else none) ∧ Ytjncmiclpaodhaa.val true true es.toList = (if p22 = true then some x22 else none) ∧ Ytjncmiclpaodhaa.val false true es.toList = (if p27 = true then some x27 else none) ∧ Ytjncmiclpaodhaa.val true false es.toList = (if p32 = true then some x32 else none)
theorem MP.lt {w : World} {g : Nat} {p q r s : Bool} {x y z t : Value} (h : MP w g p q r s x y z t) : g < w.heap.size := by
  obtain ⟨es, clock, h1, _⟩ := h
  exact (Array.getElem?_eq_some_iff.1 h1).1
theorem MP.below {w w1 : World} {g : Nat} {p q r s : Bool} {x y z t : Value} (h : MP w g p q r s x y z t) (hb : Below w.heap.size w w1) : MP w1 g p q r s x y z t := by
  have hl := h.lt
  obtain ⟨es, clock, h1, h2⟩ := h
  exact ⟨es, clock, (hb.block g hl).trans h1, h2⟩
theorem MP.x11 {w : World} {g : Nat} {q r s : Bool} {x x' y z t : Value} (h : MP w g false q r s x y z t) : MP w g false q r s x' y z t := h
theorem MP.x22 {w : World} {g : Nat} {p r s : Bool} {x y y' z t : Value} (h : MP w g p false r s x y z t) : MP w g p false r s x y' z t := h
/-- What filling in does: all but the map stays. -/
def Puts (w w1 : World) (g : Nat) : Prop := (∀ n VV, Below n VV w → n ≤ g → Below n VV w1) ∧ (∀ k, k ≠ g → w1.heap[k]? = w.heap[k]?)
theorem puts_set {w : World} {g clock : Nat} {es : Array MapEntry} (hb : w.heap[g]? = some (.map es clock)) (o : Obj) : Puts w { w with heap := w.heap.setIfInBounds g o } g :=
  ⟨fun n VV h hn => ⟨h.os, h.tape, h.output, by simpa using h.size, fun k hk => ((MapKept.heap_set hb).2 k (by omega)).trans (h.block k hk)⟩, fun k hk => (MapKept.heap_set hb).2 k hk⟩
theorem MP.ins11 {w : World} {g : Nat} {q r s : Bool} {x y z t : Value} (h : MP w g false q r s x y z t) :
    ∃ w1, (Instr.mapUpdate 68 (.map (some g)) (K2 false false) x).run Try.prog w = .ok () w1 ∧ MP w1 g true q r s x y z t ∧ Puts w w1 g := by
  obtain ⟨es, clock, h1, hk, e1, e2, e3, e4⟩ := h
  refine ⟨_, run_ins2 h1 false false hk (by first | exact e1 | exact e2 | exact e3 | exact e4), ⟨_, _, (MapKept.heap_set h1).1, keys_push hk false false _ _, ?_, ?_, ?_, ?_⟩, puts_set h1 _⟩
  all_goals (rw [val_push]; first | (rw [e1]; simp; done) | (rw [e2]; simp; done) | (rw [e3]; simp; done) | (rw [e4]; simp; done))
theorem MP.ins22 {w : World} {g : Nat} {p r s : Bool} {x y z t : Value} (h : MP w g p false r s x y z t) :
    ∃ w1, (Instr.mapUpdate 68 (.map (some g)) (K2 true true) y).run Try.prog w = .ok () w1 ∧ MP w1 g p true r s x y z t ∧ Puts w w1 g := by
  obtain ⟨es, clock, h1, hk, e1, e2, e3, e4⟩ := h
  refine ⟨_, run_ins2 h1 true true hk (by first | exact e1 | exact e2 | exact e3 | exact e4), ⟨_, _, (MapKept.heap_set h1).1, keys_push hk true true _ _, ?_, ?_, ?_, ?_⟩, puts_set h1 _⟩
  all_goals (rw [val_push]; first | (rw [e1]; simp; done) | (rw [e2]; simp; done) | (rw [e3]; simp; done) | (rw [e4]; simp; done))
theorem MP.ins27 {w : World} {g : Nat} {p q s : Bool} {x y z t : Value} (h : MP w g p q false s x y z t) :
    ∃ w1, (Instr.mapUpdate 68 (.map (some g)) (K2 false true) z).run Try.prog w = .ok () w1 ∧ MP w1 g p q true s x y z t ∧ Puts w w1 g := by
  obtain ⟨es, clock, h1, hk, e1, e2, e3, e4⟩ := h
  refine ⟨_, run_ins2 h1 false true hk (by first | exact e1 | exact e2 | exact e3 | exact e4), ⟨_, _, (MapKept.heap_set h1).1, keys_push hk false true _ _, ?_, ?_, ?_, ?_⟩, puts_set h1 _⟩
  all_goals (rw [val_push]; first | (rw [e1]; simp; done) | (rw [e2]; simp; done) | (rw [e3]; simp; done) | (rw [e4]; simp; done))
theorem MP.ins32 {w : World} {g : Nat} {p q r : Bool} {x y z t : Value} (h : MP w g p q r false x y z t) :
    ∃ w1, (Instr.mapUpdate 68 (.map (some g)) (K2 true false) t).run Try.prog w = .ok () w1 ∧ MP w1 g p q r true x y z t ∧ Puts w w1 g := by
  obtain ⟨es, clock, h1, hk, e1, e2, e3, e4⟩ := h
  refine ⟨_, run_ins2 h1 true false hk (by first | exact e1 | exact e2 | exact e3 | exact e4), ⟨_, _, (MapKept.heap_set h1).1, keys_push hk true false _ _, ?_, ?_, ?_, ?_⟩, puts_set h1 _⟩
  all_goals (rw [val_push]; first | (rw [e1]; simp; done) | (rw [e2]; simp; done) | (rw [e3]; simp; done) | (rw [e4]; simp; done))
theorem ins_step {ops : Array Oper} {Q : Exit → Act → World → Prop} {oi : Oper} {a : Act} {w w1 : World} {K : Act → World → Prop} {g : Nat} {k v : Value} (hw : Region.wanted oi (yielded ops a.tmps) = true) (hN : oi.dst = none) (m ko vo : Operand) (hop : oi.op = .insert 68 m ko vo) (hm : a.eval m = .map (some g)) (hk : a.eval ko = k) (hv : a.eval vo = v)
    (hrun : (Instr.mapUpdate 68 (.map (some g)) k v).run Try.prog w = .ok () w1) (h : K a w1) :
    if Region.wanted oi (yielded ops a.tmps) = true then Oper.wp Try.prog oi a w K Q else K (a.put oi.dst undef) w := by
  rw [if_pos hw]
  unfold Oper.wp
  simp only [execOp, hop, hm, hk, hv, Sem.run_bind, hrun, Result.andThen]
  show K (a.put oi.dst undef) w1
  rw [hN]
  exact h
theorem mk_step {ops : Array Oper} {Q : Exit → Act → World → Prop} {oi : Oper} {a : Act} {w : World} {K : Act → World → Prop} {n : Tmp} (hw : Region.wanted oi (yielded ops a.tmps) = true) (hN : oi.dst = some n) (hop : oi.op = .makeMap 68 none)
    (h : ∀ w1, MP w1 w.heap.size false false false false undef undef undef undef → Below w.heap.size w w1 → K (a.put (some n) (.map (some w.heap.size))) w1) :
    if Region.wanted oi (yielded ops a.tmps) = true then Oper.wp Try.prog oi a w K Q else K (a.put oi.dst undef) w := by
  rw [if_pos hw]
  unfold Oper.wp
  simp only [execOp, hop, Option.map_none, Sem.run_bind, run_makeMap, Result.andThen]
  show K (a.put oi.dst (.map (some w.heap.size))) (w.alloc (.map #[] 0))
  rw [hN]
  refine h _ ⟨#[], 0, by show (w.heap.push (Obj.map #[] 0))[w.heap.size]? = _; simp, by intro e he; simp at he, rfl, rfl, rfl, rfl⟩ (below_alloc (Below.refl _ _) _)
def hc_sel (p q : Bool) (s1 s2 b : List Int) : (Int × List Int) × (Int × List Int) := if p = q then (if q = true then ((5, s2), (6, s1)) else ((5, s1), (6, s2))) else ((if q = true then 4 else 3, b), (0, []))
def hc_keep (g y : Int) (s : List Int) : List S36 := if (y == 4 || y == 3 || decide (0 < s.length)) = true then [⟨y, g, s⟩] else []
theorem run_idx0 (x0 x1 x2 x3 x4 x5 : Value) (w : World) : (Instr.index 67 (.agg #[x0, x1, x2, x3, x4, x5]) (.int .i64 0)).run Try.prog w = .ok (.agg #[x0, x1, x2]) w := by kernel_rfl
theorem run_idx1 (x0 x1 x2 x3 x4 x5 : Value) (w : World) : (Instr.index 67 (.agg #[x0, x1, x2, x3, x4, x5]) (.int .i64 1)).run Try.prog w = .ok (.agg #[x3, x4, x5]) w := by kernel_rfl
theorem idx_ {ops : Array Oper} {Q : Exit → Act → World → Prop} {rest : List Oper} {o : Oper} {a : Act} {w : World} {X I v : Value} (hg : o.guard = none) (x i : Operand) (hop : o.op = .index 67 x i) (hx : a.eval x = X) (hi : a.eval i = I) (hrun : (Instr.index 67 X I).run Try.prog w = .ok v w)
    (h : wpList Try.prog ops Q rest (a.put o.dst v) w) : wpList Try.prog ops Q (o :: rest) a w := by
  refine wpList_plain hg fun K hK => ?_
  unfold Oper.wp
  simp only [execOp, hop, hx, hi, Sem.run_bind, hrun, Result.andThen]
  exact hK _ _ h
def vsel (p q : Bool) (x11 x22 x27 x32 : Value) : Value := if p = true then (if q = true then x22 else x32) else (if q = true then x27 else x11)
theorem look_ {ops : Array Oper} {Q : Exit → Act → World → Prop} {rest : List Oper} {o : Oper} {a : Act} {w : World} {g : Nat} {x y z t v : Value} {p q : Bool} (hg : o.guard = none) (m k : Operand) (hop : o.op = .lookup 68 m k false) (hM : MP w g true true true true x y z t) (hv : vsel p q x y z t = v) (hm : a.eval m = .map (some g)) (hk : a.eval k = K2 p q)
    (h : wpList Try.prog ops Q rest (a.put o.dst v) w) : wpList Try.prog ops Q (o :: rest) a w := by
  obtain ⟨es, clock, h1, hk2, e1, e2, e3, e4⟩ := hM
  have hf : Ytjncmiclpaodhaa.val p q es.toList = some v := by
    cases p <;> cases q <;> (subst hv) <;> (first | exact e1 | exact e2 | exact e3 | exact e4)
  refine wpList_plain hg fun K hK => ?_
  unfold Oper.wp
  simp only [execOp, hop, hm, hk, Sem.run_bind, run_look2 h1 p q hk2 hf, Result.andThen]
  exact hK _ _ h
def hc_acc (g y0 : Int) (s0 : List Int) (y1 : Int) (t0 : List Int) (i : Int) : List S36 := if i = 0 then [] else if i = 1 then [] ++ hc_keep g y0 s0 else ([] ++ hc_keep g y0 s0) ++ hc_keep g y1 t0
theorem hc_acc1 {g y0 : Int} {s0 : List Int} {y1 : Int} {t0 : List Int} : hc_acc g y0 s0 y1 t0 1 = hc_acc g y0 s0 y1 t0 0 ++ hc_keep g y0 s0 := rfl
theorem hc_acc2 {g y0 : Int} {s0 : List Int} {y1 : Int} {t0 : List Int} : hc_acc g y0 s0 y1 t0 2 = hc_acc g y0 s0 y1 t0 1 ++ hc_keep g y1 t0 := rfl
theorem hc_acc_2 {g y0 : Int} {s0 : List Int} {y1 : Int} {t0 : List Int} : hc_acc g y0 s0 y1 t0 2 = hc_keep g y0 s0 ++ hc_keep g y1 t0 := rfl
theorem hc_keep_len (g y : Int) (s : List Int) : (hc_keep g y s).length ≤ 1 := by unfold hc_keep; split <;> simp
theorem hc_acc_len (g y0 : Int) (s0 : List Int) (y1 : Int) (t0 : List Int) (i : Int) : (hc_acc g y0 s0 y1 t0 i).length ≤ 2 := by
  have h0 := hc_keep_len g y0 s0
  have h1 := hc_keep_len g y1 t0
  unfold hc_acc
  split
  · simp
  split
  · simp; omega
  · simp; omega
theorem info36_ : (Try.prog.info? 36).map (fun i => (i.zero, i.size, i.bytes)) = some (some (.agg #[.int .u8 0, .int .u32 0, .slice none 0 0]), 3, 32) := by kernel_rfl
def host_Change.f (a0 : Int) (p : Bool) (l1 : List Int) (q : Bool) (l2 : List Int) : Option (List S36) := (set_Minus.f l2 l1).bind fun s1 => (set_Minus.f l1 l2).bind fun s2 => some (hc_keep a0 (hc_sel p q s1 s2 l2).1.1 (hc_sel p q s1 s2 l2).1.2 ++ hc_keep a0 (hc_sel p q s1 s2 l2).2.1 (hc_sel p q s1 s2 l2).2.2)
set_option maxHeartbeats 8000000 in
set_option maxRecDepth 100000 in
theorem host_Change.calls (a0 : Int) (p : Bool) (A1 : Option Addr) (c1 : Nat) (l1 : List Int) (q : Bool) (P2_ : Nat → Prop) (A2 : Option Addr) (c2 : Nat) (l2 : List Int) (r : List S36) (w : World) (hr1 : Kd.C (Kd.int .u32) w A1 l1.length l1) (hc1 : l1.length ≤ c1) (hs2 : Kd.V (Kd.int .u32) 23 w w.heap.size (fun k_ => P2_ k_) (.slice A2 l2.length c2) l2) (h : host_Change.f a0 p l1 q l2 = some r) :
    Calls Try.prog 10 #[.int .u32 a0, .agg #[.bool p, .slice A1 l1.length c1], .agg #[.bool q, .slice A2 l2.length c2]] w fun e w' => ∃ v0_ : Value, e = .returned v0_ ∧ Kd.V k36 36 w' w.heap.size (fun k_ => (P2_ k_ ∨ w.heap.size ≤ k_)) v0_ r ∧ Below w.heap.size w w' := by
  have hu26 := Try.underlying26
  have hu36 := Try.underlying36
  have hu67 := Try.underlying67
  obtain ⟨s1, hm1, h1_⟩ := Option.bind_eq_some_iff.1 h
  obtain ⟨s2, hm2, h2_⟩ := Option.bind_eq_some_iff.1 h1_
  have HRES := Aside0.mk (Option.some.inj h2_)
  have HM1 := Aside0.mk hm1
  have HM2 := Aside0.mk hm2
  clear h h1_ h2_ hm1 hm2
  have HB := Aside0.mk (Below.refl w.heap.size w)
  have HC_a := Aside0.mk hr1
  have HK_a := Aside0.mk hc1
  have HC_b := Aside0.mk (Kd.V_reads' hs2).2.2
  have HK_b := Aside0.mk (Kd.V_reads' hs2).2.1
  have HV_b := Aside0.mk (Kd.V_bound hs2)
  clear hr1 hc1 hs2
  go_enter Try.func10, Try.ntmps10
  go_upto_region 1 with (first | ((with_reducible refine gate_dst (N := 4) rfl ?_); (try (refine gate_guard (by rfl) ?_; dsimp only)); refine bxn (cs := #[.bool p, .slice A1 l1.length c1]) (t := 26) ?_; intro gw hg w1_ hbox hB; have HBo := Aside0.mk HB.out; replace HB := mvH HB hB; have BK_gw := Aside0.mk hbox; have GE_gw := Aside0.mk (show w.heap.size ≤ gw by rw [hg]; exact HBo.out.size); clear hg hbox hB; obtain ⟨hc_gw_0, hc_gw_1, hf_gw_0, hf_gw_1⟩ := cf2 BK_gw.out; clear HBo) | ((with_reducible refine gate_dst (N := 5) rfl ?_); (try (refine gate_guard (by rfl) ?_; dsimp only)); refine bxn (cs := #[.bool q, .slice A2 l2.length c2]) (t := 26) ?_; intro gi hg w2_ hbox hB; have HBo := Aside0.mk HB.out; have BK0_gw := Aside0.mk BK_gw.out; replace HB := mvH HB hB; clear hc_gw_0 hf_gw_0 hc_gw_1 hf_gw_1; replace BK_gw := mvB BK_gw hB; obtain ⟨hc_gw_0, hc_gw_1, hf_gw_0, hf_gw_1⟩ := cf2 BK_gw.out; have BK_gi := Aside0.mk hbox; have GE_gi := Aside0.mk (show w.heap.size ≤ gi by rw [hg]; exact HBo.out.size); have NB_gi_gw := Aside0.mk (show gi ≠ gw by rw [hg]; exact Nat.ne_of_gt (blk_lt (g := gw) (o := .cells #[.bool p, .slice A1 l1.length c1] 26 (0, 0)) BK0_gw.out)); have NB_gw_gi := Aside0.mk (Ne.symm NB_gi_gw.out); clear BK0_gw; clear hg hbox hB; obtain ⟨hc_gi_0, hc_gi_1, hf_gi_0, hf_gi_1⟩ := cf2 BK_gi.out; clear HBo))
  refine start_ (n := 6) (S := fun w' => w'.cell? ⟨gw, 0, none⟩ = some (.bool p) ∧ w'.cell? ⟨gw, 1, none⟩ = some (.slice A1 l1.length c1) ∧ w'.cell? ⟨gi, 0, none⟩ = some (.bool q) ∧ w'.cell? ⟨gi, 1, none⟩ = some (.slice A2 l2.length c2)) (ds := []) #[false, false, false, false, false, false] (by kernel_rfl) rfl rfl ⟨hc_gw_0, hc_gw_1, hc_gi_0, hc_gi_1⟩ (fun hHeld => ?_); refine with_tabW hc_t1 hc_b1 (fun HT_ HW_ => ?_)
  have hB : Below w2_.heap.size w2_ w2_.drew := below_drew (Below.refl _ _)
  generalize w2_.drew = w3_ at hB hHeld ⊢
  replace HB := mvH HB hB
  clear hc_gw_0 hf_gw_0 hc_gw_1 hf_gw_1
  replace BK_gw := mvB BK_gw hB
  obtain ⟨hc_gw_0, hc_gw_1, hf_gw_0, hf_gw_1⟩ := cf2 BK_gw.out
  clear hc_gi_0 hf_gi_0 hc_gi_1 hf_gi_1
  replace BK_gi := mvB BK_gi hB
  obtain ⟨hc_gi_0, hc_gi_1, hf_gi_0, hf_gi_1⟩ := cf2 BK_gi.out
  clear hB
  refine pw 0 13 (bb 6 1) rfl rfl HT_ ?_
  refine tk 1 14 (bb 6 3) rfl rfl HT_ HW_ hHeld ?_
  refine pw 2 15 (bb 6 7) rfl rfl HT_ ?_
  refine tk 3 16 (bb 6 15) rfl rfl HT_ HW_ hHeld ?_
  refine pw 4 7 (bb 6 31) rfl rfl HT_ ?_
  refine pw 5 8 (bb 6 63) rfl rfl HT_ ?_
  refine done_ (done_of HT_.out (by kernel_rfl)) ?_
  go_upto_region 2 with fail
  refine start_ (n := 35) (S := fun w' => True) (ds := []) #[false, false, false, false, false, false, false, false, false, false, false, false, false, false, false, false, false, false, false, false, false, false, false, false, false, false, false, false, false, false, false, false, false, false, false] (by kernel_rfl) rfl rfl trivial (fun hHeld => ?_); refine with_tabW hc_t2 hc_b2 (fun HT_ HW_ => ?_)
  have hB : Below w3_.heap.size w3_ w3_.drew := below_drew (Below.refl _ _)
  generalize w3_.drew = w4_ at hB hHeld ⊢
  replace HB := mvH HB hB
  clear hc_gw_0 hf_gw_0 hc_gw_1 hf_gw_1
  replace BK_gw := mvB BK_gw hB
  obtain ⟨hc_gw_0, hc_gw_1, hf_gw_0, hf_gw_1⟩ := cf2 BK_gw.out
  clear hc_gi_0 hf_gi_0 hc_gi_1 hf_gi_1
  replace BK_gi := mvB BK_gi hB
  obtain ⟨hc_gi_0, hc_gi_1, hf_gi_0, hf_gi_1⟩ := cf2 BK_gi.out
  clear hB
  refine pw 1 18 (bb 35 2) rfl rfl HT_ ?_
  refine pw 2 19 (bb 35 6) rfl rfl HT_ ?_
  refine pw 3 20 (bb 35 14) rfl rfl HT_ ?_
  refine pw 6 23 (bb 35 78) rfl rfl HT_ ?_
  refine pw 7 24 (bb 35 206) rfl rfl HT_ ?_
  refine pw 12 28 (bb 35 4302) rfl rfl HT_ ?_
  refine pw 13 29 (bb 35 12494) rfl rfl HT_ ?_
  refine pw 14 30 (bb 35 28878) rfl rfl HT_ ?_
  refine pw 17 33 (bb 35 159950) rfl rfl HT_ ?_
  refine pw 18 34 (bb 35 422094) rfl rfl HT_ ?_
  refine pw 23 38 (bb 35 8810702) rfl rfl HT_ ?_
  refine pw 24 39 (bb 35 25587918) rfl rfl HT_ ?_
  refine pw 25 40 (bb 35 59142350) rfl rfl HT_ ?_
  refine pw 26 41 (bb 35 126251214) rfl rfl HT_ ?_
  refine pw 28 42 (bb 35 394686670) rfl rfl HT_ ?_
  refine pw 29 43 (bb 35 931557582) rfl rfl HT_ ?_
  refine pw 30 44 (bb 35 2005299406) rfl rfl HT_ ?_
  refine pw 31 45 (bb 35 4152783054) rfl rfl HT_ ?_
  have HVB := Aside0.mk (Kd.V_below HV_b.out HB.out)
  have HCa_V := Aside0.mk (Kd.C_below HC_a.out HB.out)
  have HCb_V := Aside0.mk (Kd.C_below HC_b.out HB.out)
  refine inv_at [0, 4, 5, 8, 9, 10, 11, 15, 16, 19, 20, 21, 22, 27, 32, 33, 34] (fun a0_ b a w' => ∃ (g : Nat) (v21 v25 v31 v35 v22 v26 v27 v32 v36 v37 v46 v9 : Value), a = putSel a0_ b [(0, 17, .map (some g)), (4, 21, v21), (5, 22, v22), (8, 25, v25), (9, 26, v26), (10, 27, v27), (15, 31, v31), (16, 32, v32), (19, 35, v35), (20, 36, v36), (21, 37, v37), (33, 46, v46), (34, 9, v9)] ∧ Below w4_.heap.size w4_ w' ∧ (b 4 = true → Kd.V (Kd.int .u32) 23 w' 0 (fun k => w4_.heap.size ≤ k ∧ (b 0 = true → k ≠ g)) v21 s1) ∧ (b 8 = true → Kd.V (Kd.int .u32) 23 w' 0 (fun k => w4_.heap.size ≤ k ∧ (b 0 = true → k ≠ g)) v25 s2) ∧ (b 15 = true → Kd.V (Kd.int .u32) 23 w' 0 (fun k => w4_.heap.size ≤ k ∧ (b 0 = true → k ≠ g)) v31 s2) ∧ (b 19 = true → Kd.V (Kd.int .u32) 23 w' 0 (fun k => w4_.heap.size ≤ k ∧ (b 0 = true → k ≠ g)) v35 s1) ∧ (b 0 = true → w4_.heap.size ≤ g ∧ MP w' g (b 11) (b 22) (b 27) (b 32) (.agg #[.int .u8 5, .int .u32 0, v21, .int .u8 6, .int .u32 0, v25]) (.agg #[.int .u8 5, .int .u32 0, v31, .int .u8 6, .int .u32 0, v35]) (.agg #[.int .u8 4, .int .u32 0, (.slice A2 l2.length c2), .int .u8 0, .int .u32 0, .slice none 0 0]) (.agg #[.int .u8 3, .int .u32 0, (.slice A2 l2.length c2), .int .u8 0, .int .u32 0, .slice none 0 0])) ∧ (b 5 = true → v22 = .agg #[.int .u8 5, .int .u32 0, v21]) ∧ (b 9 = true → v26 = .agg #[.int .u8 6, .int .u32 0, v25]) ∧ (b 10 = true → v27 = .agg #[.int .u8 5, .int .u32 0, v21, .int .u8 6, .int .u32 0, v25]) ∧ (b 16 = true → v32 = .agg #[.int .u8 5, .int .u32 0, v31]) ∧ (b 20 = true → v36 = .agg #[.int .u8 6, .int .u32 0, v35]) ∧ (b 21 = true → v37 = .agg #[.int .u8 5, .int .u32 0, v31, .int .u8 6, .int .u32 0, v35]) ∧ (b 33 = true → v46 = .map (some g)) ∧ (b 34 = true → v9 = .map (some g))) HT_.out HW_.out (by kernel_rfl) (by kernel_rfl) ?_ ?_ ?_
  · exact ⟨0, undef, undef, undef, undef, undef, undef, undef, undef, undef, undef, undef, undef, by simp only [putSel, Bool.false_eq_true, if_false], Below.refl _ _, fun h => absurd h (by decide), fun h => absurd h (by decide), fun h => absurd h (by decide), fun h => absurd h (by decide), fun h => absurd h (by decide), fun h => absurd h (by decide), fun h => absurd h (by decide), fun h => absurd h (by decide), fun h => absurd h (by decide), fun h => absurd h (by decide), fun h => absurd h (by decide), fun h => absurd h (by decide), fun h => absurd h (by decide)⟩
  · skip
    refine steps_cons ?_ ?_
    · rintro b a w' ⟨g, v21, v25, v31, v35, v22, v26, v27, v32, v36, v37, v46, v9, ha, QB, Q4, Q8, Q15, Q19, Q0, E5, E9, E10, E16, E20, E21, E33, E34⟩ hb_ hon hoff
      refine ⟨_, rfl, fun K hK => ?_⟩
      replace ha := Aside0.mk ha
      refine mk_step (by rfl) rfl rfl ?_
      intro w1 hM hb
      exact hK.out _ _ ⟨w'.heap.size, v21, v25, v31, v35, v22, v26, v27, v32, v36, v37, v46, v9, (by rw [ha.out]; exact putSel_upk 0 hb_ rfl rfl rfl), QB.trans (hb.mono QB.size), fun h => Kd.V_mono (Kd.V_below (Kd.V_bound (Q4 h)) hb) (fun k hk => ⟨hk.1.1, fun _ e => by have := hk.2; omega⟩), fun h => Kd.V_mono (Kd.V_below (Kd.V_bound (Q8 h)) hb) (fun k hk => ⟨hk.1.1, fun _ e => by have := hk.2; omega⟩), fun h => Kd.V_mono (Kd.V_below (Kd.V_bound (Q15 h)) hb) (fun k hk => ⟨hk.1.1, fun _ e => by have := hk.2; omega⟩), fun h => Kd.V_mono (Kd.V_below (Kd.V_bound (Q19 h)) hb) (fun k hk => ⟨hk.1.1, fun _ e => by have := hk.2; omega⟩), fun _ => ⟨QB.size, by have h1 := (hoff 11 (by kernel_rfl)); have h2 := (hoff 22 (by kernel_rfl)); have h3 := (hoff 27 (by kernel_rfl)); have h4 := (hoff 32 (by kernel_rfl)); rw [show up b 0 11 = false from h1, show up b 0 22 = false from h2, show up b 0 27 = false from h3, show up b 0 32 = false from h4]; exact hM⟩, E5, E9, E10, E16, E20, E21, fun h => absurd ((show up b 0 33 = false from (hoff 33 (by kernel_rfl))).symm.trans h) (by decide), fun h => absurd ((show up b 0 34 = false from (hoff 34 (by kernel_rfl))).symm.trans h) (by decide)⟩
    refine steps_cons ?_ ?_
    · rintro b a w' ⟨g, v21, v25, v31, v35, v22, v26, v27, v32, v36, v37, v46, v9, ha, QB, Q4, Q8, Q15, Q19, Q0, E5, E9, E10, E16, E20, E21, E33, E34⟩ hb_ hon hoff
      refine ⟨_, rfl, fun K hK => ?_⟩
      have e19 : a.tmps[19]? = some (.slice A2 l2.length c2) := by rw [ha]; exact (putSel_off rfl).trans rfl
      have e20 : a.tmps[20]? = some (.slice A1 l1.length c1) := by rw [ha]; exact (putSel_off rfl).trans rfl
      replace ha := Aside0.mk ha
      refine goes_ Try.func27 (by kernel_rfl) rfl #[.slice A2 l2.length c2, .slice A1 l1.length c1] (by rfl) rfl rfl (by first | (simp only [List.map_toArray, List.map_cons, List.map_nil, Act.eval, Array.getD_eq_getD_getElem?, Option.getD_some, e19, e20]; done) | (simp only [List.map_toArray, List.map_cons, List.map_nil, Act.eval, Array.getD_eq_getD_getElem?, Option.getD_some, e19, e20]; rfl)) ?_
      with_reducible refine (set_Minus.calls _ _ l2 _ _ l1 s1 _ (Kd.C_below HCb_V.out QB) HK_b.out (Kd.C_below HCa_V.out QB) HK_a.out HM1.out).mono ?_
      rintro e w1 ⟨u, rfl, hR, hb⟩
      refine ⟨_, rfl, ?_⟩
      exact hK.out _ _ ⟨g, u, v25, v31, v35, v22, v26, v27, v32, v36, v37, v46, v9, (by rw [ha.out]; exact putSel_upk 1 hb_ rfl rfl rfl), QB.trans (hb.mono QB.size), fun _ => Kd.V_mono (Kd.R_V (base' := 0) (Kd.R_bound hR)) (fun k hk => ⟨Nat.le_trans QB.size hk.2.1, fun h0 e => by have := (Q0 h0).2.lt; have := hk.2.1; omega⟩), fun h => Kd.V_below (Q8 h) hb, fun h => Kd.V_below (Q15 h) hb, fun h => Kd.V_below (Q19 h) hb, fun h0 => ⟨(Q0 h0).1, by have h1 := (Q0 h0).2.below hb; have h2 := (hoff 11 (by kernel_rfl)); rw [h2] at h1; rw [show up b 4 11 = false from h2]; exact MP.x11 h1⟩, fun h => absurd ((show up b 4 5 = false from (hoff 5 (by kernel_rfl))).symm.trans h) (by decide), E9, fun h => absurd ((show up b 4 10 = false from (hoff 10 (by kernel_rfl))).symm.trans h) (by decide), E16, E20, E21, E33, E34⟩
    refine steps_cons ?_ ?_
    · rintro b a w' ⟨g, v21, v25, v31, v35, v22, v26, v27, v32, v36, v37, v46, v9, ha, QB, Q4, Q8, Q15, Q19, Q0, E5, E9, E10, E16, E20, E21, E33, E34⟩ hb_ hon hoff
      refine ⟨_, rfl, fun K hK => ?_⟩
      have e21 : a.tmps[21]? = some (v21) := by rw [ha]; exact putSel_on (e := (4, 21, v21)) 1 rfl rfl (hon 4 (by kernel_rfl)) rfl
      obtain ⟨As_, cs_, hs_⟩ := Kd.V_slice (Q4 (hon 4 (by kernel_rfl)))
      rw [hs_] at e21
      replace ha := Aside0.mk ha
      refine value_ (w1 := w') (v := .agg #[.int .u8 5, .int .u32 0, (.slice As_ s1.length cs_)]) (by rfl) rfl ?_ ?_
      · go_simp
        try rfl
      exact hK.out _ _ ⟨g, v21, v25, v31, v35, .agg #[.int .u8 5, .int .u32 0, (.slice As_ s1.length cs_)], v26, v27, v32, v36, v37, v46, v9, (by rw [ha.out]; exact putSel_upk 2 hb_ rfl rfl rfl), QB, Q4, Q8, Q15, Q19, Q0, fun _ => by rw [hs_], E9, E10, E16, E20, E21, E33, E34⟩
    refine steps_cons ?_ ?_
    · rintro b a w' ⟨g, v21, v25, v31, v35, v22, v26, v27, v32, v36, v37, v46, v9, ha, QB, Q4, Q8, Q15, Q19, Q0, E5, E9, E10, E16, E20, E21, E33, E34⟩ hb_ hon hoff
      refine ⟨_, rfl, fun K hK => ?_⟩
      have e23 : a.tmps[23]? = some (.slice A1 l1.length c1) := by rw [ha]; exact (putSel_off rfl).trans rfl
      have e24 : a.tmps[24]? = some (.slice A2 l2.length c2) := by rw [ha]; exact (putSel_off rfl).trans rfl
      replace ha := Aside0.mk ha
      refine goes_ Try.func27 (by kernel_rfl) rfl #[.slice A1 l1.length c1, .slice A2 l2.length c2] (by rfl) rfl rfl (by first | (simp only [List.map_toArray, List.map_cons, List.map_nil, Act.eval, Array.getD_eq_getD_getElem?, Option.getD_some, e23, e24]; done) | (simp only [List.map_toArray, List.map_cons, List.map_nil, Act.eval, Array.getD_eq_getD_getElem?, Option.getD_some, e23, e24]; rfl)) ?_
      with_reducible refine (set_Minus.calls _ _ l1 _ _ l2 s2 _ (Kd.C_below HCa_V.out QB) HK_a.out (Kd.C_below HCb_V.out QB) HK_b.out HM2.out).mono ?_
      rintro e w1 ⟨u, rfl, hR, hb⟩
      refine ⟨_, rfl, ?_⟩
      exact hK.out _ _ ⟨g, v21, u, v31, v35, v22, v26, v27, v32, v36, v37, v46, v9, (by rw [ha.out]; exact putSel_upk 3 hb_ rfl rfl rfl), QB.trans (hb.mono QB.size), fun h => Kd.V_below (Q4 h) hb, fun _ => Kd.V_mono (Kd.R_V (base' := 0) (Kd.R_bound hR)) (fun k hk => ⟨Nat.le_trans QB.size hk.2.1, fun h0 e => by have := (Q0 h0).2.lt; have := hk.2.1; omega⟩), fun h => Kd.V_below (Q15 h) hb, fun h => Kd.V_below (Q19 h) hb, fun h0 => ⟨(Q0 h0).1, by have h1 := (Q0 h0).2.below hb; have h2 := (hoff 11 (by kernel_rfl)); rw [h2] at h1; rw [show up b 8 11 = false from h2]; exact MP.x11 h1⟩, E5, fun h => absurd ((show up b 8 9 = false from (hoff 9 (by kernel_rfl))).symm.trans h) (by decide), fun h => absurd ((show up b 8 10 = false from (hoff 10 (by kernel_rfl))).symm.trans h) (by decide), E16, E20, E21, E33, E34⟩
    refine steps_cons ?_ ?_
    · rintro b a w' ⟨g, v21, v25, v31, v35, v22, v26, v27, v32, v36, v37, v46, v9, ha, QB, Q4, Q8, Q15, Q19, Q0, E5, E9, E10, E16, E20, E21, E33, E34⟩ hb_ hon hoff
      refine ⟨_, rfl, fun K hK => ?_⟩
      have e25 : a.tmps[25]? = some (v25) := by rw [ha]; exact putSel_on (e := (8, 25, v25)) 3 rfl rfl (hon 8 (by kernel_rfl)) rfl
      obtain ⟨As_, cs_, hs_⟩ := Kd.V_slice (Q8 (hon 8 (by kernel_rfl)))
      rw [hs_] at e25
      replace ha := Aside0.mk ha
      refine value_ (w1 := w') (v := .agg #[.int .u8 6, .int .u32 0, (.slice As_ s2.length cs_)]) (by rfl) rfl ?_ ?_
      · go_simp
        try rfl
      exact hK.out _ _ ⟨g, v21, v25, v31, v35, v22, .agg #[.int .u8 6, .int .u32 0, (.slice As_ s2.length cs_)], v27, v32, v36, v37, v46, v9, (by rw [ha.out]; exact putSel_upk 4 hb_ rfl rfl rfl), QB, Q4, Q8, Q15, Q19, Q0, E5, fun _ => by rw [hs_], E10, E16, E20, E21, E33, E34⟩
    refine steps_cons ?_ ?_
    · rintro b a w' ⟨g, v21, v25, v31, v35, v22, v26, v27, v32, v36, v37, v46, v9, ha, QB, Q4, Q8, Q15, Q19, Q0, E5, E9, E10, E16, E20, E21, E33, E34⟩ hb_ hon hoff
      refine ⟨_, rfl, fun K hK => ?_⟩
      have e22 : a.tmps[22]? = some (v22) := by rw [ha]; exact putSel_on (e := (5, 22, v22)) 2 rfl rfl (hon 5 (by kernel_rfl)) rfl
      rw [E5 (hon 5 (by kernel_rfl))] at e22
      have e26 : a.tmps[26]? = some (v26) := by rw [ha]; exact putSel_on (e := (9, 26, v26)) 4 rfl rfl (hon 9 (by kernel_rfl)) rfl
      rw [E9 (hon 9 (by kernel_rfl))] at e26
      replace ha := Aside0.mk ha
      refine value_ (w1 := w') (v := .agg #[.int .u8 5, .int .u32 0, v21, .int .u8 6, .int .u32 0, v25]) (by rfl) rfl ?_ ?_
      · go_simp
        try rfl
      exact hK.out _ _ ⟨g, v21, v25, v31, v35, v22, v26, .agg #[.int .u8 5, .int .u32 0, v21, .int .u8 6, .int .u32 0, v25], v32, v36, v37, v46, v9, (by rw [ha.out]; exact putSel_upk 5 hb_ rfl rfl rfl), QB, Q4, Q8, Q15, Q19, Q0, E5, E9, fun _ => rfl, E16, E20, E21, E33, E34⟩
    refine steps_cons ?_ ?_
    · rintro b a w' ⟨g, v21, v25, v31, v35, v22, v26, v27, v32, v36, v37, v46, v9, ha, QB, Q4, Q8, Q15, Q19, Q0, E5, E9, E10, E16, E20, E21, E33, E34⟩ hb_ hon hoff
      refine ⟨_, rfl, fun K hK => ?_⟩
      have e17 : a.tmps[17]? = some (.map (some g)) := by rw [ha]; exact putSel_on (e := (0, 17, .map (some g))) 0 rfl rfl (hon 0 (by kernel_rfl)) rfl
      have e18 : a.tmps[18]? = some (K2 false false) := by rw [ha]; exact (putSel_off rfl).trans rfl
      have e27 : a.tmps[27]? = some (v27) := by rw [ha]; exact putSel_on (e := (10, 27, v27)) 5 rfl rfl (hon 10 (by kernel_rfl)) rfl
      rw [E10 (hon 10 (by kernel_rfl))] at e27
      replace ha := Aside0.mk ha
      have h0 := Q0 (hon 0 (by kernel_rfl))
      have h1 := h0.2
      rw [show b 11 = false from hb_] at h1
      obtain ⟨w1, hrun, hM, hP⟩ := h1.ins11
      refine ins_step (by rfl) rfl _ _ _ rfl (by simp only [Act.eval, Array.getD_eq_getD_getElem?, Option.getD_some, e17]) (by simp only [Act.eval, Array.getD_eq_getD_getElem?, Option.getD_some, e18]) (by simp only [Act.eval, Array.getD_eq_getD_getElem?, Option.getD_some, e27]) hrun ?_
      exact hK.out _ _ ⟨g, v21, v25, v31, v35, v22, v26, v27, v32, v36, v37, v46, v9, (by rw [ha.out]; exact (putSel_same rfl).symm), hP.1 _ _ QB h0.1, fun h => Kd.V_step (Q4 h) (fun k hk _ => hP.2 k (hk.2 (hon 0 (by kernel_rfl)))), fun h => Kd.V_step (Q8 h) (fun k hk _ => hP.2 k (hk.2 (hon 0 (by kernel_rfl)))), fun h => Kd.V_step (Q15 h) (fun k hk _ => hP.2 k (hk.2 (hon 0 (by kernel_rfl)))), fun h => Kd.V_step (Q19 h) (fun k hk _ => hP.2 k (hk.2 (hon 0 (by kernel_rfl)))), fun _ => ⟨h0.1, by rw [show up b 11 11 = true from up_self b 11]; exact hM⟩, E5, E9, E10, E16, E20, E21, E33, E34⟩
    refine steps_cons ?_ ?_
    · rintro b a w' ⟨g, v21, v25, v31, v35, v22, v26, v27, v32, v36, v37, v46, v9, ha, QB, Q4, Q8, Q15, Q19, Q0, E5, E9, E10, E16, E20, E21, E33, E34⟩ hb_ hon hoff
      refine ⟨_, rfl, fun K hK => ?_⟩
      have e29 : a.tmps[29]? = some (.slice A1 l1.length c1) := by rw [ha]; exact (putSel_off rfl).trans rfl
      have e30 : a.tmps[30]? = some (.slice A2 l2.length c2) := by rw [ha]; exact (putSel_off rfl).trans rfl
      replace ha := Aside0.mk ha
      refine goes_ Try.func27 (by kernel_rfl) rfl #[.slice A1 l1.length c1, .slice A2 l2.length c2] (by rfl) rfl rfl (by first | (simp only [List.map_toArray, List.map_cons, List.map_nil, Act.eval, Array.getD_eq_getD_getElem?, Option.getD_some, e29, e30]; done) | (simp only [List.map_toArray, List.map_cons, List.map_nil, Act.eval, Array.getD_eq_getD_getElem?, Option.getD_some, e29, e30]; rfl)) ?_
      with_reducible refine (set_Minus.calls _ _ l1 _ _ l2 s2 _ (Kd.C_below HCa_V.out QB) HK_a.out (Kd.C_below HCb_V.out QB) HK_b.out HM2.out).mono ?_
      rintro e w1 ⟨u, rfl, hR, hb⟩
      refine ⟨_, rfl, ?_⟩
      exact hK.out _ _ ⟨g, v21, v25, u, v35, v22, v26, v27, v32, v36, v37, v46, v9, (by rw [ha.out]; exact putSel_upk 6 hb_ rfl rfl rfl), QB.trans (hb.mono QB.size), fun h => Kd.V_below (Q4 h) hb, fun h => Kd.V_below (Q8 h) hb, fun _ => Kd.V_mono (Kd.R_V (base' := 0) (Kd.R_bound hR)) (fun k hk => ⟨Nat.le_trans QB.size hk.2.1, fun h0 e => by have := (Q0 h0).2.lt; have := hk.2.1; omega⟩), fun h => Kd.V_below (Q19 h) hb, fun h0 => ⟨(Q0 h0).1, by have h1 := (Q0 h0).2.below hb; have h2 := (hoff 22 (by kernel_rfl)); rw [h2] at h1; rw [show up b 15 22 = false from h2]; exact MP.x22 h1⟩, E5, E9, E10, fun h => absurd ((show up b 15 16 = false from (hoff 16 (by kernel_rfl))).symm.trans h) (by decide), E20, fun h => absurd ((show up b 15 21 = false from (hoff 21 (by kernel_rfl))).symm.trans h) (by decide), E33, E34⟩
    refine steps_cons ?_ ?_
    · rintro b a w' ⟨g, v21, v25, v31, v35, v22, v26, v27, v32, v36, v37, v46, v9, ha, QB, Q4, Q8, Q15, Q19, Q0, E5, E9, E10, E16, E20, E21, E33, E34⟩ hb_ hon hoff
      refine ⟨_, rfl, fun K hK => ?_⟩
      have e31 : a.tmps[31]? = some (v31) := by rw [ha]; exact putSel_on (e := (15, 31, v31)) 6 rfl rfl (hon 15 (by kernel_rfl)) rfl
      obtain ⟨As_, cs_, hs_⟩ := Kd.V_slice (Q15 (hon 15 (by kernel_rfl)))
      rw [hs_] at e31
      replace ha := Aside0.mk ha
      refine value_ (w1 := w') (v := .agg #[.int .u8 5, .int .u32 0, (.slice As_ s2.length cs_)]) (by rfl) rfl ?_ ?_
      · go_simp
        try rfl
      exact hK.out _ _ ⟨g, v21, v25, v31, v35, v22, v26, v27, .agg #[.int .u8 5, .int .u32 0, (.slice As_ s2.length cs_)], v36, v37, v46, v9, (by rw [ha.out]; exact putSel_upk 7 hb_ rfl rfl rfl), QB, Q4, Q8, Q15, Q19, Q0, E5, E9, E10, fun _ => by rw [hs_], E20, E21, E33, E34⟩
    refine steps_cons ?_ ?_
    · rintro b a w' ⟨g, v21, v25, v31, v35, v22, v26, v27, v32, v36, v37, v46, v9, ha, QB, Q4, Q8, Q15, Q19, Q0, E5, E9, E10, E16, E20, E21, E33, E34⟩ hb_ hon hoff
      refine ⟨_, rfl, fun K hK => ?_⟩
      have e33 : a.tmps[33]? = some (.slice A2 l2.length c2) := by rw [ha]; exact (putSel_off rfl).trans rfl
      have e34 : a.tmps[34]? = some (.slice A1 l1.length c1) := by rw [ha]; exact (putSel_off rfl).trans rfl
      replace ha := Aside0.mk ha
      refine goes_ Try.func27 (by kernel_rfl) rfl #[.slice A2 l2.length c2, .slice A1 l1.length c1] (by rfl) rfl rfl (by first | (simp only [List.map_toArray, List.map_cons, List.map_nil, Act.eval, Array.getD_eq_getD_getElem?, Option.getD_some, e33, e34]; done) | (simp only [List.map_toArray, List.map_cons, List.map_nil, Act.eval, Array.getD_eq_getD_getElem?, Option.getD_some, e33, e34]; rfl)) ?_
      with_reducible refine (set_Minus.calls _ _ l2 _ _ l1 s1 _ (Kd.C_below HCb_V.out QB) HK_b.out (Kd.C_below HCa_V.out QB) HK_a.out HM1.out).mono ?_
      rintro e w1 ⟨u, rfl, hR, hb⟩
      refine ⟨_, rfl, ?_⟩
      exact hK.out _ _ ⟨g, v21, v25, v31, u, v22, v26, v27, v32, v36, v37, v46, v9, (by rw [ha.out]; exact putSel_upk 8 hb_ rfl rfl rfl), QB.trans (hb.mono QB.size), fun h => Kd.V_below (Q4 h) hb, fun h => Kd.V_below (Q8 h) hb, fun h => Kd.V_below (Q15 h) hb, fun _ => Kd.V_mono (Kd.R_V (base' := 0) (Kd.R_bound hR)) (fun k hk => ⟨Nat.le_trans QB.size hk.2.1, fun h0 e => by have := (Q0 h0).2.lt; have := hk.2.1; omega⟩), fun h0 => ⟨(Q0 h0).1, by have h1 := (Q0 h0).2.below hb; have h2 := (hoff 22 (by kernel_rfl)); rw [h2] at h1; rw [show up b 19 22 = false from h2]; exact MP.x22 h1⟩, E5, E9, E10, E16, fun h => absurd ((show up b 19 20 = false from (hoff 20 (by kernel_rfl))).symm.trans h) (by decide), fun h => absurd ((show up b 19 21 = false from (hoff 21 (by kernel_rfl))).symm.trans h) (by decide), E33, E34⟩
    refine steps_cons ?_ ?_
    · rintro b a w' ⟨g, v21, v25, v31, v35, v22, v26, v27, v32, v36, v37, v46, v9, ha, QB, Q4, Q8, Q15, Q19, Q0, E5, E9, E10, E16, E20, E21, E33, E34⟩ hb_ hon hoff
      refine ⟨_, rfl, fun K hK => ?_⟩
      have e35 : a.tmps[35]? = some (v35) := by rw [ha]; exact putSel_on (e := (19, 35, v35)) 8 rfl rfl (hon 19 (by kernel_rfl)) rfl
      obtain ⟨As_, cs_, hs_⟩ := Kd.V_slice (Q19 (hon 19 (by kernel_rfl)))
      rw [hs_] at e35
      replace ha := Aside0.mk ha
      refine value_ (w1 := w') (v := .agg #[.int .u8 6, .int .u32 0, (.slice As_ s1.length cs_)]) (by rfl) rfl ?_ ?_
      · go_simp
        try rfl
      exact hK.out _ _ ⟨g, v21, v25, v31, v35, v22, v26, v27, v32, .agg #[.int .u8 6, .int .u32 0, (.slice As_ s1.length cs_)], v37, v46, v9, (by rw [ha.out]; exact putSel_upk 9 hb_ rfl rfl rfl), QB, Q4, Q8, Q15, Q19, Q0, E5, E9, E10, E16, fun _ => by rw [hs_], E21, E33, E34⟩
    refine steps_cons ?_ ?_
    · rintro b a w' ⟨g, v21, v25, v31, v35, v22, v26, v27, v32, v36, v37, v46, v9, ha, QB, Q4, Q8, Q15, Q19, Q0, E5, E9, E10, E16, E20, E21, E33, E34⟩ hb_ hon hoff
      refine ⟨_, rfl, fun K hK => ?_⟩
      have e32 : a.tmps[32]? = some (v32) := by rw [ha]; exact putSel_on (e := (16, 32, v32)) 7 rfl rfl (hon 16 (by kernel_rfl)) rfl
      rw [E16 (hon 16 (by kernel_rfl))] at e32
      have e36 : a.tmps[36]? = some (v36) := by rw [ha]; exact putSel_on (e := (20, 36, v36)) 9 rfl rfl (hon 20 (by kernel_rfl)) rfl
      rw [E20 (hon 20 (by kernel_rfl))] at e36
      replace ha := Aside0.mk ha
      refine value_ (w1 := w') (v := .agg #[.int .u8 5, .int .u32 0, v31, .int .u8 6, .int .u32 0, v35]) (by rfl) rfl ?_ ?_
      · go_simp
        try rfl
      exact hK.out _ _ ⟨g, v21, v25, v31, v35, v22, v26, v27, v32, v36, .agg #[.int .u8 5, .int .u32 0, v31, .int .u8 6, .int .u32 0, v35], v46, v9, (by rw [ha.out]; exact putSel_upk 10 hb_ rfl rfl rfl), QB, Q4, Q8, Q15, Q19, Q0, E5, E9, E10, E16, E20, fun _ => rfl, E33, E34⟩
    refine steps_cons ?_ ?_
    · rintro b a w' ⟨g, v21, v25, v31, v35, v22, v26, v27, v32, v36, v37, v46, v9, ha, QB, Q4, Q8, Q15, Q19, Q0, E5, E9, E10, E16, E20, E21, E33, E34⟩ hb_ hon hoff
      refine ⟨_, rfl, fun K hK => ?_⟩
      have e17 : a.tmps[17]? = some (.map (some g)) := by rw [ha]; exact putSel_on (e := (0, 17, .map (some g))) 0 rfl rfl (hon 0 (by kernel_rfl)) rfl
      have e28 : a.tmps[28]? = some (K2 true true) := by rw [ha]; exact (putSel_off rfl).trans rfl
      have e37 : a.tmps[37]? = some (v37) := by rw [ha]; exact putSel_on (e := (21, 37, v37)) 10 rfl rfl (hon 21 (by kernel_rfl)) rfl
      rw [E21 (hon 21 (by kernel_rfl))] at e37
      replace ha := Aside0.mk ha
      have h0 := Q0 (hon 0 (by kernel_rfl))
      have h1 := h0.2
      rw [show b 22 = false from hb_] at h1
      obtain ⟨w1, hrun, hM, hP⟩ := h1.ins22
      refine ins_step (by rfl) rfl _ _ _ rfl (by simp only [Act.eval, Array.getD_eq_getD_getElem?, Option.getD_some, e17]) (by simp only [Act.eval, Array.getD_eq_getD_getElem?, Option.getD_some, e28]) (by simp only [Act.eval, Array.getD_eq_getD_getElem?, Option.getD_some, e37]) hrun ?_
      exact hK.out _ _ ⟨g, v21, v25, v31, v35, v22, v26, v27, v32, v36, v37, v46, v9, (by rw [ha.out]; exact (putSel_same rfl).symm), hP.1 _ _ QB h0.1, fun h => Kd.V_step (Q4 h) (fun k hk _ => hP.2 k (hk.2 (hon 0 (by kernel_rfl)))), fun h => Kd.V_step (Q8 h) (fun k hk _ => hP.2 k (hk.2 (hon 0 (by kernel_rfl)))), fun h => Kd.V_step (Q15 h) (fun k hk _ => hP.2 k (hk.2 (hon 0 (by kernel_rfl)))), fun h => Kd.V_step (Q19 h) (fun k hk _ => hP.2 k (hk.2 (hon 0 (by kernel_rfl)))), fun _ => ⟨h0.1, by rw [show up b 22 22 = true from up_self b 22]; exact hM⟩, E5, E9, E10, E16, E20, E21, E33, E34⟩
    refine steps_cons ?_ ?_
    · rintro b a w' ⟨g, v21, v25, v31, v35, v22, v26, v27, v32, v36, v37, v46, v9, ha, QB, Q4, Q8, Q15, Q19, Q0, E5, E9, E10, E16, E20, E21, E33, E34⟩ hb_ hon hoff
      refine ⟨_, rfl, fun K hK => ?_⟩
      have e17 : a.tmps[17]? = some (.map (some g)) := by rw [ha]; exact putSel_on (e := (0, 17, .map (some g))) 0 rfl rfl (hon 0 (by kernel_rfl)) rfl
      have e38 : a.tmps[38]? = some (K2 false true) := by rw [ha]; exact (putSel_off rfl).trans rfl
      have e41 : a.tmps[41]? = some (.agg #[.int .u8 4, .int .u32 0, (.slice A2 l2.length c2), .int .u8 0, .int .u32 0, .slice none 0 0]) := by rw [ha]; exact (putSel_off rfl).trans rfl
      replace ha := Aside0.mk ha
      have h0 := Q0 (hon 0 (by kernel_rfl))
      have h1 := h0.2
      rw [show b 27 = false from hb_] at h1
      obtain ⟨w1, hrun, hM, hP⟩ := h1.ins27
      refine ins_step (by rfl) rfl _ _ _ rfl (by simp only [Act.eval, Array.getD_eq_getD_getElem?, Option.getD_some, e17]) (by simp only [Act.eval, Array.getD_eq_getD_getElem?, Option.getD_some, e38]) (by simp only [Act.eval, Array.getD_eq_getD_getElem?, Option.getD_some, e41]) hrun ?_
      exact hK.out _ _ ⟨g, v21, v25, v31, v35, v22, v26, v27, v32, v36, v37, v46, v9, (by rw [ha.out]; exact (putSel_same rfl).symm), hP.1 _ _ QB h0.1, fun h => Kd.V_step (Q4 h) (fun k hk _ => hP.2 k (hk.2 (hon 0 (by kernel_rfl)))), fun h => Kd.V_step (Q8 h) (fun k hk _ => hP.2 k (hk.2 (hon 0 (by kernel_rfl)))), fun h => Kd.V_step (Q15 h) (fun k hk _ => hP.2 k (hk.2 (hon 0 (by kernel_rfl)))), fun h => Kd.V_step (Q19 h) (fun k hk _ => hP.2 k (hk.2 (hon 0 (by kernel_rfl)))), fun _ => ⟨h0.1, by rw [show up b 27 27 = true from up_self b 27]; exact hM⟩, E5, E9, E10, E16, E20, E21, E33, E34⟩
    refine steps_cons ?_ ?_
    · rintro b a w' ⟨g, v21, v25, v31, v35, v22, v26, v27, v32, v36, v37, v46, v9, ha, QB, Q4, Q8, Q15, Q19, Q0, E5, E9, E10, E16, E20, E21, E33, E34⟩ hb_ hon hoff
      refine ⟨_, rfl, fun K hK => ?_⟩
      have e17 : a.tmps[17]? = some (.map (some g)) := by rw [ha]; exact putSel_on (e := (0, 17, .map (some g))) 0 rfl rfl (hon 0 (by kernel_rfl)) rfl
      have e42 : a.tmps[42]? = some (K2 true false) := by rw [ha]; exact (putSel_off rfl).trans rfl
      have e45 : a.tmps[45]? = some (.agg #[.int .u8 3, .int .u32 0, (.slice A2 l2.length c2), .int .u8 0, .int .u32 0, .slice none 0 0]) := by rw [ha]; exact (putSel_off rfl).trans rfl
      replace ha := Aside0.mk ha
      have h0 := Q0 (hon 0 (by kernel_rfl))
      have h1 := h0.2
      rw [show b 32 = false from hb_] at h1
      obtain ⟨w1, hrun, hM, hP⟩ := h1.ins32
      refine ins_step (by rfl) rfl _ _ _ rfl (by simp only [Act.eval, Array.getD_eq_getD_getElem?, Option.getD_some, e17]) (by simp only [Act.eval, Array.getD_eq_getD_getElem?, Option.getD_some, e42]) (by simp only [Act.eval, Array.getD_eq_getD_getElem?, Option.getD_some, e45]) hrun ?_
      exact hK.out _ _ ⟨g, v21, v25, v31, v35, v22, v26, v27, v32, v36, v37, v46, v9, (by rw [ha.out]; exact (putSel_same rfl).symm), hP.1 _ _ QB h0.1, fun h => Kd.V_step (Q4 h) (fun k hk _ => hP.2 k (hk.2 (hon 0 (by kernel_rfl)))), fun h => Kd.V_step (Q8 h) (fun k hk _ => hP.2 k (hk.2 (hon 0 (by kernel_rfl)))), fun h => Kd.V_step (Q15 h) (fun k hk _ => hP.2 k (hk.2 (hon 0 (by kernel_rfl)))), fun h => Kd.V_step (Q19 h) (fun k hk _ => hP.2 k (hk.2 (hon 0 (by kernel_rfl)))), fun _ => ⟨h0.1, by rw [show up b 32 32 = true from up_self b 32]; exact hM⟩, E5, E9, E10, E16, E20, E21, E33, E34⟩
    refine steps_cons ?_ ?_
    · rintro b a w' ⟨g, v21, v25, v31, v35, v22, v26, v27, v32, v36, v37, v46, v9, ha, QB, Q4, Q8, Q15, Q19, Q0, E5, E9, E10, E16, E20, E21, E33, E34⟩ hb_ hon hoff
      refine ⟨_, rfl, fun K hK => ?_⟩
      have e17 : a.tmps[17]? = some (.map (some g)) := by rw [ha]; exact putSel_on (e := (0, 17, .map (some g))) 0 rfl rfl (hon 0 (by kernel_rfl)) rfl
      replace ha := Aside0.mk ha
      refine value_ (w1 := w') (v := .map (some g)) (by rfl) rfl ?_ ?_
      · go_simp
        try rfl
      exact hK.out _ _ ⟨g, v21, v25, v31, v35, v22, v26, v27, v32, v36, v37, .map (some g), v9, (by rw [ha.out]; exact putSel_upk 11 hb_ rfl rfl rfl), QB, Q4, Q8, Q15, Q19, Q0, E5, E9, E10, E16, E20, E21, fun _ => rfl, E34⟩
    refine steps_cons ?_ ?_
    · rintro b a w' ⟨g, v21, v25, v31, v35, v22, v26, v27, v32, v36, v37, v46, v9, ha, QB, Q4, Q8, Q15, Q19, Q0, E5, E9, E10, E16, E20, E21, E33, E34⟩ hb_ hon hoff
      refine ⟨_, rfl, fun K hK => ?_⟩
      have e46 : a.tmps[46]? = some (v46) := by rw [ha]; exact putSel_on (e := (33, 46, v46)) 11 rfl rfl (hon 33 (by kernel_rfl)) rfl
      rw [E33 (hon 33 (by kernel_rfl))] at e46
      replace ha := Aside0.mk ha
      refine value_ (w1 := w') (v := .map (some g)) (by rfl) rfl ?_ ?_
      · go_simp
        try rfl
      exact hK.out _ _ ⟨g, v21, v25, v31, v35, v22, v26, v27, v32, v36, v37, v46, .map (some g), (by rw [ha.out]; exact putSel_upk 12 hb_ rfl rfl rfl), QB, Q4, Q8, Q15, Q19, Q0, E5, E9, E10, E16, E20, E21, E33, fun _ => rfl⟩
    exact steps_nil
  rintro b a w9 hall ⟨g, v21, v25, v31, v35, v22, v26, v27, v32, v36, v37, v46, v9, ha, QB, Q4, Q8, Q15, Q19, Q0, E5, E9, E10, E16, E20, E21, E33, E34⟩
  have hb0_ := hall 0 (by kernel_rfl)
  have hb4_ := hall 4 (by kernel_rfl)
  have hb5_ := hall 5 (by kernel_rfl)
  have hb8_ := hall 8 (by kernel_rfl)
  have hb9_ := hall 9 (by kernel_rfl)
  have hb10_ := hall 10 (by kernel_rfl)
  have hb11_ := hall 11 (by kernel_rfl)
  have hb15_ := hall 15 (by kernel_rfl)
  have hb16_ := hall 16 (by kernel_rfl)
  have hb19_ := hall 19 (by kernel_rfl)
  have hb20_ := hall 20 (by kernel_rfl)
  have hb21_ := hall 21 (by kernel_rfl)
  have hb22_ := hall 22 (by kernel_rfl)
  have hb27_ := hall 27 (by kernel_rfl)
  have hb32_ := hall 32 (by kernel_rfl)
  have hb33_ := hall 33 (by kernel_rfl)
  have hb34_ := hall 34 (by kernel_rfl)
  subst ha
  simp only [putSel, hb0_, hb4_, hb5_, hb8_, hb9_, hb10_, hb15_, hb16_, hb19_, hb20_, hb21_, hb33_, hb34_, if_true, Act.put, List.setIfInBounds_toArray, List.set_cons_zero, List.set_cons_succ]
  have hM := (Q0 hb0_).2
  rw [hb11_, hb22_, hb27_, hb32_] at hM
  have HM := Aside0.mk hM
  obtain rfl := E34 hb34_
  have HV21 := Aside0.mk (Kd.V_bound (Kd.V_mono (Q4 hb4_) (fun k hk => .inr (Nat.le_trans HB.out.size hk.1) : ∀ k, _ → (P2_ k ∨ w.heap.size ≤ k))))
  have HV25 := Aside0.mk (Kd.V_bound (Kd.V_mono (Q8 hb8_) (fun k hk => .inr (Nat.le_trans HB.out.size hk.1) : ∀ k, _ → (P2_ k ∨ w.heap.size ≤ k))))
  have HV31 := Aside0.mk (Kd.V_bound (Kd.V_mono (Q15 hb15_) (fun k hk => .inr (Nat.le_trans HB.out.size hk.1) : ∀ k, _ → (P2_ k ∨ w.heap.size ≤ k))))
  have HV35 := Aside0.mk (Kd.V_bound (Kd.V_mono (Q19 hb19_) (fun k hk => .inr (Nat.le_trans HB.out.size hk.1) : ∀ k, _ → (P2_ k ∨ w.heap.size ≤ k))))
  have HV2 := Aside0.mk (Kd.V_bound (Kd.V_mono (Kd.V_below HVB.out QB) (fun k hk => .inl hk.1 : ∀ k, _ → (P2_ k ∨ w.heap.size ≤ k))))
  have hB := QB
  clear hHeld HT_ HW_ Q0 Q4 Q8 Q15 Q19 hM hb0_ hb4_ hb5_ hb8_ hb9_ hb10_ hb11_ hb15_ hb16_ hb19_ hb20_ hb21_ hb22_ hb27_ hb32_ hb33_ hb34_ hall E5 E9 E10 E16 E20 E21 E33 HVB HCa_V HCb_V QB
  replace HB := mvH HB hB
  clear hc_gw_0 hf_gw_0 hc_gw_1 hf_gw_1
  replace BK_gw := mvB BK_gw hB
  obtain ⟨hc_gw_0, hc_gw_1, hf_gw_0, hf_gw_1⟩ := cf2 BK_gw.out
  clear hc_gi_0 hf_gi_0 hc_gi_1 hf_gi_1
  replace BK_gi := mvB BK_gi hB
  obtain ⟨hc_gi_0, hc_gi_1, hf_gi_0, hf_gi_1⟩ := cf2 BK_gi.out
  clear hB
  obtain ⟨y0, v0, y1, v1, s0, t0, hx, hv0, hv1, hres⟩ : ∃ (y0 : Int) (v0 : Value) (y1 : Int) (v1 : Value) (s0 t0 : List Int), vsel p q (.agg #[.int .u8 5, .int .u32 0, v21, .int .u8 6, .int .u32 0, v25]) (.agg #[.int .u8 5, .int .u32 0, v31, .int .u8 6, .int .u32 0, v35]) (.agg #[.int .u8 4, .int .u32 0, (.slice A2 l2.length c2), .int .u8 0, .int .u32 0, .slice none 0 0]) (.agg #[.int .u8 3, .int .u32 0, (.slice A2 l2.length c2), .int .u8 0, .int .u32 0, .slice none 0 0]) = .agg #[.int .u8 y0, .int .u32 0, v0, .int .u8 y1, .int .u32 0, v1] ∧ Kd.V (Kd.int .u32) 23 w9 0 (fun k => (P2_ k ∨ w.heap.size ≤ k) ∧ k < w9.heap.size) v0 s0 ∧ Kd.V (Kd.int .u32) 23 w9 0 (fun k => (P2_ k ∨ w.heap.size ≤ k) ∧ k < w9.heap.size) v1 t0 ∧ hc_keep a0 y0 s0 ++ hc_keep a0 y1 t0 = r := by
    cases p <;> cases q
    · exact ⟨_, _, _, _, _, _, rfl, HV21.out, HV25.out, HRES.out⟩
    · exact ⟨_, _, _, _, _, _, rfl, HV2.out, Kd.V_nil _ _ _ _ _, HRES.out⟩
    · exact ⟨_, _, _, _, _, _, rfl, HV2.out, Kd.V_nil _ _ _ _ _, HRES.out⟩
    · exact ⟨_, _, _, _, _, _, rfl, HV31.out, HV35.out, HRES.out⟩
  obtain ⟨A_0, c_0, rfl⟩ := Kd.V_slice hv0
  obtain ⟨A_1, c_1, rfl⟩ := Kd.V_slice hv1
  have HV0 := Aside0.mk hv0
  have HV1 := Aside0.mk hv1
  have HX := Aside0.mk hx
  have HR := Aside0.mk hres
  clear hv0 hv1 hx hres HV21 HV25 HV31 HV35 HV2 HRES HV_b HC_a HK_a HC_b HK_b
  go_wp2_with (first | ((with_reducible refine gate_dst (N := 53) rfl ?_); refine look_ rfl (.tmp 47) (.tmp 52) rfl HM.out HX.out rfl rfl ?_))
  clear hc_gw_0 hf_gw_0 hc_gw_1 hf_gw_1
  clear hc_gi_0 hf_gi_0 hc_gi_1 hf_gi_1
  have HB9 := Aside0.mk (Below.refl w9.heap.size w9)
  have HBW := HB
  clear HB HM HX
  try clear BK_gw BK_gi
  go_loopg [10, 54] 2 (fun gk v10 v54 w' => ∃ i : Int, v54 = .int .i64 i ∧ Aside0 (0 ≤ i ∧ i ≤ 2 ∧ gk = (2 - i).toNat) ∧ Aside0 (Kd.N k36 36 w' w9.heap.size (fun k => P2_ k ∨ w.heap.size ≤ k) v10 (hc_acc a0 y0 s0 y1 t0 i)) ∧ Aside0 (Below w9.heap.size w9 w'))
  case atStart => exact ⟨0, rfl, ⟨by omega, by omega, rfl⟩, ⟨Kd.N_nil _ _ _ _ _⟩, HB9⟩
  case round =>
    clear HB9
    obtain ⟨i, rfl, HI, HN, HB⟩ := hrel
    obtain ⟨hi0, hi2, hgk⟩ := HI.out
    clear HI
    have hcs : i = 0 ∨ i = 1 ∨ i = 2 := by omega
    clear hi0 hi2
    rcases hcs with rfl | rfl | rfl
    · have nN := Aside0.mk (Kd.N_bound HN.out)
      clear HN
      have HN := nN
      clear nN
      have HBo := Aside0.mk HB.out
      go_upto_region 7 with (first | ((with_reducible refine gate_dst (N := 56) rfl ?_); refine idx_ rfl (.tmp 53) (.tmp 54) rfl rfl rfl (run_idx0 _ _ _ _ _ _ _) ?_) | ((with_reducible refine gate_dst (N := 12) rfl ?_); refine bxn (cs := #[.int .u8 0, .int .u32 0, .slice none 0 0]) (t := 36) ?_; intro gr hg wr1 hbox hb0; have hG := Aside0.mk (show wr.heap.size ≤ gr from Nat.le_of_eq hg.symm); clear hg; have hBX := Aside0.mk hbox; have hB1 := Aside0.mk hb0; clear hb0; obtain ⟨hc_gr_0, hc_gr_1, hc_gr_2, hf_gr_0, hf_gr_1, hf_gr_2⟩ := cf3 hbox; clear hbox))
      have hB : Below wr.heap.size wr (((wr1.setCell ⟨gr, 0, none⟩ (.int .u8 y0)).setCell ⟨gr, 1, none⟩ (.int .u32 0)).setCell ⟨gr, 2, none⟩ (.slice A_0 s0.length c_0)) := below_set (below_set (below_set hB1.out hG.out) hG.out) hG.out
      have hBN : (((wr1.setCell ⟨gr, 0, none⟩ (.int .u8 y0)).setCell ⟨gr, 1, none⟩ (.int .u32 0)).setCell ⟨gr, 2, none⟩ (.slice A_0 s0.length c_0)).heap[gr]? = some (.cells #[.int .u8 y0, .int .u32 0, .slice A_0 s0.length c_0] 36 (0, 0)) := blk_put (cs := #[.int .u8 y0, .int .u32 0, .slice none 0 0]) (blk_put (cs := #[.int .u8 y0, .int .u32 0, .slice none 0 0]) (blk_put (cs := #[.int .u8 0, .int .u32 0, .slice none 0 0]) hBX.out 0 (.int .u8 y0) rfl) 1 (.int .u32 0) rfl) 2 (.slice A_0 s0.length c_0) rfl
      clear hBX hB1 hc_gr_0 hf_gr_0 hc_gr_1 hf_gr_1 hc_gr_2 hf_gr_2
      generalize (((wr1.setCell ⟨gr, 0, none⟩ (.int .u8 y0)).setCell ⟨gr, 1, none⟩ (.int .u32 0)).setCell ⟨gr, 2, none⟩ (.slice A_0 s0.length c_0)) = wr2 at hB hBN ⊢
      replace HB := mvH HB hB
      have nN := Aside0.mk (Kd.N_below HN.out hB)
      clear HN
      have HN := nN
      clear nN
      have BK_gr := Aside0.mk hBN
      clear hB hBN
      obtain ⟨hc_gr_0, hc_gr_1, hc_gr_2, hf_gr_0, hf_gr_1, hf_gr_2⟩ := cf3 BK_gr.out
      go_upto_region 8 with fail
      have nB : Aside0 (Below w9.heap.size w9 (wr2.setCell ⟨gr, 1, none⟩ (.int .u32 a0))) := ⟨below_set HB.out (Nat.le_trans HBo.out.size hG.out)⟩
      have nK : Aside0 ((wr2.setCell ⟨gr, 1, none⟩ (.int .u32 a0)).heap[gr]? = some (.cells #[.int .u8 y0, .int .u32 a0, .slice A_0 s0.length c_0] 36 (0, 0))) := ⟨blk_put (cs := #[.int .u8 y0, .int .u32 0, .slice A_0 s0.length c_0]) BK_gr.out 1 (.int .u32 a0) rfl⟩
      have nN : Aside0 (Kd.N k36 36 (wr2.setCell ⟨gr, 1, none⟩ (.int .u32 a0)) w9.heap.size (fun k => P2_ k ∨ w.heap.size ≤ k) u10 (hc_acc a0 y0 s0 y1 t0 0)) := ⟨Kd.N_mono (Kd.N_far (p := ⟨gr, 1, none⟩) HN.out (fun k hk e => by have h1 := hk.2; have h2 := hG.out; have h3 : k = gr := e; omega) _) (fun k hk => hk.1)⟩
      clear hc_gr_0 hf_gr_0 hc_gr_1 hf_gr_1 hc_gr_2 hf_gr_2
      clear HB BK_gr HN
      generalize (wr2.setCell ⟨gr, 1, none⟩ (.int .u32 a0)) = wr3 at nB nK nN ⊢
      have HB := nB
      have BK_gr := nK
      have HN := nN
      clear nB nK nN hG HBo
      obtain ⟨hc_gr_0, hc_gr_1, hc_gr_2, hf_gr_0, hf_gr_1, hf_gr_2⟩ := cf3 BK_gr.out
      go_cut [72] (fun v72 wc => v72 = .bool (y0 == 4 || y0 == 3 || decide (0 < s0.length)) ∧ Aside0 (wc.heap[gr]? = some (.cells #[.int .u8 y0, .int .u32 a0, .slice A_0 s0.length c_0] 36 (0, 0))) ∧ Aside0 (Kd.N k36 36 wc w9.heap.size (fun k => P2_ k ∨ w.heap.size ≤ k) u10 (hc_acc a0 y0 s0 y1 t0 0)) ∧ Aside0 (Below w9.heap.size w9 wc))
      case first =>
        cases h4 : (y0 == 4)
        case true =>
          go_wp2
          go_meet
          case rel => exact ⟨by rw [h4]; rfl, BK_gr, HN, HB⟩
        case false =>
          cases h3 : (y0 == 3)
          case true =>
            go_wp2
            go_meet
            case rel => exact ⟨by rw [h4, h3]; rfl, BK_gr, HN, HB⟩
          case false =>
            cases h0 : decide (0 < s0.length)
            case true =>
              have h1 : decide ((s0.length : Int) > 0) = true := decide_eq_true (by have := of_decide_eq_true h0; omega)
              have h2 : 0 < s0.length := of_decide_eq_true h0
              go_wp2
              go_meet
              case rel => exact ⟨by rw [h4, h3, h0]; rfl, BK_gr, HN, HB⟩
            case false =>
              have h1 : decide ((s0.length : Int) > 0) = false := decide_eq_false (by have := of_decide_eq_false h0; omega)
              have h2 : s0.length = 0 := by have := of_decide_eq_false h0; omega
              go_wp2
              go_meet
              case rel => exact ⟨by rw [h4, h3, h0]; rfl, BK_gr, HN, HB⟩
      case rest =>
        clear hc_gr_0 hf_gr_0 hc_gr_1 hf_gr_1 hc_gr_2 hf_gr_2
        clear HB BK_gr HN
        obtain ⟨rfl, BK_gr, HN, HB⟩ := hcut
        obtain ⟨hc_gr_0, hc_gr_1, hc_gr_2, hf_gr_0, hf_gr_1, hf_gr_2⟩ := cf3 BK_gr.out
        cases hkb : (y0 == 4 || y0 == 3 || decide (0 < s0.length))
        case false =>
          go_wp2
          go_roundg 1
          case measure => omega
          case rel => exact ⟨1, rfl, ⟨by omega, by omega, by omega⟩, ⟨by rw [hc_acc1, hc_keep, hkb, if_neg Bool.false_ne_true, List.append_nil]; exact HN.out⟩, HB⟩
        case true =>
          go_wp2_with (first | ((with_reducible refine gate_builtin (b := .append) (xs := #[.tmp 73, .tmp 75]) rfl ?_); at_builtin; refine Kd.N_append k36 (w0 := w9) w9.heap.size rfl (.tmp 73) (.tmp 75) 31 36 (.agg #[.int .u8 0, .int .u32 0, .slice none 0 0]) 32 rfl Try.underlying31 info36_ rfl (by decide) (by decide) u10 (hc_acc a0 y0 s0 y1 t0 0) (⟨y0, a0, s0⟩ : S36) [.int .u8 y0, .int .u32 a0, .slice A_0 s0.length c_0] (fun k => P2_ k ∨ w.heap.size ≤ k) (fun k => (P2_ k ∨ w.heap.size ≤ k) ∧ k < w9.heap.size) rfl rfl (k36_mkF _ _ (⟨y0, a0, s0⟩ : S36) (Kd.V_reads' HV0.out).2.1 (Kd.V_F (Kd.V_below HV0.out HB.out))) (fun k hk => ⟨hk.1, fun e => by have h1 := Kd.N_base HN.out k e.symm; have h2 := hk.2; omega⟩) (fun k hk => .inr (by have := HBW.out.size; have := HB.out.size; omega)) HN.out HB.out HB.out.size (by have := hc_acc_len a0 y0 s0 y1 t0 0; omega) ?_; intro v_m wm hN hB _ _; clear HN HB; have HN := Aside0.mk hN; have HB := Aside0.mk hB; clear hN hB; clear hc_gr_0 hf_gr_0 hc_gr_1 hf_gr_1 hc_gr_2 hf_gr_2; clear BK_gr))
          go_roundg 1
          case measure => omega
          case rel => exact ⟨1, rfl, ⟨by omega, by omega, by omega⟩, ⟨by rw [hc_acc1, hc_keep, hkb, if_pos rfl]; exact HN.out⟩, HB⟩
    · have nN := Aside0.mk (Kd.N_bound HN.out)
      clear HN
      have HN := nN
      clear nN
      have HBo := Aside0.mk HB.out
      go_upto_region 7 with (first | ((with_reducible refine gate_dst (N := 56) rfl ?_); refine idx_ rfl (.tmp 53) (.tmp 54) rfl rfl rfl (run_idx1 _ _ _ _ _ _ _) ?_) | ((with_reducible refine gate_dst (N := 12) rfl ?_); refine bxn (cs := #[.int .u8 0, .int .u32 0, .slice none 0 0]) (t := 36) ?_; intro gr hg wr1 hbox hb0; have hG := Aside0.mk (show wr.heap.size ≤ gr from Nat.le_of_eq hg.symm); clear hg; have hBX := Aside0.mk hbox; have hB1 := Aside0.mk hb0; clear hb0; obtain ⟨hc_gr_0, hc_gr_1, hc_gr_2, hf_gr_0, hf_gr_1, hf_gr_2⟩ := cf3 hbox; clear hbox))
      have hB : Below wr.heap.size wr (((wr1.setCell ⟨gr, 0, none⟩ (.int .u8 y1)).setCell ⟨gr, 1, none⟩ (.int .u32 0)).setCell ⟨gr, 2, none⟩ (.slice A_1 t0.length c_1)) := below_set (below_set (below_set hB1.out hG.out) hG.out) hG.out
      have hBN : (((wr1.setCell ⟨gr, 0, none⟩ (.int .u8 y1)).setCell ⟨gr, 1, none⟩ (.int .u32 0)).setCell ⟨gr, 2, none⟩ (.slice A_1 t0.length c_1)).heap[gr]? = some (.cells #[.int .u8 y1, .int .u32 0, .slice A_1 t0.length c_1] 36 (0, 0)) := blk_put (cs := #[.int .u8 y1, .int .u32 0, .slice none 0 0]) (blk_put (cs := #[.int .u8 y1, .int .u32 0, .slice none 0 0]) (blk_put (cs := #[.int .u8 0, .int .u32 0, .slice none 0 0]) hBX.out 0 (.int .u8 y1) rfl) 1 (.int .u32 0) rfl) 2 (.slice A_1 t0.length c_1) rfl
      clear hBX hB1 hc_gr_0 hf_gr_0 hc_gr_1 hf_gr_1 hc_gr_2 hf_gr_2
      generalize (((wr1.setCell ⟨gr, 0, none⟩ (.int .u8 y1)).setCell ⟨gr, 1, none⟩ (.int .u32 0)).setCell ⟨gr, 2, none⟩ (.slice A_1 t0.length c_1)) = wr2 at hB hBN ⊢
      replace HB := mvH HB hB
      have nN := Aside0.mk (Kd.N_below HN.out hB)
      clear HN
      have HN := nN
      clear nN
      have BK_gr := Aside0.mk hBN
      clear hB hBN
      obtain ⟨hc_gr_0, hc_gr_1, hc_gr_2, hf_gr_0, hf_gr_1, hf_gr_2⟩ := cf3 BK_gr.out
      go_upto_region 8 with fail
      have nB : Aside0 (Below w9.heap.size w9 (wr2.setCell ⟨gr, 1, none⟩ (.int .u32 a0))) := ⟨below_set HB.out (Nat.le_trans HBo.out.size hG.out)⟩
      have nK : Aside0 ((wr2.setCell ⟨gr, 1, none⟩ (.int .u32 a0)).heap[gr]? = some (.cells #[.int .u8 y1, .int .u32 a0, .slice A_1 t0.length c_1] 36 (0, 0))) := ⟨blk_put (cs := #[.int .u8 y1, .int .u32 0, .slice A_1 t0.length c_1]) BK_gr.out 1 (.int .u32 a0) rfl⟩
      have nN : Aside0 (Kd.N k36 36 (wr2.setCell ⟨gr, 1, none⟩ (.int .u32 a0)) w9.heap.size (fun k => P2_ k ∨ w.heap.size ≤ k) u10 (hc_acc a0 y0 s0 y1 t0 1)) := ⟨Kd.N_mono (Kd.N_far (p := ⟨gr, 1, none⟩) HN.out (fun k hk e => by have h1 := hk.2; have h2 := hG.out; have h3 : k = gr := e; omega) _) (fun k hk => hk.1)⟩
      clear hc_gr_0 hf_gr_0 hc_gr_1 hf_gr_1 hc_gr_2 hf_gr_2
      clear HB BK_gr HN
      generalize (wr2.setCell ⟨gr, 1, none⟩ (.int .u32 a0)) = wr3 at nB nK nN ⊢
      have HB := nB
      have BK_gr := nK
      have HN := nN
      clear nB nK nN hG HBo
      obtain ⟨hc_gr_0, hc_gr_1, hc_gr_2, hf_gr_0, hf_gr_1, hf_gr_2⟩ := cf3 BK_gr.out
      go_cut [72] (fun v72 wc => v72 = .bool (y1 == 4 || y1 == 3 || decide (0 < t0.length)) ∧ Aside0 (wc.heap[gr]? = some (.cells #[.int .u8 y1, .int .u32 a0, .slice A_1 t0.length c_1] 36 (0, 0))) ∧ Aside0 (Kd.N k36 36 wc w9.heap.size (fun k => P2_ k ∨ w.heap.size ≤ k) u10 (hc_acc a0 y0 s0 y1 t0 1)) ∧ Aside0 (Below w9.heap.size w9 wc))
      case first =>
        cases h4 : (y1 == 4)
        case true =>
          go_wp2
          go_meet
          case rel => exact ⟨by rw [h4]; rfl, BK_gr, HN, HB⟩
        case false =>
          cases h3 : (y1 == 3)
          case true =>
            go_wp2
            go_meet
            case rel => exact ⟨by rw [h4, h3]; rfl, BK_gr, HN, HB⟩
          case false =>
            cases h0 : decide (0 < t0.length)
            case true =>
              have h1 : decide ((t0.length : Int) > 0) = true := decide_eq_true (by have := of_decide_eq_true h0; omega)
              have h2 : 0 < t0.length := of_decide_eq_true h0
              go_wp2
              go_meet
              case rel => exact ⟨by rw [h4, h3, h0]; rfl, BK_gr, HN, HB⟩
            case false =>
              have h1 : decide ((t0.length : Int) > 0) = false := decide_eq_false (by have := of_decide_eq_false h0; omega)
              have h2 : t0.length = 0 := by have := of_decide_eq_false h0; omega
              go_wp2
              go_meet
              case rel => exact ⟨by rw [h4, h3, h0]; rfl, BK_gr, HN, HB⟩
      case rest =>
        clear hc_gr_0 hf_gr_0 hc_gr_1 hf_gr_1 hc_gr_2 hf_gr_2
        clear HB BK_gr HN
        obtain ⟨rfl, BK_gr, HN, HB⟩ := hcut
        obtain ⟨hc_gr_0, hc_gr_1, hc_gr_2, hf_gr_0, hf_gr_1, hf_gr_2⟩ := cf3 BK_gr.out
        cases hkb : (y1 == 4 || y1 == 3 || decide (0 < t0.length))
        case false =>
          go_wp2
          go_roundg 0
          case measure => omega
          case rel => exact ⟨2, rfl, ⟨by omega, by omega, by omega⟩, ⟨by rw [hc_acc2, hc_keep, hkb, if_neg Bool.false_ne_true, List.append_nil]; exact HN.out⟩, HB⟩
        case true =>
          go_wp2_with (first | ((with_reducible refine gate_builtin (b := .append) (xs := #[.tmp 73, .tmp 75]) rfl ?_); at_builtin; refine Kd.N_append k36 (w0 := w9) w9.heap.size rfl (.tmp 73) (.tmp 75) 31 36 (.agg #[.int .u8 0, .int .u32 0, .slice none 0 0]) 32 rfl Try.underlying31 info36_ rfl (by decide) (by decide) u10 (hc_acc a0 y0 s0 y1 t0 1) (⟨y1, a0, t0⟩ : S36) [.int .u8 y1, .int .u32 a0, .slice A_1 t0.length c_1] (fun k => P2_ k ∨ w.heap.size ≤ k) (fun k => (P2_ k ∨ w.heap.size ≤ k) ∧ k < w9.heap.size) rfl rfl (k36_mkF _ _ (⟨y1, a0, t0⟩ : S36) (Kd.V_reads' HV1.out).2.1 (Kd.V_F (Kd.V_below HV1.out HB.out))) (fun k hk => ⟨hk.1, fun e => by have h1 := Kd.N_base HN.out k e.symm; have h2 := hk.2; omega⟩) (fun k hk => .inr (by have := HBW.out.size; have := HB.out.size; omega)) HN.out HB.out HB.out.size (by have := hc_acc_len a0 y0 s0 y1 t0 1; omega) ?_; intro v_m wm hN hB _ _; clear HN HB; have HN := Aside0.mk hN; have HB := Aside0.mk hB; clear hN hB; clear hc_gr_0 hf_gr_0 hc_gr_1 hf_gr_1 hc_gr_2 hf_gr_2; clear BK_gr))
          go_roundg 0
          case measure => omega
          case rel => exact ⟨2, rfl, ⟨by omega, by omega, by omega⟩, ⟨by rw [hc_acc2, hc_keep, hkb, if_pos rfl]; exact HN.out⟩, HB⟩
    · go_wp2
      go_ret
      exact ⟨_, rfl, Kd.V_mono (Kd.N_V (by have h := HN.out; rw [hc_acc_2, HR.out] at h; exact h)) (fun k hk => hk), HBW.out.trans (HB.out.mono HBW.out.size)⟩
end Go.Proofs.Ytjncmiclpaodhaa
