/-
  slices.DeleteFunc over held sources; memb.work.only.
-/
import Derived.Test.YtbllchfgjginoaaSoJ
import Derived.Test.YtbllchfgjginoaaMeK
import Derived.Test.YtbllchfgjginoaaMeJ
namespace Go.Proofs.Ytbllchfgjginoaa
open Go.RowKit Go.Lib Go.Proofs.YtbllchfgjginoaaW.PrintWords Go.Proofs.YtbllchfgjginoaaW.PrintLast Go.Proofs.YtbllchfgjginoaaW.PrintMore Go.Proofs.Ytbllchfgjginoaa.PMe
set_option linter.unusedVariables false
set_option linter.unusedSimpArgs false
set_option maxHeartbeats 8000000 in
set_option maxRecDepth 100000 in
theorem only1_w {gl : Nat} {l : List Int} {a t : Int} {b : Bool} (hb : decide (a ∈ l) = b) (hr : Rise l) (hn : l.length ≤ 1000000) (A : Option Addr) (c : Nat) (w : World) (hl : Kd.C (Kd.int .u32) w A l.length l) (hc : l.length ≤ c) (hg : w.heap[gl]? = some (.cells #[.slice A l.length c] 29 (0, 0))) :
    Calls Try.prog 73 #[.agg #[.int .u32 a, .int .i64 t], .pointer (some ⟨gl, 0, none⟩)] w fun e w' => e = .returned (.bool (!b)) ∧ Below w.heap.size w w' := by
  have hu49 := Try.underlying49
  have HB := Aside0.mk (Below.refl w.heap.size w)
  have hgl := Aside0.mk hg
  have HC_l := Aside0.mk hl
  have HK_l := Aside0.mk hc
  have XH := Aside0.mk (has_some l (by omega) a hr 1000001 (by omega))
  rw [hb] at XH
  clear hl hc hg hr hn hb
  go_enter Try.func73, Try.ntmps73
  go_wp2_with (first | ((with_reducible refine gate_dst (N := 2) rfl ?_); (try (refine gate_guard (by rfl) ?_; dsimp only)); refine bxn (cs := #[.int .u32 a, .int .i64 t]) (t := 49) ?_; intro gx hg w1_ hbox hB; have HBo := Aside0.mk HB.out; replace HB := mvH HB hB; have BK_gx := Aside0.mk hbox; have GE_gx := Aside0.mk (show w.heap.size ≤ gx by rw [hg]; exact HBo.out.size); clear hg hbox hB; obtain ⟨hc_gx_0, hc_gx_1, hf_gx_0, hf_gx_1⟩ := cf2 BK_gx.out; clear HBo; have hc_gl_0 : w1_.cell? ⟨gl, 0, none⟩ = some (.slice A l.length c) := (blk_cell (blk_below hgl.out HB.out) 0).trans rfl; have hf_gl_0 := blk_frozen (blk_below hgl.out HB.out) 0) | (go_at_call 57; (with_reducible refine (set_Has.calls 1000001 _ _ l a b _ (Kd.C_below HC_l.out HB.out) HK_l.out XH.out).mono ?_); rintro e w9 ⟨rfl, hD⟩; have HD := Aside0.mk hD; clear hD))
  go_ret
  exact ⟨rfl, by obtain ⟨n_, hn_⟩ := HD.out; rw [hn_]; exact HB.out.trans (pw_below_drewN (Below.refl _ _) n_)⟩
def onlyS (xs : List S49) (l : List Int) : List S49 := xs.filter fun x => decide (x.f0 ∈ l)
/-- Where the first one stands that does not stay. -/
def outS (xs : List S49) (l : List Int) : Nat := (xs.takeWhile fun x => decide (x.f0 ∈ l)).length
theorem outS_le (xs : List S49) (l : List Int) : outS xs l ≤ xs.length := by unfold outS; exact (List.takeWhile_prefix _).length_le
theorem outS_lt {l : List Int} : ∀ {xs : List S49} {k : Nat}, k < outS xs l → (rd_T49 xs k).f0 ∈ l
  | [], k, h => by simp [outS] at h
  | x :: xs, k, h => by
    unfold outS at h
    rw [List.takeWhile_cons] at h
    by_cases c : x.f0 ∈ l
    · rw [if_pos (decide_eq_true c)] at h
      cases k with
      | zero => exact c
      | succ k =>
        have h2 : k < outS xs l := by unfold outS; simp only [List.length_cons] at h; omega
        have := outS_lt h2
        rw [rd49 xs k (Nat.lt_of_lt_of_le h2 (outS_le xs l))] at this
        rw [rd49 (x :: xs) (k + 1) (by have := outS_le xs l; simp only [List.length_cons]; omega)]
        exact this
    · rw [if_neg (by simpa using c)] at h
      simp at h
theorem outS_at {l : List Int} : ∀ {xs : List S49}, outS xs l < xs.length → (rd_T49 xs (outS xs l)).f0 ∉ l
  | [], h => by simp at h
  | x :: xs, h => by
    by_cases c : x.f0 ∈ l
    · have e : outS (x :: xs) l = outS xs l + 1 := by unfold outS; rw [List.takeWhile_cons, if_pos (decide_eq_true c)]; rfl
      rw [e, List.length_cons] at h
      have h2 := outS_at (xs := xs) (l := l) (by omega)
      rw [e, rd49 (x :: xs) (outS xs l + 1) (by simp only [List.length_cons]; omega)]
      rw [rd49 xs (outS xs l) (by omega)] at h2
      exact h2
    · have e : outS (x :: xs) l = 0 := by unfold outS; rw [List.takeWhile_cons, if_neg (by simpa using c)]; rfl
      rw [e]
      exact c
theorem outS_uniq {xs : List S49} {l : List Int} {i : Nat} (h1 : ∀ k : Nat, k < i → (rd_T49 xs k).f0 ∈ l) (h2 : i < xs.length → (rd_T49 xs i).f0 ∉ l) (hi : i ≤ xs.length) : outS xs l = i := by
  rcases Nat.lt_trichotomy (outS xs l) i with h | h | h
  · exact absurd (h1 _ h) (outS_at (by omega))
  · exact h
  · exact absurd (outS_lt h) (h2 (by have := outS_le xs l; omega))
set_option maxHeartbeats 8000000 in
set_option maxRecDepth 100000 in
theorem index_w {gl : Nat} {l : List Int} {xs : List S49} {r : Int} (hq : (if outS xs l < xs.length then (outS xs l : Int) else -1) = r) (hr : Rise l) (hn : l.length ≤ 1000000) (hm : xs.length ≤ 1000000) (A : Option Addr) (c : Nat) (B : Option Addr) (d : Nat) (w : World) (hx : Kd.C k49 w B xs.length xs) (hl : Kd.C (Kd.int .u32) w A l.length l) (hc : l.length ≤ c) (hg : w.heap[gl]? = some (.cells #[.slice A l.length c] 29 (0, 0))) :
    Calls Try.prog 80 #[.slice B xs.length d, .func (.func 73) #[] #[.pointer (some ⟨gl, 0, none⟩)]] w fun e w' => e = .returned (.int .i64 r) ∧ Below w.heap.size w w' := by
  have hu49 := Try.underlying49
  have HB := Aside0.mk (Below.refl w.heap.size w)
  have HG := Aside0.mk hg
  have HC_l := Aside0.mk hl
  have HK_l := Aside0.mk hc
  have HC_x := Aside0.mk hx
  have XQ := Aside0.mk hq
  have XR := Aside0.mk hr
  have XN := Aside0.mk hn
  have XM := Aside0.mk hm
  clear hl hc hg hr hn hm hx hq
  go_enter Try.func80, Try.ntmps80
  go_wp2
  go_loopg [8] xs.length (fun gk v8 w' => ∃ i : Nat, v8 = .int .i64 (i : Int) ∧ Aside0 (i ≤ xs.length ∧ gk = xs.length - i) ∧ Aside0 (∀ k : Nat, k < i → (rd_T49 xs k).f0 ∈ l) ∧ Aside0 (Below w.heap.size w w'))
  case atStart => exact ⟨0, rfl, ⟨Nat.zero_le _, by omega⟩, ⟨fun k hk => absurd hk (by omega)⟩, HB⟩
  case round =>
    clear HB
    obtain ⟨i, rfl, HI, HIN, HB⟩ := hrel
    obtain ⟨hi, hgk⟩ := HI.out
    by_cases hlt : i < xs.length
    · have c9 : decide ((i : Int) < (xs.length : Int)) = true := decide_eq_true (by omega)
      have p1 : (0 : Int) ≤ (i : Int) := by omega
      have p2 : (i : Int) < (xs.length : Int) := by omega
      obtain ⟨ad, he, hx0, hx1⟩ := at_T49 (Kd.C_below HC_x.out HB.out) (i : Int) p1 p2
      subst he
      rw [Int.toNat_natCast] at hx0 hx1
      obtain ⟨x, hx⟩ : ∃ x, x = rd_T49 xs (i : Int) := ⟨_, rfl⟩
      rw [← hx] at hx0 hx1
      have HX := Aside0.mk hx
      clear hx
      replace p1 := eq_true p1
      replace p2 := eq_true p2
      obtain ⟨b, hb⟩ : ∃ b, decide (x.f0 ∈ l) = b := ⟨_, rfl⟩
      have XBB := Aside0.mk hb
      clear hb
      cases b with
      | true =>
        go_wp2_with (first | (go_at_call 73; (with_reducible refine (only1_w XBB.out XR.out XN.out A c _ (Kd.C_below HC_l.out HB.out) HK_l.out (blk_below HG.out HB.out)).mono ?_); rintro e wx ⟨rfl, hB⟩; have nB := mvH HB hB; clear HB hx0 hx1 hB; have HB := nB; clear nB))
        go_roundg (xs.length - (i + 1))
        case measure => omega
        case rel =>
          refine ⟨i + 1, ?_, ⟨by omega, rfl⟩, ⟨fun k hk => ?_⟩, HB⟩
          · show Value.int .i64 (wrap64 ((i : Int) + 1)) = _
            have h1 := XM.out
            have h2 : wrap64 ((i : Int) + 1) = ((i + 1 : Nat) : Int) := by unfold wrap64; omega
            rw [h2]
          · rcases Nat.lt_or_ge k i with h | h
            · exact HIN.out k h
            · obtain rfl : k = i := by omega
              rw [← HX.out]
              exact of_decide_eq_true XBB.out
      | false =>
        have HOUT := Aside0.mk (outS_uniq HIN.out (fun _ => by rw [← HX.out]; exact of_decide_eq_false XBB.out) (Nat.le_of_lt hlt))
        have HLT := Aside0.mk hlt
        go_wp2_with (first | (go_at_call 73; (with_reducible refine (only1_w XBB.out XR.out XN.out A c _ (Kd.C_below HC_l.out HB.out) HK_l.out (blk_below HG.out HB.out)).mono ?_); rintro e wx ⟨rfl, hB⟩; have nB := mvH HB hB; clear HB hx0 hx1 hB; have HB := nB; clear nB))
        go_ret
        have hrr : r = (i : Int) := by rw [← XQ.out, HOUT.out, if_pos HLT.out]
        exact ⟨by rw [hrr]; rfl, HB.out⟩
    · have c9 : decide ((i : Int) < (xs.length : Int)) = false := decide_eq_false (by omega)
      have HOUT := Aside0.mk (outS_uniq HIN.out (fun h => absurd h hlt) hi)
      have HLT := Aside0.mk hlt
      clear hgk
      go_wp2
      go_ret
      have hrr : r = -1 := by rw [← XQ.out, HOUT.out, if_neg HLT.out]
      exact ⟨by rw [hrr]; rfl, HB.out⟩
end Go.Proofs.Ytbllchfgjginoaa
/-
  slices.DeleteFunc over held sources; memb.work.only.
-/
namespace Go.Proofs.Ytbllchfgjginoaa
open Go.RowKit Go.Lib Go.Proofs.YtbllchfgjginoaaW.PrintWords Go.Proofs.YtbllchfgjginoaaW.PrintLast Go.Proofs.YtbllchfgjginoaaW.PrintMore Go.Proofs.Ytbllchfgjginoaa.PMe
set_option linter.unusedVariables false
set_option linter.unusedSimpArgs false
theorem grow_below {w w1 : World} (h : Below w.heap.size w w1) (row : Option Nat) : w.grownBy w1 row := ⟨h.os, h.tape, h.output, h.size, fun k hk _ => h.block k hk⟩
theorem grow_trans {w w1 w2 : World} {row : Option Nat} (h : w.grownBy w1 row) (h' : w1.grownBy w2 row) : w.grownBy w2 row :=
  ⟨h'.os.trans h.os, h'.tape.trans h.tape, h'.output.trans h.output, Nat.le_trans h.size h'.size, fun k hk hne => (h'.block k (Nat.lt_of_lt_of_le hk h.size) hne).trans (h.block k hk hne)⟩
theorem wpList_clear_runI {P : Program} (w : World) {ops : Array Oper} {rest : List Oper} {o : Oper} {a : Act} {Q : Exit → Act → World → Prop} (hgd : o.guard = none) (x : Operand) (t : TypeId)
    (ho : o.op = .call { callee := .builtin .clear, args := #[x], argTypes := #[t] }) (v : Value) (hx : a.eval x = v) {v' : Value} {w' : World}
    (hr : (Builtin.clear_ #[t] o.type #[v]).run P w = .ok v' w') (h : wpList P ops Q rest (a.put o.dst v') w') : wpList P ops Q (o :: rest) a w :=
  wpList_plain hgd fun _ hK => by
    unfold Oper.wp execOp
    simp only [ho, resolve, invoke, builtin, Sem.run_bind, Sem.run_pure, Result.andThen_ok, List.map_toArray, List.map_cons, List.map_nil, hx, hr]
    exact hK _ _ h
def ZS (m : Nat) : List Value := (Builtin.zeroCells (Value.agg #[.int .u32 0, .int .i64 0]).cells m).toList
theorem ZS_reps (m : Nat) : Reps (fun (x : S49) c => c = [.int .u32 x.f0, .int .i64 x.f1]) 2 (List.replicate m (⟨0, 0⟩ : S49)) (ZS m) :=
  Kd.reps_zeros (z := Value.agg #[.int .u32 0, .int .i64 0]) (by kernel_rfl) (by decide) (by kernel_rfl) m
theorem ZS_len (m : Nat) : (ZS m).length = m * 2 := by have := (ZS_reps m).1; rw [List.length_replicate] at this; exact this
theorem ZS_one (m : Nat) : ∀ v ∈ ZS m, v.oneCell' = true := Kd.reps_one (ZS_reps m) (by decide) (fun p c hp => by rw [hp]; intro u hu; simp only [List.mem_cons] at hu; rcases hu with rfl | rfl | hu <;> first | rfl | cases hu)
set_option maxRecDepth 100000 in
theorem run_clearN (w : World) (ty : TypeId) (g o m c : Nat) (hm : 0 < m) (cur : Array Value) (hg : w.heap[g]? = some (.cells cur 49 (0, 0))) (hfit : o + m * 2 ≤ cur.size) :
    (Builtin.clear_ #[26] ty #[.slice (some ⟨g, o, none⟩) m c]).run Try.prog w = .ok (.tuple #[]) (w.setRow g (cur.toList.take o ++ ZS m ++ cur.toList.drop (o + m * 2)).toArray) := by
  obtain ⟨m, rfl⟩ : ∃ k, m = k + 1 := ⟨m - 1, by omega⟩
  have hst := run_storeCells_at Try.prog g o 49 (ZS (m + 1)) 0 cur w hg (by rw [ZS_len]; omega) (ZS_one (m + 1))
  obtain ⟨i0, hi0, hz0⟩ := Option.map_eq_some_iff.1 info49_
  simp only [Prod.mk.injEq] at hz0
  obtain ⟨hz0, hzs, hzb⟩ := hz0
  have hu := Try.underlying26
  rw [ZS_len] at hst
  unfold ZS at hst ⊢
  simp only [Nat.add_zero, Nat.add_assoc] at hst
  simp only [Builtin.clear_, Sem.run_bind, run_underlying hu, zeroValue, typeInfo]
  simp [hi0, hz0, run_underlying hu]
  simp only [List.append_assoc] at hst
  rw [hst]
  simp [Result.andThen]
theorem R49_cells {w : World} {base g n c : Nat} {xs : List S49} (h : Kd.R k49 49 w base (fun _ => True) (.slice (some ⟨g, 0, none⟩) n c) xs) (j : Nat) (hj : j < n * 2) : (∃ u, w.cell? ⟨g, j, none⟩ = some u) ∧ w.frozen? ⟨g, j, none⟩ = false := by
  obtain rfl := (Kd.R_reads' h).1
  obtain ⟨h0, inner, hown, hr⟩ := h
  have hl : inner.length = xs.length * 2 := hown.1
  exact ⟨⟨_, (hown.cellAt j hj).trans (List.getElem?_eq_getElem (by omega))⟩, hown.frozenAt j⟩
theorem R49_put {w : World} {base g n c : Nat} {xs : List S49} (h : Kd.R k49 49 w base (fun _ => True) (.slice (some ⟨g, 0, none⟩) n c) xs) (i : Nat) (hi : i < n) (x : S49) :
    Kd.R k49 49 ((w.setCell ⟨g, i * 2, none⟩ (.int .u32 x.f0)).setCell ⟨g, i * 2 + 1, none⟩ (.int .i64 x.f1)) base (fun _ => True) (.slice (some ⟨g, 0, none⟩) n c) (xs.set i x) ∧ w.grownBy ((w.setCell ⟨g, i * 2, none⟩ (.int .u32 x.f0)).setCell ⟨g, i * 2 + 1, none⟩ (.int .i64 x.f1)) (some g) := by
  obtain rfl := (Kd.R_reads' h).1
  obtain ⟨h0, inner, hown, hr⟩ := h
  obtain ⟨h1, g1⟩ := hown.stored (i * 2) (.int .u32 x.f0)
  obtain ⟨h2, g2⟩ := h1.stored (i * 2 + 1) (.int .i64 x.f1)
  have hil : inner.length = xs.length * 2 := hown.1
  have e : (inner.set (i * 2) (.int .u32 x.f0)).set (i * 2 + 1) (.int .i64 x.f1) = inner.take (i * 2) ++ [.int .u32 x.f0, .int .i64 x.f1] ++ inner.drop (i * 2 + 2) := by
    apply List.ext_getElem?
    intro j
    rw [List.getElem?_append, List.getElem?_append, List.getElem?_take, List.getElem?_drop]
    simp only [List.getElem?_set, List.length_set, List.length_append, List.length_take, List.length_cons, List.length_nil]
    have hm : min (i * 2) inner.length = i * 2 := by omega
    rw [hm]
    rcases Nat.lt_or_ge j (i * 2) with hj | hj
    · rw [if_neg (by omega), if_neg (by omega), if_pos (by omega), if_pos hj, if_pos hj]
    · rcases Nat.lt_or_ge j (i * 2 + 2) with hj2 | hj2
      · rw [if_pos (show j < i * 2 + (0 + 1 + 1) by omega), if_neg (show ¬ j < i * 2 by omega)]
        obtain rfl | rfl : j = i * 2 ∨ j = i * 2 + 1 := by omega
        · rw [if_neg (by omega), if_pos rfl, if_pos (by omega), Nat.sub_self]; rfl
        · rw [if_pos rfl, if_pos (by omega), Nat.add_sub_cancel_left]; rfl
      · rw [if_neg (by omega), if_neg (by omega), if_neg (show ¬ j < i * 2 + (0 + 1 + 1) by omega), show i * 2 + 2 + (j - (i * 2 + (0 + 1 + 1))) = j by omega]
  refine ⟨⟨h0, _, by rw [List.length_set]; exact h2, ?_⟩, grow_trans g1 g2⟩
  rw [e]
  exact Kd.reps_set (size := 2) (x := x) (seg := [.int .u32 x.f0, .int .i64 x.f1]) (Reps.imp_ hr (fun p c hp => by rw [k49_openM hp]; exact k49_mkM _ _ _ _)) hi (k49_mkM _ _ _ _) rfl
/-- What is left of a row, when all behind i is struck out. -/
theorem R49_end {w : World} {base g n c : Nat} {xs : List S49} (h : Kd.R k49 49 w base (fun _ => True) (.slice (some ⟨g, 0, none⟩) n c) xs) (i : Nat) (hi : i < n) :
    n ≤ c ∧ ∃ w1, (∀ ty dc, (Builtin.clear_ #[26] ty #[.slice (some ⟨g, i * 2, none⟩) (n - i) dc]).run Try.prog w = .ok (.tuple #[]) w1) ∧ w.grownBy w1 (some g) ∧ Kd.R k49 49 w1 base (fun _ => True) (.slice (some ⟨g, 0, none⟩) i c) (xs.take i) := by
  obtain rfl := (Kd.R_reads' h).1
  obtain ⟨h0, inner, hown, hr⟩ := h
  have hil : inner.length = xs.length * 2 := hown.1
  rcases hown.2 with ⟨hz, h00⟩ | ⟨g', cap, cur, hz, hbg, hg, hnc, hcm, hcs, htake⟩
  · exact absurd hz (by simp)
  simp only [Value.slice.injEq, Option.some.injEq, Addr.mk.injEq, and_true, true_and] at hz
  obtain ⟨rfl, rfl⟩ := hz
  have hcs' : cur.size = c * 2 := hcs
  have hcurl : cur.toList.length = c * 2 := by rw [Array.length_toList, hcs']
  refine ⟨hnc, w.setRow g (cur.toList.take (i * 2) ++ ZS (xs.length - i) ++ cur.toList.drop (i * 2 + (xs.length - i) * 2)).toArray, fun ty dc => run_clearN w ty g (i * 2) (xs.length - i) dc (by omega) cur hg (by omega), setRow_grown w g _, fun _ _ => trivial, inner.take (i * 2), ?_, ?_⟩
  · have hl : (xs.take i).length = i := by rw [List.length_take]; omega
    rw [hl]
    refine ⟨by rw [List.length_take]; show min (i * 2) inner.length = i * 2; omega, .inr ⟨g, c, _, rfl, hbg, setRow_heap w g cur _ 49 _ hg, by omega, hcm, ?_, ?_⟩⟩
    · show _ = c * 2
      rw [List.size_toArray]
      simp only [List.length_append, List.length_take, List.length_drop, hcurl, ZS_len]; omega
    · show List.take (i * 2) _ = _
      rw [List.toList_toArray, List.append_assoc, List.take_left' (by rw [List.length_take, hcurl]; omega), ← htake, List.take_take]
      congr 1
      show i * 2 = min (i * 2) (xs.length * 2)
      omega
  · exact Kd.reps_take (size := 2) (Reps.imp_ hr (fun p c hp => by rw [k49_openM hp]; exact k49_mkM _ _ _ _)) (by omega)
theorem only_succ {xs : List S49} {j : Nat} (h : j < xs.length) (l : List Int) : onlyS (xs.take (j + 1)) l = onlyS (xs.take j) l ++ (if (rd_T49 xs j).f0 ∈ l then [rd_T49 xs j] else []) := by
  unfold onlyS
  rw [rd49 xs j h, ← List.take_append_getElem h, List.filter_append]
  congr 1
  by_cases c : xs[j].f0 ∈ l
  · rw [if_pos c, List.filter_cons_of_pos (by simpa using c)]; rfl
  · rw [if_neg c, List.filter_cons_of_neg (by simpa using c)]; rfl
theorem only_out (xs : List S49) (l : List Int) (h : outS xs l < xs.length) : onlyS (xs.take (outS xs l + 1)) l = xs.take (outS xs l) := by
  rw [only_succ h, if_neg (outS_at h), List.append_nil]
  unfold onlyS
  rw [List.filter_eq_self]
  intro x hx
  obtain ⟨k, hk, rfl⟩ := List.mem_iff_getElem.1 hx
  rw [List.length_take] at hk
  have h2 := outS_lt (xs := xs) (l := l) (k := k) (by omega)
  rw [rd49 xs k (by omega)] at h2
  rw [List.getElem_take]
  exact decide_eq_true h2
theorem only_all (xs : List S49) (l : List Int) (h : ¬ outS xs l < xs.length) : onlyS xs l = xs := by
  unfold onlyS
  rw [List.filter_eq_self]
  intro x hx
  obtain ⟨k, hk, rfl⟩ := List.mem_iff_getElem.1 hx
  have h2 := outS_lt (xs := xs) (l := l) (k := k) (by omega)
  rw [rd49 xs k hk] at h2
  exact decide_eq_true h2
set_option maxHeartbeats 8000000 in
set_option maxRecDepth 100000 in
theorem deletef_w {base gl : Nat} {v vl : Value} {xs : List S49} {l : List Int} {w : World} (hS : Kd.R k49 49 w base (fun _ => True) v xs) (hl : RA w base vl l) (hg : w.heap[gl]? = some (.cells #[vl] 29 (0, 0))) (hr : Rise l) (hn : l.length ≤ 1000000) (hm : xs.length ≤ 1000000) :
    Calls Try.prog 72 #[v, .func (.func 73) #[] #[.pointer (some ⟨gl, 0, none⟩)]] w fun e w' => ∃ v', e = .returned v' ∧ Kd.R k49 49 w' base (fun _ => True) v' (onlyS xs l) ∧ w.grownBy w' v.ownBlock := by
  have hu49 := Try.underlying49
  obtain ⟨A_l, c_l, rfl⟩ := Kd.R_slice hl
  obtain ⟨A, c, rfl⟩ := Kd.R_slice hS
  have HS := Aside0.mk hS
  have HL := Aside0.mk hl
  have HG := Aside0.mk hg
  have XR := Aside0.mk hr
  have XN := Aside0.mk hn
  have XM := Aside0.mk hm
  clear hS hl hg hr hn hm
  by_cases hq : outS xs l < xs.length
  case neg =>
    have HQ := Aside0.mk (index_w (r := -1) (by rw [if_neg hq]) XR.out XN.out XM.out A_l c_l A c w (Kd.R_reads' HS.out).2.2 (Kd.R_reads' HL.out).2.2 (Kd.R_reads' HL.out).2.1 HG.out)
    have HALL := Aside0.mk (only_all xs l hq)
    clear hq
    go_enter Try.func72, Try.ntmps72
    go_wp2_with (first | (go_at_call 80; (with_reducible refine HQ.out.mono ?_); rintro e w1 ⟨rfl, hB⟩; have HB := Aside0.mk hB; clear hB))
    go_ret
    exact ⟨_, rfl, by rw [HALL.out]; exact Kd.R_below HS.out HB.out, grow_below HB.out _⟩
  have HQ := Aside0.mk (index_w (r := (outS xs l : Int)) (by rw [if_pos hq]) XR.out XN.out XM.out A_l c_l A c w (Kd.R_reads' HS.out).2.2 (Kd.R_reads' HL.out).2.2 (Kd.R_reads' HL.out).2.1 HG.out)
  have HOO := Aside0.mk (only_out xs l hq)
  obtain ⟨q, hqq⟩ : ∃ q, q = outS xs l := ⟨_, rfl⟩
  rw [← hqq] at HQ HOO hq
  have HLT := Aside0.mk hq
  obtain ⟨g, cap, ev_, hgb, _, _⟩ := Kd.R_form HS.out (by omega)
  simp only [Value.slice.injEq, true_and] at ev_
  obtain ⟨rfl, rfl⟩ := ev_
  have c12 : ((q : Int) == -1) = false := beq_eq_false_iff_ne.2 (by omega)
  clear hq hqq hgb
  go_enter Try.func72, Try.ntmps72
  go_wp2_with (first | (go_at_call 80; (with_reducible refine HQ.out.mono ?_); rintro e w1 ⟨rfl, hB⟩; have HG1 := Aside0.mk (grow_below hB (some g)); have HS1 := Aside0.mk (Kd.R_below HS.out hB); clear hB))
  clear c12
  go_loopg [5, 6] (xs.length - (q + 1)) (fun gk v5 v6 w' => ∃ (i j : Nat) (zs : List S49), v5 = .int .i64 (i : Int) ∧ v6 = .int .i64 (j : Int) ∧ Aside0 (i < j ∧ j ≤ xs.length ∧ gk = xs.length - j ∧ zs.length = xs.length) ∧ Aside0 (zs.take i = onlyS (xs.take j) l ∧ ∀ k : Nat, j ≤ k → rd_T49 zs k = rd_T49 xs k) ∧ Aside0 (Kd.R k49 49 w' base (fun _ => True) (.slice (some ⟨g, 0, none⟩) xs.length c) zs) ∧ Aside0 (w.grownBy w' (some g)))
  case atStart =>
    refine ⟨q, q + 1, xs, rfl, ?_, ⟨by omega, by have := HLT.out; omega, rfl, rfl⟩, ⟨HOO.out.symm, fun _ _ => rfl⟩, HS1, HG1⟩
    show Value.int .i64 (wrap64 ((q : Int) + 1)) = _
    have h1 := XM.out
    have h3 := HLT.out
    have h2 : wrap64 ((q : Int) + 1) = ((q + 1 : Nat) : Int) := by unfold wrap64; omega
    rw [h2]
  case round =>
    clear HS1 HG1
    obtain ⟨i, j, zs, rfl, rfl, HI, HZ, HS1, HG1⟩ := hrel
    obtain ⟨hij, hjn, hgk, hzl⟩ := HI.out
    have HLc := Aside0.mk (show RA wr base (.slice A_l l.length c_l) l from Kd.R_over' HL.out (Kd.R_typed HS.out) (by decide) HG1.out)
    have HGc := Aside0.mk (show wr.heap[gl]? = some (.cells #[.slice A_l l.length c_l] 29 (0, 0)) from (HG1.out.block gl (Array.getElem?_eq_some_iff.1 HG.out).1 (Kd.R_ne HS.out HG.out (by decide))).trans HG.out)
    by_cases hlt : j < xs.length
    · have HB := Aside0.mk (Below.refl wr.heap.size wr)
      have c19 : decide ((j : Int) < (xs.length : Int)) = true := decide_eq_true (by omega)
      have p1 : (0 : Int) ≤ (j : Int) := by omega
      have p2 : (j : Int) < (xs.length : Int) := by omega
      obtain ⟨ad, he, hx0, hx1⟩ := at_T49 (Kd.R_reads' HS1.out).2.2 (j : Int) p1 (by rw [hzl]; exact p2)
      simp only [Option.some.injEq] at he
      subst he
      rw [Int.toNat_natCast] at hx0 hx1
      simp only [add0_, Nat.zero_add] at hx0 hx1
      obtain ⟨x, hx⟩ : ∃ x, x = rd_T49 zs (j : Int) := ⟨_, rfl⟩
      rw [← hx] at hx0 hx1
      have HXX := Aside0.mk (show x = rd_T49 xs (j : Int) by rw [hx]; exact HZ.out.2 j (Nat.le_refl _))
      have HNX := Aside0.mk (only_succ hlt l)
      rw [← HXX.out] at HNX
      clear hx
      replace p1 := eq_true p1
      replace p2 := eq_true p2
      have HGB := Aside0.mk (Kd.R_lt HS1.out g (by rfl))
      go_upto_region 8 with (first | ((with_reducible refine gate_dst (N := 7) rfl ?_); (try (refine gate_guard (by rfl) ?_; dsimp only)); refine bxn (cs := #[.int .u32 0, .int .i64 0]) (t := 49) ?_; intro gx hg w11_ hbox hB0; have hG := Aside0.mk (show wr.heap.size ≤ gx from Nat.le_of_eq hg.symm); clear hg; have hBX := Aside0.mk hbox; have hB1 := Aside0.mk hB0; clear hB0; obtain ⟨hc_gx_0, hc_gx_1, hf_gx_0, hf_gx_1⟩ := cf2 hbox; clear hbox))
      have hB : Below wr.heap.size wr ((w11_.setCell ⟨gx, 0, none⟩ (.int .u32 x.f0)).setCell ⟨gx, 1, none⟩ (.int .i64 x.f1)) := (below_set (below_set hB1.out hG.out) hG.out)
      have hBN : ((w11_.setCell ⟨gx, 0, none⟩ (.int .u32 x.f0)).setCell ⟨gx, 1, none⟩ (.int .i64 x.f1)).heap[gx]? = some (.cells #[.int .u32 x.f0, .int .i64 x.f1] 49 (0, 0)) := (blk_put (cs := #[.int .u32 x.f0, .int .i64 0]) (blk_put (cs := #[.int .u32 0, .int .i64 0]) hBX.out 0 (.int .u32 x.f0) rfl) 1 (.int .i64 x.f1) rfl)
      clear hBX hB1
      clear hc_gx_0 hf_gx_0 hc_gx_1 hf_gx_1
      generalize ((w11_.setCell ⟨gx, 0, none⟩ (.int .u32 x.f0)).setCell ⟨gx, 1, none⟩ (.int .i64 x.f1)) = w12_ at hB hBN ⊢
      have HBo := Aside0.mk HB.out
      replace HB := mvH HB hB
      have nS := Aside0.mk (Kd.R_below HS1.out hB)
      clear HS1
      have HS1 := nS
      clear nS
      have nG := Aside0.mk (grow_trans HG1.out (grow_below hB (some g)))
      clear HG1
      have HG1 := nG
      clear nG
      have nL := Aside0.mk (Kd.R_below HLc.out hB)
      clear HLc
      have HLc := nL
      clear nL
      have nC := Aside0.mk (blk_below HGc.out hB)
      clear HGc
      have HGc := nC
      clear nC
      have BK_gx := Aside0.mk hBN
      have GE_gx := Aside0.mk (Nat.le_trans HBo.out.size hG.out)
      clear HBo hG hBN hB
      obtain ⟨hc_gx_0, hc_gx_1, hf_gx_0, hf_gx_1⟩ := cf2 BK_gx.out
      clear hx0 hx1
      obtain ⟨b, hb⟩ : ∃ b, decide (x.f0 ∈ l) = b := ⟨_, rfl⟩
      have XBB := Aside0.mk hb
      clear hb
      cases b with
      | false =>
        go_wp2_with (first | (go_at_call 73; (with_reducible refine (only1_w XBB.out XR.out XN.out A_l c_l _ (Kd.R_reads' HLc.out).2.2 (Kd.R_reads' HLc.out).2.1 HGc.out).mono ?_); rintro e w13_ ⟨rfl, hB⟩; replace HB := mvH HB hB; clear hc_gx_0 hf_gx_0 hc_gx_1 hf_gx_1; replace BK_gx := mvB BK_gx hB; obtain ⟨hc_gx_0, hc_gx_1, hf_gx_0, hf_gx_1⟩ := cf2 BK_gx.out; have nS := Aside0.mk (Kd.R_below HS1.out hB); clear HS1; have HS1 := nS; clear nS; have nG := Aside0.mk (grow_trans HG1.out (grow_below hB (some g))); clear HG1; have HG1 := nG; clear nG; have nL := Aside0.mk (Kd.R_below HLc.out hB); clear HLc; have HLc := nL; clear nL; have nC := Aside0.mk (blk_below HGc.out hB); clear HGc; have HGc := nC; clear nC; clear hB))
        go_roundg (xs.length - (j + 1))
        case measure => omega
        case rel =>
          refine ⟨i, j + 1, zs, rfl, ?_, ⟨by omega, by omega, rfl, hzl⟩, ⟨?_, fun k hk => HZ.out.2 k (by omega)⟩, HS1, HG1⟩
          · show Value.int .i64 (wrap64 ((j : Int) + 1)) = _
            have h1 := XM.out
            have h2 : wrap64 ((j : Int) + 1) = ((j + 1 : Nat) : Int) := by unfold wrap64; omega
            rw [h2]
          · rw [HNX.out, if_neg (of_decide_eq_false XBB.out), List.append_nil]; exact HZ.out.1
      | true =>
        go_upto_region 9 with (first | (go_at_call 73; (with_reducible refine (only1_w XBB.out XR.out XN.out A_l c_l _ (Kd.R_reads' HLc.out).2.2 (Kd.R_reads' HLc.out).2.1 HGc.out).mono ?_); rintro e w13_ ⟨rfl, hB⟩; replace HB := mvH HB hB; clear hc_gx_0 hf_gx_0 hc_gx_1 hf_gx_1; replace BK_gx := mvB BK_gx hB; obtain ⟨hc_gx_0, hc_gx_1, hf_gx_0, hf_gx_1⟩ := cf2 BK_gx.out; have nS := Aside0.mk (Kd.R_below HS1.out hB); clear HS1; have HS1 := nS; clear nS; have nG := Aside0.mk (grow_trans HG1.out (grow_below hB (some g))); clear HG1; have HG1 := nG; clear nG; have nL := Aside0.mk (Kd.R_below HLc.out hB); clear HLc; have HLc := nL; clear nL; have nC := Aside0.mk (blk_below HGc.out hB); clear HGc; have HGc := nC; clear nC; clear hB))
        have p3 : (0 : Int) ≤ (i : Int) := by omega
        have p4 : (i : Int) < (xs.length : Int) := by omega
        replace p3 := eq_true p3
        replace p4 := eq_true p4
        obtain ⟨⟨y0_, hy0_⟩, hfy0_⟩ := R49_cells HS1.out (i * 2) (by omega)
        obtain ⟨⟨y1_, hy1_⟩, hfy1_⟩ := R49_cells HS1.out (i * 2 + 1) (by omega)
        have HEND := Aside0.mk (R49_put HS1.out i (by omega) x)
        have HIJ := Aside0.mk (And.intro hij hjn)
        clear hij hjn
        go_wp2
        go_roundg (xs.length - (j + 1))
        case measure => have := HIJ.out; omega
        case rel =>
          obtain ⟨hS2, hG2⟩ := HEND.out
          have hij := HIJ.out
          refine ⟨i + 1, j + 1, zs.set i x, ?_, ?_, ⟨by omega, by omega, rfl, by rw [List.length_set]; exact hzl⟩, ⟨?_, fun k hk => ?_⟩, ⟨hS2⟩, ⟨grow_trans HG1.out hG2⟩⟩
          · show Value.int .i64 (wrap64 ((i : Int) + 1)) = _
            have h1 := XM.out
            have h2 : wrap64 ((i : Int) + 1) = ((i + 1 : Nat) : Int) := by unfold wrap64; omega
            rw [h2]
          · show Value.int .i64 (wrap64 ((j : Int) + 1)) = _
            have h1 := XM.out
            have h2 : wrap64 ((j : Int) + 1) = ((j + 1 : Nat) : Int) := by unfold wrap64; omega
            rw [h2]
          · rw [HNX.out, if_pos (of_decide_eq_true XBB.out), ← HZ.out.1]
            apply List.ext_getElem?
            intro z
            rw [List.getElem?_append, List.getElem?_take, List.getElem?_set, List.length_take, List.getElem?_take]
            have hm : min i zs.length = i := by omega
            rw [hm]
            rcases Nat.lt_trichotomy z i with hz | hz | hz
            · rw [if_pos (by omega), if_neg (by omega), if_pos hz, if_pos hz]
            · subst hz
              rw [if_pos (by omega), if_pos rfl, if_pos (by omega), if_neg (by omega), Nat.sub_self]; rfl
            · rw [if_neg (by omega), if_neg (by omega)]
              symm
              rw [List.getElem?_eq_none_iff]; simp; omega
          · rw [← HZ.out.2 k (by omega)]
            show (zs.set i x).getD _ _ = zs.getD _ _
            rw [Int.toNat_natCast, List.getD_eq_getElem?_getD, List.getD_eq_getElem?_getD, List.getElem?_set, if_neg (by omega)]
    · have c19 : decide ((j : Int) < (xs.length : Int)) = false := decide_eq_false (by omega)
      have hje : j = xs.length := by omega
      obtain ⟨hnc, w9, hclr, hg9, hR9⟩ := R49_end HS1.out i (by omega)
      have HFIN := Aside0.mk (show Kd.R k49 49 w9 base (fun _ => True) (.slice (some ⟨g, 0, none⟩) i c) (onlyS xs l) by have h1 := hR9; rw [HZ.out.1, hje, List.take_length] at h1; exact h1)
      have HG9 := Aside0.mk (grow_trans HG1.out hg9)
      have hx1 : (0 : Int) ≤ (i : Int) := by omega
      have hx3 : (i : Int) ≤ (xs.length : Int) := by omega
      have hx4 : i ≤ xs.length := by omega
      have hx5 : i ≤ c := by omega
      have hx6 : ¬ (c = i) := by omega
      clear hje hgk hg9 hR9 hzl hij hjn hnc
      go_wp2_with (at_builtin; refine wpList_clear_runI _ rfl _ 26 rfl _ rfl (hclr _ _) ?_)
      all_goals go_ret
      all_goals exact ⟨_, rfl, HFIN.out, HG9.out⟩
set_option maxHeartbeats 8000000 in
set_option maxRecDepth 100000 in
theorem only_w {base gw : Nat} {m : WM} {vS vB vA : Value} {w : World} (h : Wk base gw m vS vB vA w) {v : Value} {l : List Int} (hl : RA w base v l) (hr : Rise l) (hn : l.length ≤ 1000000) (hm : m.srcs.length ≤ 1000000) :
    Calls Try.prog 56 #[.pointer (some ⟨gw, 0, none⟩), v] w fun e w' => e = .returned (.tuple #[]) ∧ (∃ vS', Wk base gw { m with srcs := onlyS m.srcs l } vS' vB vA w') ∧ Fr base gw w w' := by
  have hu73 := Try.underlying73
  have hu28 := Try.underlying28
  have hu29 := Try.underlying29
  obtain ⟨A_l, c_l, rfl⟩ := Kd.R_slice hl
  obtain ⟨A1, c1, e1⟩ := Kd.R_slice h.S
  subst e1
  have HW := Aside0.mk h
  have HL := Aside0.mk hl
  have XR := Aside0.mk hr
  have XN := Aside0.mk hn
  have XM := Aside0.mk hm
  clear h hl hr hn hm
  have HB := Aside0.mk (Below.refl w.heap.size w)
  go_enter Try.func56, Try.ntmps56
  go_wp2_with (first | ((with_reducible refine gate_dst (N := 3) rfl ?_); (try (refine gate_guard (by rfl) ?_; dsimp only)); refine bxn (cs := #[.slice A_l l.length c_l]) (t := 29) ?_; intro gl hg w1_ hbox hB; have HBo := Aside0.mk HB.out; replace HB := mvH HB hB; have BK_gl := Aside0.mk hbox; have GE_gl := Aside0.mk (show w.heap.size ≤ gl by rw [hg]; exact HBo.out.size); clear hg hbox hB; obtain ⟨hc_gl_0, hf_gl_0⟩ := cf1 BK_gl.out; clear HBo; have HW1 := Aside0.mk (HW.out.below HB.out); have hw3 : w1_.cell? ⟨gw, 3, none⟩ = some (.slice A1 m.srcs.length c1) := (blk_cell HW1.out.blk 3).trans rfl; have hf3 := blk_frozen HW1.out.blk 3; have HD := Aside0.mk (deletef_w HW1.out.S (Kd.R_below HL.out HB.out) BK_gl.out XR.out XN.out XM.out)) | (go_at_call 72; (with_reducible refine HD.out.mono ?_); rintro e w2 ⟨v2, rfl, hS2, hG2⟩; obtain ⟨A2, c2, e2_⟩ := Kd.R_slice hS2; subst e2_; have HS2 := Aside0.mk hS2; have HO2 := Aside0.mk (HW1.out.overS hG2 hS2); have HK2 := Aside0.mk (show w2.heap[gw]? = _ from HO2.out.1.trans HW1.out.blk); clear hS2 hG2 hw3 hf3; have hw3 : w2.cell? ⟨gw, 3, none⟩ = some (.slice A1 m.srcs.length c1) := (blk_cell HK2.out 3).trans rfl; have hf3 := blk_frozen HK2.out 3))
  go_end0
  obtain ⟨_, hB3, hA3, hF3⟩ := HO2.out
  exact ⟨rfl, ⟨.slice A2 (onlyS m.srcs l).length c2, ⟨blk_put (cs := #[.int .u32 m.g, .bool m.ex, .int .i64 m.left, .slice A1 m.srcs.length c1, .int .i64 m.keep, .int .i64 m.last, vB, vA]) HK2.out 3 _ rfl, HW.out.ge, Kd.R_set HS2.out HK2.out (by decide) 3 _, Kd.R_set hB3 HK2.out (by decide) 3 _, Kd.R_set hA3 HK2.out (by decide) 3 _⟩⟩, ((Fr.of_below HB.out).trans hF3).trans (Fr.set 3 _)⟩
end Go.Proofs.Ytbllchfgjginoaa
/-
  memb.work.ask: sources that are asked for.
-/
namespace Go.Proofs.Ytbllchfgjginoaa
open Go.RowKit Go.Lib Go.Proofs.YtbllchfgjginoaaW.PrintWords Go.Proofs.YtbllchfgjginoaaW.PrintLast Go.Proofs.YtbllchfgjginoaaW.PrintMore Go.Proofs.Ytbllchfgjginoaa.PMe
set_option linter.unusedVariables false
set_option linter.unusedSimpArgs false
def ask_T5 : Bool × List (List Nat × List Nat) := (true, [([], []), ([0], [0]), ([1], [1]), ([2], [2]), ([3], [3]), ([], []), ([], []), ([6], [6]), ([], []), ([8], [8]), ([9], [9]), ([10], [10]), ([11], [11]), ([7, 12], [7, 12]), ([4, 5, 0, 1, 2, 3, 4, 5, 6, 7, 8, 9, 10, 11, 12, 13], [4, 5]), ([14, 0, 1, 2, 3, 4, 5, 6, 7, 8, 9, 10, 11, 12, 13], [14]), ([15, 13, 0, 1, 2, 3, 4, 5, 6, 7, 8, 9, 10, 11, 12, 13], [13, 15])])
def ask_B5 : List Nat := [0, 1, 3, 7, 15, 0, 0, 64, 0, 256, 768, 1792, 3840, 8128, 16383, 32767, 65535]
theorem ask_t5 : rtab .any (opsOf Try.f37 5) = ask_T5 := by kernel_rfl
theorem ask_b5 : waitsOk ask_T5.2 ask_B5 = true := by kernel_rfl
def ask_T7 : Bool × List (List Nat × List Nat) := (true, [([], []), ([], []), ([1], [1]), ([2], [2]), ([3], [3]), ([], []), ([5], [5]), ([6], [6]), ([7], [7]), ([8], [8]), ([], []), ([9, 10], [9, 10]), ([11], [11]), ([4, 12], [4, 12]), ([0, 0, 1, 2, 3, 4, 5, 6, 7, 8, 9, 10, 11, 12, 13], [0]), ([14, 0, 1, 2, 3, 4, 5, 6, 7, 8, 9, 10, 11, 12, 13], [14]), ([15, 13, 13, 0, 1, 2, 3, 4, 5, 6, 7, 8, 9, 10, 11, 12, 13], [13, 15])])
def ask_B7 : List Nat := [0, 0, 2, 6, 14, 0, 32, 96, 224, 480, 0, 2016, 4064, 8190, 16383, 32767, 65535]
theorem ask_t7 : rtab .any (opsOf Try.f37 7) = ask_T7 := by kernel_rfl
theorem ask_b7 : waitsOk ask_T7.2 ask_B7 = true := by kernel_rfl
def ask1 (last : Int) (l : List Int) (s : S49) : S49 := if s.f0 ∈ l then ⟨s.f0, min s.f1 last⟩ else s
def askS (last : Int) (l : List Int) (xs : List S49) : List S49 := xs.map (ask1 last l)
def askZ (last : Int) (l : List Int) (xs : List S49) (i : Nat) : List S49 := (xs.take i).map (ask1 last l) ++ xs.drop i
theorem askZ_len (last : Int) (l : List Int) (xs : List S49) (i : Nat) : (askZ last l xs i).length = xs.length := by
  unfold askZ; simp only [List.length_append, List.length_map, List.length_take, List.length_drop]; omega
theorem askZ_at (last : Int) (l : List Int) {xs : List S49} {i : Nat} (h : i < xs.length) : rd_T49 (askZ last l xs i) i = rd_T49 xs i := by
  show (askZ last l xs i).getD _ _ = xs.getD _ _
  rw [Int.toNat_natCast, List.getD_eq_getElem?_getD, List.getD_eq_getElem?_getD]
  unfold askZ
  rw [List.getElem?_append_right (by simp only [List.length_map, List.length_take]; omega), List.getElem?_drop]
  congr 2
  simp only [List.length_map, List.length_take]; omega
theorem askZ_succ (last : Int) (l : List Int) {xs : List S49} {i : Nat} (h : i < xs.length) : askZ last l xs (i + 1) = (askZ last l xs i).set i (ask1 last l (rd_T49 xs i)) := by
  unfold askZ
  rw [rd49 xs i h, ← List.take_append_getElem h, List.map_append]
  have hl : ((xs.take i).map (ask1 last l)).length = i := by simp only [List.length_map, List.length_take]; omega
  rw [List.set_append_right _ _ (by omega), hl, Nat.sub_self, List.drop_eq_getElem_cons h, List.append_assoc]
  rfl
theorem askZ_same (last : Int) (l : List Int) {xs : List S49} {i : Nat} (h : i < xs.length) (hn : ¬ (rd_T49 xs i).f0 ∈ l) : askZ last l xs (i + 1) = askZ last l xs i := by
  rw [askZ_succ last l h]
  unfold ask1
  rw [if_neg hn, ← askZ_at last l h]
  have h2 : i < (askZ last l xs i).length := by rw [askZ_len]; exact h
  rw [rd49 _ i h2]
  exact List.set_getElem_self h2
theorem dr_below {w w' : World} (h : Drawn0 w w') : Below w.heap.size w w' := by
  obtain ⟨n, rfl⟩ := h
  exact pw_below_drewN (Below.refl _ _) n
def askM (m : WM) (l : List Int) : WM := if l.length = 0 then m else { m with srcs := askS m.last l m.srcs, asks := m.asks ++ [⟨m.g, l⟩] }
set_option maxHeartbeats 8000000 in
set_option maxRecDepth 100000 in
theorem ask_w {base gw : Nat} {m : WM} {vS vB vA : Value} {w : World} (h : Wk base gw m vS vB vA w) {v : Value} {l : List Int} (hl : RA w base v l) (hr : Rise l) (hn : l.length ≤ 1000000) (hm : m.srcs.length ≤ 1000000) (hq : m.asks.length ≤ 1000) (hbs : base ≤ w.heap.size) :
    Calls Try.prog 37 #[.pointer (some ⟨gw, 0, none⟩), v] w fun e w' => e = .returned (.tuple #[]) ∧ (∃ vS' vA', Wk base gw (askM m l) vS' vB vA' w') ∧ Fr base gw w w' := by
  have hu49 := Try.underlying49
  have hu73 := Try.underlying73
  have hu28 := Try.underlying28
  have hu23 := Try.underlying23
  have hu46 := Try.underlying46
  obtain ⟨A_l, c_l, rfl⟩ := Kd.R_slice hl
  obtain ⟨A_S, c_S, eS⟩ := Kd.R_slice h.S
  subst eS
  obtain ⟨A_A, c_A, eA⟩ := Kd.R_slice h.A
  subst eA
  obtain ⟨A_B, c_B, eB⟩ := Kd.R_slice h.B
  subst eB
  have XBS := Aside0.mk hbs
  have XR := Aside0.mk hr
  have XN := Aside0.mk hn
  have XM := Aside0.mk hm
  have XQ := Aside0.mk hq
  have HW0 := Aside0.mk h
  have HL := Aside0.mk hl
  have HF0 := Aside0.mk (Fr.refl base gw w)
  have XBOX := Aside0.mk h.box
  clear h hl hr hn hm hq hbs
  go_enter Try.func37, Try.ntmps37
  by_cases hz : l.length = 0
  · have c8 : ((l.length : Int) == 0) = true := by rw [hz]; rfl
    have XZ := Aside0.mk hz
    clear hz
    go_wp2
    refine bodyPost_ret (results_none rfl _ _ _) rfl ?_
    exact ⟨rfl, ⟨_, _, by unfold askM; rw [if_pos XZ.out]; exact HW0.out⟩, HF0.out⟩
  have c8 : ((l.length : Int) == 0) = false := beq_eq_false_iff_ne.2 (by omega)
  have XZ := Aside0.mk hz
  clear hz
  have hw3 : w.cell? ⟨gw, 3, none⟩ = some (.slice A_S m.srcs.length c_S) := (blk_cell HW0.out.blk 3).trans rfl
  go_wp2
  clear hw3 c8
  go_loopg [15] m.srcs.length (fun gk v15 w' => ∃ i : Nat, v15 = .int .i64 (i : Int) ∧ Aside0 (i ≤ m.srcs.length ∧ gk = m.srcs.length - i) ∧ Aside0 (Wk base gw { m with srcs := askZ m.last l m.srcs i } (.slice A_S m.srcs.length c_S) (.slice A_B m.b.length c_B) (.slice A_A m.asks.length c_A) w') ∧ Aside0 (Fr base gw w w'))
  case atStart => exact ⟨0, rfl, ⟨Nat.zero_le _, by omega⟩, HW0, HF0⟩
  case round =>
    clear HW0 HF0
    obtain ⟨i, rfl, HI, HW, HF⟩ := hrel
    obtain ⟨hi, hgk⟩ := HI.out
    have HA_l := Aside0.mk (HF.out.row HL.out (by exact XBOX.out))
    by_cases hlt : i < m.srcs.length
    · have HB := Aside0.mk (Below.refl wr.heap.size wr)
      have c16 : decide ((i : Int) < (m.srcs.length : Int)) = true := decide_eq_true (by omega)
      have p1 : (0 : Int) ≤ (i : Int) := by omega
      have p2 : (i : Int) < (m.srcs.length : Int) := by omega
      obtain ⟨ad, he, hx0, hx1⟩ := at_T49 (Kd.R_reads' HW.out.S).2.2 (i : Int) p1 (by rw [show ({ m with srcs := askZ m.last l m.srcs i } : WM).srcs = askZ m.last l m.srcs i from rfl, askZ_len]; exact p2)
      subst he
      rw [Int.toNat_natCast] at hx0 hx1
      have hxz : rd_T49 (askZ m.last l m.srcs i) (i : Int) = rd_T49 m.srcs (i : Int) := askZ_at _ _ hlt
      obtain ⟨x, hx⟩ : ∃ x, x = rd_T49 m.srcs (i : Int) := ⟨_, rfl⟩
      replace hx0 : wr.cell? (ad.add (i * 2)) = some (.int .u32 x.f0) := by rw [hx, ← hxz]; exact hx0
      replace hx1 : wr.cell? ⟨(ad.add (i * 2)).block, (ad.add (i * 2)).off + 1, none⟩ = some (.int .i64 x.f1) := by rw [hx, ← hxz]; exact hx1
      have HX := Aside0.mk hx
      have HSU := Aside0.mk (askZ_succ m.last l hlt)
      have HSA := Aside0.mk (fun hn => askZ_same m.last l hlt hn)
      rw [← hx] at HSU HSA
      clear hx hxz
      replace p1 := eq_true p1
      replace p2 := eq_true p2
      go_upto_region 4 with (first | ((with_reducible refine gate_dst (N := 5) rfl ?_); (try (refine gate_guard (by rfl) ?_; dsimp only)); refine bxn (cs := #[.int .u32 0, .int .i64 0]) (t := 49) ?_; intro gx hg w61_ hbox hB0; have hG := Aside0.mk (show wr.heap.size ≤ gx from Nat.le_of_eq hg.symm); clear hg; have hBX := Aside0.mk hbox; have hB1 := Aside0.mk hB0; clear hB0; obtain ⟨hc_gx_0, hc_gx_1, hf_gx_0, hf_gx_1⟩ := cf2 hbox; clear hbox))
      have hB : Below wr.heap.size wr ((w61_.setCell ⟨gx, 0, none⟩ (.int .u32 x.f0)).setCell ⟨gx, 1, none⟩ (.int .i64 x.f1)) := (below_set (below_set hB1.out hG.out) hG.out)
      have hBN : ((w61_.setCell ⟨gx, 0, none⟩ (.int .u32 x.f0)).setCell ⟨gx, 1, none⟩ (.int .i64 x.f1)).heap[gx]? = some (.cells #[.int .u32 x.f0, .int .i64 x.f1] 49 (0, 0)) := (blk_put (cs := #[.int .u32 x.f0, .int .i64 0]) (blk_put (cs := #[.int .u32 0, .int .i64 0]) hBX.out 0 (.int .u32 x.f0) rfl) 1 (.int .i64 x.f1) rfl)
      clear hBX hB1
      clear hc_gx_0 hf_gx_0 hc_gx_1 hf_gx_1
      generalize ((w61_.setCell ⟨gx, 0, none⟩ (.int .u32 x.f0)).setCell ⟨gx, 1, none⟩ (.int .i64 x.f1)) = w62_ at hB hBN ⊢
      replace HW := Aside0.mk (HW.out.below hB)
      replace HF := Aside0.mk (HF.out.trans (Fr.of_below hB))
      replace HA_l := mvR HA_l hB
      have HBo := Aside0.mk HB.out
      replace HB := mvH HB hB
      have BK_gx := Aside0.mk hBN
      have GE_gx := Aside0.mk (Nat.le_trans HBo.out.size hG.out)
      clear HBo hG hBN hB
      obtain ⟨hc_gx_0, hc_gx_1, hf_gx_0, hf_gx_1⟩ := cf2 BK_gx.out
      clear hx0 hx1 HB
      obtain ⟨b, hb⟩ : ∃ b, decide (x.f0 ∈ l) = b := ⟨_, rfl⟩
      have XBB := Aside0.mk hb
      have XH := Aside0.mk (has_some l (by have := XN.out; omega) x.f0 XR.out 1000001 (by have := XN.out; omega))
      rw [hb] at XH
      clear hb
      cases b with
      | false =>
        go_wp2_with (first | (go_at_call 57; (with_reducible refine (set_Has.calls 1000001 _ _ l x.f0 false _ (Kd.R_reads' HA_l.out).2.2 (Kd.R_reads' HA_l.out).2.1 XH.out).mono ?_); rintro e_ w71_ ⟨rfl, hD⟩; have hB := dr_below hD; clear hD; replace HW := Aside0.mk (HW.out.below hB); replace HF := Aside0.mk (HF.out.trans (Fr.of_below hB)); replace HA_l := mvR HA_l hB; clear hc_gx_0 hf_gx_0 hc_gx_1 hf_gx_1; replace BK_gx := mvB BK_gx hB; clear hB; obtain ⟨hc_gx_0, hc_gx_1, hf_gx_0, -⟩ := cf2 BK_gx.out; have hf_gx_1 := blk_frozen BK_gx.out 1))
        go_roundg (m.srcs.length - (i + 1))
        case measure => omega
        case rel =>
          refine ⟨i + 1, ?_, ⟨by omega, rfl⟩, ⟨?_⟩, HF⟩
          · show Value.int .i64 (wrap64 ((i : Int) + 1)) = _
            have h1 := XM.out
            have h2 : wrap64 ((i : Int) + 1) = ((i + 1 : Nat) : Int) := by unfold wrap64; omega
            rw [h2]
          · rw [HSA.out (of_decide_eq_false XBB.out)]; exact HW.out
      | true =>
        go_upto_region 5 with (first | (go_at_call 57; (with_reducible refine (set_Has.calls 1000001 _ _ l x.f0 true _ (Kd.R_reads' HA_l.out).2.2 (Kd.R_reads' HA_l.out).2.1 XH.out).mono ?_); rintro e_ w71_ ⟨rfl, hD⟩; have hB := dr_below hD; clear hD; replace HW := Aside0.mk (HW.out.below hB); replace HF := Aside0.mk (HF.out.trans (Fr.of_below hB)); replace HA_l := mvR HA_l hB; clear hc_gx_0 hf_gx_0 hc_gx_1 hf_gx_1; replace BK_gx := mvB BK_gx hB; clear hB; obtain ⟨hc_gx_0, hc_gx_1, hf_gx_0, -⟩ := cf2 BK_gx.out; have hf_gx_1 := blk_frozen BK_gx.out 1))
        have hlen := Aside0.mk (show i < ({ m with srcs := askZ m.last l m.srcs i } : WM).srcs.length from by rw [show ({ m with srcs := askZ m.last l m.srcs i } : WM).srcs = askZ m.last l m.srcs i from rfl, askZ_len]; exact hlt)
        obtain ⟨g, cap, ev_, hgb, _, _⟩ := Kd.R_form HW.out.S (Nat.lt_of_le_of_lt (Nat.zero_le _) hlen.out)
        simp only [Value.slice.injEq, Option.some.injEq] at ev_
        obtain ⟨rfl, ev1_, ev2_⟩ := ev_
        clear ev1_ ev2_
        have HGG := Aside0.mk (show g ≠ gw from fun e => Kd.R_ne HW.out.S HW.out.blk (by decide) (by rw [e]; rfl))
        have q1 : (0 : Int) ≤ (i : Int) := by omega
        have q2 : (i : Int) < (m.srcs.length : Int) := by omega
        replace q1 := eq_true q1
        replace q2 := eq_true q2
        have hw_3 : w71_.cell? ⟨gw, 3, none⟩ = some (.slice (some ⟨g, 0, none⟩) m.srcs.length c_S) := (blk_cell HW.out.blk 3).trans rfl
        have hf_3 := blk_frozen HW.out.blk 3
        have hw_5 : w71_.cell? ⟨gw, 5, none⟩ = some (.int .i64 m.last) := (blk_cell HW.out.blk 5).trans rfl
        have hf_5 := blk_frozen HW.out.blk 5
        refine start_ (n := 17) (S := fun w' => w'.cell? ⟨gw, 3, none⟩ = some (.slice (some ⟨g, 0, none⟩) m.srcs.length c_S) ∧ w'.cell? ⟨gw, 5, none⟩ = some (.int .i64 m.last) ∧ w'.cell? ⟨gx, 1, none⟩ = some (.int .i64 x.f1)) (ds := [16]) #[false, false, false, false, false, false, false, false, false, false, false, false, false, false, false, false, false] (by kernel_rfl) rfl rfl ⟨hw_3, hw_5, hc_gx_1⟩ (fun hHeld => ?_); refine with_tabW ask_t5 ask_b5 (fun HT_ HW_ => ?_)
        have hB : Below w71_.heap.size w71_ w71_.drew := below_drew (Below.refl _ _)
        generalize w71_.drew = w72_ at hB hHeld ⊢
        clear hw_3 hf_3 hw_5 hf_5
        replace HW := Aside0.mk (HW.out.below hB)
        replace HF := Aside0.mk (HF.out.trans (Fr.of_below hB))
        replace HA_l := mvR HA_l hB
        clear hc_gx_0 hf_gx_0 hc_gx_1 hf_gx_1
        replace BK_gx := mvB BK_gx hB
        obtain ⟨hc_gx_0, hc_gx_1, hf_gx_0, hf_gx_1⟩ := cf2 BK_gx.out
        clear hB
        have hw_3 : w72_.cell? ⟨gw, 3, none⟩ = some (.slice (some ⟨g, 0, none⟩) m.srcs.length c_S) := (blk_cell HW.out.blk 3).trans rfl
        have hf_3 := blk_frozen HW.out.blk 3
        have hw_5 : w72_.cell? ⟨gw, 5, none⟩ = some (.int .i64 m.last) := (blk_cell HW.out.blk 5).trans rfl
        have hf_5 := blk_frozen HW.out.blk 5
        refine pw 0 24 (bb 17 1) rfl rfl HT_ ?_
        refine pw 1 25 (bb 17 3) rfl rfl HT_ ?_
        refine pw 2 26 (bb 17 7) rfl rfl HT_ ?_
        refine pw 3 27 (bb 17 15) rfl rfl HT_ ?_
        refine tk 4 28 (bb 17 31) rfl rfl HT_ HW_ hHeld ?_
        refine pw 5 29 (bb 17 63) rfl rfl HT_ ?_
        refine pw 6 30 (bb 17 127) rfl rfl HT_ ?_
        refine tk 7 31 (bb 17 255) rfl rfl HT_ HW_ hHeld ?_
        refine pw 8 32 (bb 17 511) rfl rfl HT_ ?_
        refine pw 9 33 (bb 17 1023) rfl rfl HT_ ?_
        refine pw 10 34 (bb 17 2047) rfl rfl HT_ ?_
        refine pw 11 35 (bb 17 4095) rfl rfl HT_ ?_
        refine tk 12 36 (bb 17 8191) rfl rfl HT_ HW_ hHeld ?_
        refine pw 13 37 (bb 17 16383) rfl rfl HT_ ?_
        refine pw 14 38 (bb 17 32767) rfl rfl HT_ ?_
        refine pw 15 39 (bb 17 65535) rfl rfl HT_ ?_
        refine last_ (i := 16) (N := none) #[true, true, true, true, true, true, true, true, true, true, true, true, true, true, true, true, true] rfl rfl (one_of HT_.out (by kernel_rfl)) (by decide) (fun K hK => ?_)
        obtain ⟨⟨y_, hy_⟩, hfy_⟩ := R49_cell HW.out.S i hlen.out
        refine skip_ (w1 := ?_) (by rfl) rfl ?_ ?_
        rotate_left
        · go_simp
          rfl
        clear hy_ hfy_
        obtain ⟨hS2, hG2⟩ := R49_store HW.out.S i hlen.out (min x.f1 m.last)
        obtain ⟨hb2, hB2, hA2, hF2⟩ := HW.out.overS hG2 hS2
        have HEND := Aside0.mk hS2
        have HE2 := Aside0.mk (And.intro (hb2.trans HW.out.blk) (And.intro HW.out.ge (And.intro hB2 hA2)))
        have HFE := Aside0.mk (HF.out.trans hF2)
        clear hw_3 hf_3 hw_5 hf_5
        clear HW HF HA_l hS2 hG2 hb2 hB2 hA2 hF2 hc_gx_0 hf_gx_0 hc_gx_1 hf_gx_1 BK_gx
        generalize (w72_.setCell ⟨g, i * 2 + 1, none⟩ (.int .i64 (min x.f1 m.last))) = w73_ at HEND HE2 HFE ⊢
        refine hK.out _ _ ?_
        clear hK K
        refine done_ (done_of HT_.out (by kernel_rfl)) ?_
        go_wp2
        go_roundg (m.srcs.length - (i + 1))
        case measure => omega
        case rel =>
          refine ⟨i + 1, ?_, ⟨by omega, rfl⟩, ⟨?_⟩, HFE⟩
          · show Value.int .i64 (wrap64 ((i : Int) + 1)) = _
            have h1 := XM.out
            have h2 : wrap64 ((i : Int) + 1) = ((i + 1 : Nat) : Int) := by unfold wrap64; omega
            rw [h2]
          · obtain ⟨a1, a2, a3, a4⟩ := HE2.out
            have hv : ask1 m.last l x = ⟨(rd_T49 (askZ m.last l m.srcs i) i).f0, min x.f1 m.last⟩ := by unfold ask1; rw [if_pos (of_decide_eq_true XBB.out), askZ_at m.last l hlt, ← HX.out]
            rw [HSU.out, hv]
            exact ⟨a1, a2, HEND.out, a3, a4⟩
    · have c16 : decide ((i : Int) < (m.srcs.length : Int)) = false := decide_eq_false (by omega)
      have hie : i = m.srcs.length := by omega
      replace HW := Aside0.mk (show Wk base gw { m with srcs := askS m.last l m.srcs } (.slice A_S m.srcs.length c_S) (.slice A_B m.b.length c_B) (.slice A_A m.asks.length c_A) wr by have h1 := HW.out; rw [hie] at h1; unfold askZ at h1; rw [List.take_length, List.drop_length, List.append_nil] at h1; exact h1)
      clear hie hgk
      go_upto_region 7 with fail
      have hw_7 : wr.cell? ⟨gw, 7, none⟩ = some (.slice A_A m.asks.length c_A) := (blk_cell HW.out.blk 7).trans rfl
      have hf_7 := blk_frozen HW.out.blk 7
      have hw_0 : wr.cell? ⟨gw, 0, none⟩ = some (.int .u32 m.g) := (blk_cell HW.out.blk 0).trans rfl
      have hf_0 := blk_frozen HW.out.blk 0
      refine start_ (n := 17) (S := fun w' => w'.cell? ⟨gw, 7, none⟩ = some (.slice A_A m.asks.length c_A) ∧ w'.cell? ⟨gw, 0, none⟩ = some (.int .u32 m.g)) (ds := [13, 16]) #[false, false, false, false, false, false, false, false, false, false, false, false, false, false, false, false, false] (by kernel_rfl) rfl rfl ⟨hw_7, hw_0⟩ (fun hHeld => ?_); refine with_tabW ask_t7 ask_b7 (fun HT_ HW_ => ?_)
      have hB : Below wr.heap.size wr wr.drew := below_drew (Below.refl _ _)
      generalize wr.drew = w201_ at hB hHeld ⊢
      clear hw_7 hf_7 hw_0 hf_0
      replace HW := Aside0.mk (HW.out.below hB)
      replace HF := Aside0.mk (HF.out.trans (Fr.of_below hB))
      replace HA_l := mvR HA_l hB
      clear hB
      have hw_7 : w201_.cell? ⟨gw, 7, none⟩ = some (.slice A_A m.asks.length c_A) := (blk_cell HW.out.blk 7).trans rfl
      have hf_7 := blk_frozen HW.out.blk 7
      have hw_0 : w201_.cell? ⟨gw, 0, none⟩ = some (.int .u32 m.g) := (blk_cell HW.out.blk 0).trans rfl
      have hf_0 := blk_frozen HW.out.blk 0
      refine pw 0 41 (bb 17 1) rfl rfl HT_ ?_
      refine pw 1 42 (bb 17 3) rfl rfl HT_ ?_
      refine pw 2 43 (bb 17 7) rfl rfl HT_ ?_
      refine pw 3 44 (bb 17 15) rfl rfl HT_ ?_
      refine tk 4 45 (bb 17 31) rfl rfl HT_ HW_ hHeld ?_
      refine pw 5 46 (bb 17 63) rfl rfl HT_ ?_
      refine pw 6 47 (bb 17 127) rfl rfl HT_ ?_
      refine pw 7 48 (bb 17 255) rfl rfl HT_ ?_
      refine pw 8 49 (bb 17 511) rfl rfl HT_ ?_
      refine tk 9 50 (bb 17 1023) rfl rfl HT_ HW_ hHeld ?_
      refine pw 10 51 (bb 17 2047) rfl rfl HT_ ?_
      refine pw 11 52 (bb 17 4095) rfl rfl HT_ ?_
      refine on1 12 (some 53) (bb 17 8191) rfl rfl HT_ (fun K hK => ?_)
      refine value_ (w1 := ?_) (v := ?_) (by rfl) rfl ?_ ?_
      rotate_left 2
      · go_simp
        constructor
        · rfl
        · rfl
      have hB9 := below_alloc (Below.refl w201_.heap.size w201_) (.cells #[.int .u32 m.g, .slice A_l l.length c_l] 46)
      replace hw_7 := (hB9.cell (World.block_lt_of_cell? _ _ hw_7)).trans hw_7
      replace hw_0 := (hB9.cell (World.block_lt_of_cell? _ _ hw_0)).trans hw_0
      clear hB9 hf_7 hf_0
      refine hK.out _ _ ⟨hw_7, hw_0⟩ (fun hHeld => ?_)
      clear hK K
      refine nm ?_
      refine last_ (i := 13) (N := some 54) #[true, true, true, true, true, true, true, true, true, true, true, true, true, true, false, false, false] rfl rfl (one_of HT_.out (by kernel_rfl)) (by decide) (fun K hK => ?_)
      refine Kd.R_append_step k46 (w0 := w201_) base (by rfl) (.tmp 45) (.tmp 53) 35 46 (.agg #[(.int .u32 0), (.slice none 0 0)]) 32 rfl Try.underlying35 info46 rfl (by decide) (by decide) _ m.asks (⟨m.g, l⟩ : S46) [.int .u32 m.g, .slice A_l l.length c_l] (fun _ => True) (fun k => some k = (.slice A_l l.length c_l : Value).ownBlock) rfl rfl ?aP (fun k hk => ⟨trivial, fun e => ?aQ⟩) (fun _ _ => trivial) HW.out.A (Below.refl _ _) (Nat.le_trans XBS.out HF.out.size) (by have := XQ.out; omega) ?_
      (case aP => exact k46_mkM _ _ _ (⟨m.g, l⟩ : S46) (Kd.R_mono (Kd.R_tight rfl HA_l.out) (fun k hk => hk)))
      (case aQ => (obtain ⟨c1_, h1_⟩ := Kd.R_typed HA_l.out k hk.symm; obtain ⟨c2_, h2_⟩ := Kd.R_typed HW.out.A k e.symm; rw [h1_] at h2_; injection h2_ with h2_; injection h2_ with _ h2_ _; exact absurd h2_ (by decide)))
      intro v9 w202_ hR9 hB9 hG9 hat9
      obtain ⟨A9, c9, e9⟩ := Kd.R_slice hR9
      subst e9
      have hl9 : (m.asks ++ [(⟨m.g, l⟩ : S46)]).length = m.asks.length + 1 := by rw [List.length_append]; rfl
      rw [hl9] at hR9 ⊢
      clear hl9
      have HR9 := Aside0.mk hR9
      have HO9 := Aside0.mk (HW.out.overA (asks2 := m.asks) (vA2 := .slice none 0 0) hG9)
      have HK9 := Aside0.mk (show w202_.heap[gw]? = _ from HO9.out.1.trans HW.out.blk)
      clear hR9 hB9 hG9 hat9 hw_7 hw_0
      have hw_7 : w202_.cell? ⟨gw, 7, none⟩ = some (.slice A_A m.asks.length c_A) := (blk_cell HK9.out 7).trans rfl
      have hf_7 := blk_frozen HK9.out 7
      refine hK.out _ _ ?_
      clear hK K
      refine nm ?_
      refine pw 14 55 (bb 17 32767) rfl rfl HT_ ?_
      refine pw 15 56 (bb 17 65535) rfl rfl HT_ ?_
      refine last_ (i := 16) (N := none) #[true, true, true, true, true, true, true, true, true, true, true, true, true, true, true, true, true] rfl rfl (one_of HT_.out (by kernel_rfl)) (by decide) (fun K hK => ?_)
      refine skip_ (w1 := ?_) (by rfl) rfl ?_ ?_
      rotate_left
      · go_simp
        rfl
      obtain ⟨_, hB3, hS3, hF3⟩ := HO9.out
      have HFIN := Aside0.mk (show Wk base gw { m with srcs := askS m.last l m.srcs, asks := m.asks ++ [⟨m.g, l⟩] } (.slice A_S m.srcs.length c_S) (.slice A_B m.b.length c_B) (.slice A9 (m.asks.length + 1) c9) (w202_.setCell ⟨gw, 7, none⟩ (.slice A9 (m.asks.length + 1) c9)) from ⟨blk_put (cs := #[.int .u32 m.g, .bool m.ex, .int .i64 m.left, .slice A_S m.srcs.length c_S, .int .i64 m.keep, .int .i64 m.last, .slice A_B m.b.length c_B, .slice A_A m.asks.length c_A]) HK9.out 7 _ rfl, HW.out.ge, Kd.R_set hS3 HK9.out (by decide) 7 _, Kd.R_set hB3 HK9.out (by decide) 7 _, Kd.R_set HR9.out HK9.out (by decide) 7 _⟩)
      have HFF := Aside0.mk ((HF.out.trans hF3).trans (Fr.set 7 (.slice A9 (m.asks.length + 1) c9)))
      clear hB3 hS3 hF3 HK9 HR9 HO9 HW HF HA_l hw_7 hf_7
      generalize (w202_.setCell ⟨gw, 7, none⟩ (.slice A9 (m.asks.length + 1) c9)) = w203_ at HFIN HFF ⊢
      refine hK.out _ _ ?_
      clear hK K
      refine done_ (done_of HT_.out (by kernel_rfl)) ?_
      go_wp2
      go_end0
      exact ⟨rfl, ⟨_, _, by unfold askM; rw [if_neg XZ.out]; exact HFIN.out⟩, HFF.out⟩
end Go.Proofs.Ytbllchfgjginoaa
