/-
  HostChanges, walked.
-/
import Derived.Test.YtjncmiclpaodhaaSoI
import Derived.Test.YtjncmiclpaodhaaHoCp
import Derived.Test.YtjncmiclpaodhaaHoG
import Derived.Test.YtjncmiclpaodhaaHoR
namespace Go.Proofs.Ytjncmiclpaodhaa
set_option maxHeartbeats 8000000
set_option maxRecDepth 100000
open Go.RowKit Go.Lib Go.Proofs.YtjncmiclpaodhaaW.PrintWords Go.Proofs.YtjncmiclpaodhaaW.PrintLast Go.Proofs.YtjncmiclpaodhaaW.PrintMore Go.Proofs.Ytjncmiclpaodhaa.PHo
set_option linter.unusedVariables false
set_option linter.unusedSimpArgs false
def hh_T16 : Bool × List (List Nat × List Nat) := (true, [([], []), ([0], [0]), ([1], [1]), ([2, 1], [1, 2]), ([1], [1]), ([1], [1]), ([5, 1], [1, 5]), ([3, 4, 6, 1, 1], [1, 3, 4, 6]), ([1], [1]), ([8, 1], [1, 8]), ([1], [1]), ([1], [1]), ([11, 1], [1, 11]), ([9, 10, 12, 7, 1], [1, 9, 10, 12]), ([7, 13, 13, 1], [1, 7, 13]), ([1, 14], [1, 14]), ([15, 14, 0, 1, 2, 3, 4, 5, 6, 7, 8, 9, 10, 11, 12, 13, 14, 15], [15])])
def hh_B16 : List Nat := [0, 1, 3, 7, 3, 3, 35, 127, 3, 259, 3, 3, 2051, 8191, 16383, 32767, 65535]
theorem hh_t16 : rtab .any (opsOf Try.f5 16) = hh_T16 := by kernel_rfl
theorem hh_b16 : waitsOk hh_T16.2 hh_B16 = true := by kernel_rfl
def View2 (w : World) (la : List S42) (ra : List S36) (err : Int) (e : Ending) (w' : World) : Prop :=
  ∃ A0 c0 A1 c1, e = .returned (.tuple #[.agg #[.slice A0 la.length c0], .slice A1 ra.length c1, .int .i64 err]) ∧ Kd.C k42 w' A0 la.length la ∧ la.length ≤ c0 ∧ Kd.C k36 w' A1 ra.length ra ∧ ra.length ≤ c1 ∧ Below w.heap.size w w'
theorem view2_of {P : Nat → Prop} {w : World} {l : List S42} {rs : List S36} {err : Int} {e : Ending} {w' : World} (h : PutPost P w l rs err e w') : View2 w l rs err e w' := by
  obtain ⟨v0, v1, rfl, h0, h1, hB⟩ := h
  obtain ⟨A0, c0, rfl⟩ := Kd.V_slice h0
  obtain ⟨A1, c1, rfl⟩ := Kd.V_slice h1
  exact ⟨A0, c0, A1, c1, rfl, (Kd.V_reads' h0).2.2, (Kd.V_reads' h0).2.1, (Kd.V_reads' h1).2.2, (Kd.V_reads' h1).2.1, hB⟩
section
variable {l la : List S42} {ra : List S36} {s : S42} {err id : Int} (A : Option Addr) (c : Nat) (B : Option Addr) (d : Nat) (w : World)
theorem vput (hl : HOk l) (hm : s.f2.f1.length ≤ 1000000) (h1 : putL l s = la) (h2 : putR l s = ra) (h3 : putE l s = err) (hr : Kd.C k42 w A l.length l) (hc : l.length ≤ c) (hs : Kd.C (Kd.int .u32) w B s.f2.f1.length s.f2.f1) (hd : s.f2.f1.length ≤ d) :
    Calls Try.prog 15 #[.agg #[.slice A l.length c], .agg #[.int .i64 s.f0, .int .u32 s.f1, .bool s.f2.f0, .slice B s.f2.f1.length d]] w (View2 w la ra err) := by
  subst h1 h2 h3
  exact (put_calls hl hm A c B d w hr hc hs hd (fun k => k < w.heap.size) (fun _ h => h) (Kd.C_F k42_heap hr) (Kd.C_F (Kd.heap_int .u32) hs)).mono fun e w' h => view2_of h
theorem vrput (hl : HOk l) (hm : s.f2.f1.length ≤ 1000000) (h1 : putL l s = la) (h2 : putR l s = ra) (h3 : putE l s = err) (hr : Kd.C k42 w A l.length l) (hc : l.length ≤ c) (hs : Kd.C (Kd.int .u32) w B s.f2.f1.length s.f2.f1) (hd : s.f2.f1.length ≤ d) :
    Calls Try.prog 19 #[.agg #[.slice A l.length c], .agg #[.int .i64 s.f0, .int .u32 s.f1, .bool s.f2.f0, .slice B s.f2.f1.length d]] w (View2 w la ra err) := by
  subst h1 h2 h3
  exact (rput_calls hl hm A c B d w hr hc hs hd (fun k => k < w.heap.size) (fun _ h => h) (Kd.C_F k42_heap hr) (Kd.C_F (Kd.heap_int .u32) hs)).mono fun e w' h => view2_of h
theorem vdrop (hl : HOk l) (h1 : dropL l id = la) (h2 : dropR l id = ra) (h3 : dropE l id = err) (hr : Kd.C k42 w A l.length l) (hc : l.length ≤ c) :
    Calls Try.prog 20 #[.agg #[.slice A l.length c], .int .i64 id] w (View2 w la ra err) := by
  subst h1 h2 h3
  exact (drop_calls hl A c w hr hc (fun k => k < w.heap.size) (fun _ h => h) (Kd.C_F k42_heap hr)).mono fun e w' h => view2_of h
theorem vrdrop (hl : HOk l) (h1 : dropL l id = la) (h2 : dropR l id = ra) (h3 : dropE l id = err) (hr : Kd.C k42 w A l.length l) (hc : l.length ≤ c) :
    Calls Try.prog 21 #[.agg #[.slice A l.length c], .int .i64 id] w (View2 w la ra err) := by
  subst h1 h2 h3
  exact (rdrop_calls hl A c w hr hc (fun k => k < w.heap.size) (Kd.C_F k42_heap hr)).mono fun e w' h => view2_of h
theorem vchange {a0 : Int} {p q : Bool} {l1 l2 : List Int} {r : List S36} (h : host_Change.f a0 p l1 q l2 = some r) (hr1 : Kd.C (Kd.int .u32) w A l1.length l1) (hc1 : l1.length ≤ c) (hr2 : Kd.C (Kd.int .u32) w B l2.length l2) (hc2 : l2.length ≤ d) :
    Calls Try.prog 10 #[.int .u32 a0, .agg #[.bool p, .slice A l1.length c], .agg #[.bool q, .slice B l2.length d]] w fun e w' => ∃ A1 c1, e = .returned (.slice A1 r.length c1) ∧ Kd.C k36 w' A1 r.length r ∧ r.length ≤ c1 ∧ Below w.heap.size w w' := by
  refine (host_Change.calls a0 p A c l1 q (fun k => k < w.heap.size) B d l2 r w hr1 hc1 (Kd.V_mk hc2 (Kd.C_F (Kd.heap_int .u32) hr2)) h).mono ?_
  rintro e w' ⟨v, rfl, hV, hB⟩
  obtain ⟨A1, c1, rfl⟩ := Kd.V_slice hV
  exact ⟨A1, c1, rfl, (Kd.V_reads' hV).2.2, (Kd.V_reads' hV).2.1, hB⟩
theorem vrchange {a0 : Int} {p q : Bool} {l1 l2 : List Int} {r : List S36} (h : stolonref07_Change.f a0 p l1 q l2 = some r) (hr1 : Kd.C (Kd.int .u32) w A l1.length l1) (hc1 : l1.length ≤ c) (hr2 : Kd.C (Kd.int .u32) w B l2.length l2) (hc2 : l2.length ≤ d) :
    Calls Try.prog 23 #[.int .u32 a0, .agg #[.bool p, .slice A l1.length c], .agg #[.bool q, .slice B l2.length d]] w fun e w' => ∃ A1 c1, e = .returned (.slice A1 r.length c1) ∧ Kd.C k36 w' A1 r.length r ∧ r.length ≤ c1 ∧ Below w.heap.size w w' := by
  refine (stolonref07_Change.calls a0 p A c l1 q (fun k => k < w.heap.size) B d l2 r w hr1 hc1 (Kd.V_mk hc2 (Kd.C_F (Kd.heap_int .u32) hr2)) h).mono ?_
  rintro e w' ⟨v, rfl, hV, hB⟩
  obtain ⟨A1, c1, rfl⟩ := Kd.V_slice hV
  exact ⟨A1, c1, rfl, (Kd.V_reads' hV).2.2, (Kd.V_reads' hV).2.1, hB⟩
theorem vrecs {k : Nat} {xs : List S36} {b : Bool} (h : stolonref05_Recs.f k xs xs = some b) (hr : Kd.C k36 w A xs.length xs) (hc : xs.length ≤ c) (hs : Kd.C k36 w B xs.length xs) (hd : xs.length ≤ d) :
    Calls Try.prog 22 #[.slice A xs.length c, .slice B xs.length d] w fun e w' => e = .returned (.bool b) ∧ Below w.heap.size w w' := recs5_w rfl h A c B d w hr hc hs hd
end
theorem chs_few {k : Nat} {l : List S42} {s : S42} {fs : List Int} (hf : stolonref07_Few.f k l = some false) (A_l : Option Addr) (c_l : Nat) (A_s : Option Addr) (c_s : Nat) (id : Int) (fe : Bool) (A_f : Option Addr) (c_f : Nat) (w : World) (hr : Kd.C k42 w A_l l.length l) (hc : l.length ≤ c_l) (hs : Kd.C (Kd.int .u32) w A_s s.f2.f1.length s.f2.f1) (hcs : s.f2.f1.length ≤ c_s) (hf_ : Kd.C (Kd.int .u32) w A_f fs.length fs) (hcf : fs.length ≤ c_f) :
    Calls Try.prog 5 #[.agg #[.slice A_l l.length c_l, .int .i64 s.f0, .int .u32 s.f1, .bool s.f2.f0, .slice A_s s.f2.f1.length c_s, .int .i64 id, .bool fe, .slice A_f fs.length c_f]] w fun e w' => e = .returned (.bool true) ∧ Below w.heap.size w w' := by
  have hu40 := Try.underlying40
  have hu42 := Try.underlying42
  have hu26 := Try.underlying26
  have hu52 := Try.underlying52
  have HB := Aside0.mk (Below.refl w.heap.size w)
  have HC_l := Aside0.mk hr
  have HK_l := Aside0.mk hc
  clear hr hc hs hcs hf_ hcf
  have Xhf := Aside0.mk hf
  clear hf
  go_enter Try.func5, Try.ntmps5
  go_upto_region 2 with (first | ((with_reducible refine gate_dst (N := 1) rfl ?_); (try (refine gate_guard (by rfl) ?_; dsimp only)); refine bxn (cs := #[.slice A_l l.length c_l, .int .i64 s.f0, .int .u32 s.f1, .bool s.f2.f0, .slice A_s s.f2.f1.length c_s, .int .i64 id, .bool fe, .slice A_f fs.length c_f]) (t := 52) ?_; intro gi hg w1_ hbox hB; replace HB := mvH HB hB; have BK_gi := Aside0.mk hbox; clear hg hbox hB; have hc_gi_0 := (cf8 BK_gi.out).1) | ((with_reducible refine gate_dst (N := 3) rfl ?_); (try (refine gate_guard (by rfl) ?_; dsimp only)); refine bxn (cs := #[.slice none 0 0]) (t := 40) ?_; intro gh hg w2_ hbox hB0; have hG := Aside0.mk (show w1_.heap.size ≤ gh from Nat.le_of_eq hg.symm); clear hg; have hBX := Aside0.mk hbox; have hB1 := Aside0.mk hB0; clear hB0; have hc_gh_0 : w2_.cell? ⟨gh, 0, none⟩ = some (.slice none 0 0) := (blk_cell hbox 0).trans rfl; have hf_gh_0 := blk_frozen hbox 0; clear hbox))
  have hB : Below w1_.heap.size w1_ (w2_.setCell ⟨gh, 0, none⟩ (.slice A_l l.length c_l)) := (below_set hB1.out hG.out)
  have hBN : (w2_.setCell ⟨gh, 0, none⟩ (.slice A_l l.length c_l)).heap[gh]? = some (.cells #[.slice A_l l.length c_l] 40 (0, 0)) := (blk_put (cs := #[.slice none 0 0]) hBX.out 0 (.slice A_l l.length c_l) rfl)
  clear hBX hB1
  clear hc_gh_0 hf_gh_0
  generalize (w2_.setCell ⟨gh, 0, none⟩ (.slice A_l l.length c_l)) = w3_ at hB hBN ⊢
  replace HB := mvH HB hB
  clear hc_gi_0
  replace BK_gi := mvB BK_gi hB
  have hc_gi_1 := (cf8 BK_gi.out).2.1
  have hc_gi_2 := (cf8 BK_gi.out).2.2.1
  have hc_gi_3 := (cf8 BK_gi.out).2.2.2.1
  have hc_gi_4 := (cf8 BK_gi.out).2.2.2.2.1
  have BK_gh := Aside0.mk hBN
  clear hG hBN hB
  go_upto_region 3 with (first | ((with_reducible refine gate_dst (N := 4) rfl ?_); (try (refine gate_guard (by rfl) ?_; dsimp only)); refine bxn (cs := #[.int .i64 0, .int .u32 0, .bool false, .slice none 0 0]) (t := 42) ?_; intro gs hg w4_ hbox hB0; have hG := Aside0.mk (show w3_.heap.size ≤ gs from Nat.le_of_eq hg.symm); clear hg; have hBX := Aside0.mk hbox; have hB1 := Aside0.mk hB0; clear hB0; obtain ⟨hc_gs_0, hc_gs_1, hc_gs_2, hc_gs_3, hf_gs_0, hf_gs_1, hf_gs_2, hf_gs_3⟩ := cf4 hbox; clear hbox))
  have hB : Below w3_.heap.size w3_ ((((w4_.setCell ⟨gs, 0, none⟩ (.int .i64 s.f0)).setCell ⟨gs, 1, none⟩ (.int .u32 s.f1)).setCell ⟨gs, 2, none⟩ (.bool s.f2.f0)).setCell ⟨gs, 3, none⟩ (.slice A_s s.f2.f1.length c_s)) := (below_set (below_set (below_set (below_set hB1.out hG.out) hG.out) hG.out) hG.out)
  have hBN : ((((w4_.setCell ⟨gs, 0, none⟩ (.int .i64 s.f0)).setCell ⟨gs, 1, none⟩ (.int .u32 s.f1)).setCell ⟨gs, 2, none⟩ (.bool s.f2.f0)).setCell ⟨gs, 3, none⟩ (.slice A_s s.f2.f1.length c_s)).heap[gs]? = some (.cells #[.int .i64 s.f0, .int .u32 s.f1, .bool s.f2.f0, .slice A_s s.f2.f1.length c_s] 42 (0, 0)) := (blk_put (cs := #[.int .i64 s.f0, .int .u32 s.f1, .bool s.f2.f0, .slice none 0 0]) (blk_put (cs := #[.int .i64 s.f0, .int .u32 s.f1, .bool false, .slice none 0 0]) (blk_put (cs := #[.int .i64 s.f0, .int .u32 0, .bool false, .slice none 0 0]) (blk_put (cs := #[.int .i64 0, .int .u32 0, .bool false, .slice none 0 0]) hBX.out 0 (.int .i64 s.f0) rfl) 1 (.int .u32 s.f1) rfl) 2 (.bool s.f2.f0) rfl) 3 (.slice A_s s.f2.f1.length c_s) rfl)
  clear hBX hB1
  clear hc_gs_0 hf_gs_0 hc_gs_1 hf_gs_1 hc_gs_2 hf_gs_2 hc_gs_3 hf_gs_3
  generalize ((((w4_.setCell ⟨gs, 0, none⟩ (.int .i64 s.f0)).setCell ⟨gs, 1, none⟩ (.int .u32 s.f1)).setCell ⟨gs, 2, none⟩ (.bool s.f2.f0)).setCell ⟨gs, 3, none⟩ (.slice A_s s.f2.f1.length c_s)) = w5_ at hB hBN ⊢
  replace HB := mvH HB hB
  clear hc_gi_1 hc_gi_2 hc_gi_3 hc_gi_4
  replace BK_gi := mvB BK_gi hB
  have hc_gi_5 := (cf8 BK_gi.out).2.2.2.2.2.1
  have hc_gi_6 := (cf8 BK_gi.out).2.2.2.2.2.2.1
  have hc_gi_7 := (cf8 BK_gi.out).2.2.2.2.2.2.2.1
  replace BK_gh := mvB BK_gh hB
  clear hG hBN hB
  go_upto_region 5 with (first | ((with_reducible refine gate_dst (N := 6) rfl ?_); (try (refine gate_guard (by rfl) ?_; dsimp only)); refine bxn (cs := #[.bool false, .slice none 0 0]) (t := 26) ?_; intro gf hg w6_ hbox hB0; have hG := Aside0.mk (show w5_.heap.size ≤ gf from Nat.le_of_eq hg.symm); clear hg; have hBX := Aside0.mk hbox; have hB1 := Aside0.mk hB0; clear hB0; obtain ⟨hc_gf_0, hc_gf_1, hf_gf_0, hf_gf_1⟩ := cf2 hbox; clear hbox))
  have hB : Below w5_.heap.size w5_ ((w6_.setCell ⟨gf, 0, none⟩ (.bool fe)).setCell ⟨gf, 1, none⟩ (.slice A_f fs.length c_f)) := (below_set (below_set hB1.out hG.out) hG.out)
  have hBN : ((w6_.setCell ⟨gf, 0, none⟩ (.bool fe)).setCell ⟨gf, 1, none⟩ (.slice A_f fs.length c_f)).heap[gf]? = some (.cells #[.bool fe, .slice A_f fs.length c_f] 26 (0, 0)) := (blk_put (cs := #[.bool fe, .slice none 0 0]) (blk_put (cs := #[.bool false, .slice none 0 0]) hBX.out 0 (.bool fe) rfl) 1 (.slice A_f fs.length c_f) rfl)
  clear hBX hB1
  clear hc_gf_0 hf_gf_0 hc_gf_1 hf_gf_1
  generalize ((w6_.setCell ⟨gf, 0, none⟩ (.bool fe)).setCell ⟨gf, 1, none⟩ (.slice A_f fs.length c_f)) = w7_ at hB hBN ⊢
  replace HB := mvH HB hB
  clear hc_gi_5 hc_gi_6 hc_gi_7
  clear BK_gi
  replace BK_gh := mvB BK_gh hB
  clear hG hBN hB
  go_wp2_with (first | (go_at_call 8; with_reducible refine (stolonlaw07_shown.calls true _ rfl).mono ?_; rintro e w8_ ⟨rfl, hB⟩; replace HB := mvH HB hB; replace BK_gh := mvB BK_gh hB; have hc_gh_0 : w8_.cell? ⟨gh, 0, none⟩ = some (.slice A_l l.length c_l) := (blk_cell BK_gh.out 0).trans rfl; clear hB) | (go_at_call 13; with_reducible refine (few7_w Xhf.out _ _ _ (Kd.C_below HC_l.out HB.out) HK_l.out).mono ?_; rintro e w9_ ⟨rfl, hB⟩; replace HB := mvH HB hB; clear hc_gh_0; clear BK_gh; clear hB))
  go_ret
  exact ⟨rfl, HB.out⟩
theorem chs_wrong {k : Nat} {l : List S42} {s : S42} {fs : List Int} (hf : stolonref07_Few.f k l = some true) (hg : stolonref07_Right.f k l = some false) (A_l : Option Addr) (c_l : Nat) (A_s : Option Addr) (c_s : Nat) (id : Int) (fe : Bool) (A_f : Option Addr) (c_f : Nat) (w : World) (hr : Kd.C k42 w A_l l.length l) (hc : l.length ≤ c_l) (hs : Kd.C (Kd.int .u32) w A_s s.f2.f1.length s.f2.f1) (hcs : s.f2.f1.length ≤ c_s) (hf_ : Kd.C (Kd.int .u32) w A_f fs.length fs) (hcf : fs.length ≤ c_f) :
    Calls Try.prog 5 #[.agg #[.slice A_l l.length c_l, .int .i64 s.f0, .int .u32 s.f1, .bool s.f2.f0, .slice A_s s.f2.f1.length c_s, .int .i64 id, .bool fe, .slice A_f fs.length c_f]] w fun e w' => e = .returned (.bool true) ∧ Below w.heap.size w w' := by
  have hu40 := Try.underlying40
  have hu42 := Try.underlying42
  have hu26 := Try.underlying26
  have hu52 := Try.underlying52
  have HB := Aside0.mk (Below.refl w.heap.size w)
  have HC_l := Aside0.mk hr
  have HK_l := Aside0.mk hc
  clear hr hc hs hcs hf_ hcf
  have Xhf := Aside0.mk hf
  have Xhg := Aside0.mk hg
  clear hf hg
  go_enter Try.func5, Try.ntmps5
  go_upto_region 2 with (first | ((with_reducible refine gate_dst (N := 1) rfl ?_); (try (refine gate_guard (by rfl) ?_; dsimp only)); refine bxn (cs := #[.slice A_l l.length c_l, .int .i64 s.f0, .int .u32 s.f1, .bool s.f2.f0, .slice A_s s.f2.f1.length c_s, .int .i64 id, .bool fe, .slice A_f fs.length c_f]) (t := 52) ?_; intro gi hg w1_ hbox hB; replace HB := mvH HB hB; have BK_gi := Aside0.mk hbox; clear hg hbox hB; have hc_gi_0 := (cf8 BK_gi.out).1) | ((with_reducible refine gate_dst (N := 3) rfl ?_); (try (refine gate_guard (by rfl) ?_; dsimp only)); refine bxn (cs := #[.slice none 0 0]) (t := 40) ?_; intro gh hg w2_ hbox hB0; have hG := Aside0.mk (show w1_.heap.size ≤ gh from Nat.le_of_eq hg.symm); clear hg; have hBX := Aside0.mk hbox; have hB1 := Aside0.mk hB0; clear hB0; have hc_gh_0 : w2_.cell? ⟨gh, 0, none⟩ = some (.slice none 0 0) := (blk_cell hbox 0).trans rfl; have hf_gh_0 := blk_frozen hbox 0; clear hbox))
  have hB : Below w1_.heap.size w1_ (w2_.setCell ⟨gh, 0, none⟩ (.slice A_l l.length c_l)) := (below_set hB1.out hG.out)
  have hBN : (w2_.setCell ⟨gh, 0, none⟩ (.slice A_l l.length c_l)).heap[gh]? = some (.cells #[.slice A_l l.length c_l] 40 (0, 0)) := (blk_put (cs := #[.slice none 0 0]) hBX.out 0 (.slice A_l l.length c_l) rfl)
  clear hBX hB1
  clear hc_gh_0 hf_gh_0
  generalize (w2_.setCell ⟨gh, 0, none⟩ (.slice A_l l.length c_l)) = w3_ at hB hBN ⊢
  replace HB := mvH HB hB
  clear hc_gi_0
  replace BK_gi := mvB BK_gi hB
  have hc_gi_1 := (cf8 BK_gi.out).2.1
  have hc_gi_2 := (cf8 BK_gi.out).2.2.1
  have hc_gi_3 := (cf8 BK_gi.out).2.2.2.1
  have hc_gi_4 := (cf8 BK_gi.out).2.2.2.2.1
  have BK_gh := Aside0.mk hBN
  clear hG hBN hB
  go_upto_region 3 with (first | ((with_reducible refine gate_dst (N := 4) rfl ?_); (try (refine gate_guard (by rfl) ?_; dsimp only)); refine bxn (cs := #[.int .i64 0, .int .u32 0, .bool false, .slice none 0 0]) (t := 42) ?_; intro gs hg w4_ hbox hB0; have hG := Aside0.mk (show w3_.heap.size ≤ gs from Nat.le_of_eq hg.symm); clear hg; have hBX := Aside0.mk hbox; have hB1 := Aside0.mk hB0; clear hB0; obtain ⟨hc_gs_0, hc_gs_1, hc_gs_2, hc_gs_3, hf_gs_0, hf_gs_1, hf_gs_2, hf_gs_3⟩ := cf4 hbox; clear hbox))
  have hB : Below w3_.heap.size w3_ ((((w4_.setCell ⟨gs, 0, none⟩ (.int .i64 s.f0)).setCell ⟨gs, 1, none⟩ (.int .u32 s.f1)).setCell ⟨gs, 2, none⟩ (.bool s.f2.f0)).setCell ⟨gs, 3, none⟩ (.slice A_s s.f2.f1.length c_s)) := (below_set (below_set (below_set (below_set hB1.out hG.out) hG.out) hG.out) hG.out)
  have hBN : ((((w4_.setCell ⟨gs, 0, none⟩ (.int .i64 s.f0)).setCell ⟨gs, 1, none⟩ (.int .u32 s.f1)).setCell ⟨gs, 2, none⟩ (.bool s.f2.f0)).setCell ⟨gs, 3, none⟩ (.slice A_s s.f2.f1.length c_s)).heap[gs]? = some (.cells #[.int .i64 s.f0, .int .u32 s.f1, .bool s.f2.f0, .slice A_s s.f2.f1.length c_s] 42 (0, 0)) := (blk_put (cs := #[.int .i64 s.f0, .int .u32 s.f1, .bool s.f2.f0, .slice none 0 0]) (blk_put (cs := #[.int .i64 s.f0, .int .u32 s.f1, .bool false, .slice none 0 0]) (blk_put (cs := #[.int .i64 s.f0, .int .u32 0, .bool false, .slice none 0 0]) (blk_put (cs := #[.int .i64 0, .int .u32 0, .bool false, .slice none 0 0]) hBX.out 0 (.int .i64 s.f0) rfl) 1 (.int .u32 s.f1) rfl) 2 (.bool s.f2.f0) rfl) 3 (.slice A_s s.f2.f1.length c_s) rfl)
  clear hBX hB1
  clear hc_gs_0 hf_gs_0 hc_gs_1 hf_gs_1 hc_gs_2 hf_gs_2 hc_gs_3 hf_gs_3
  generalize ((((w4_.setCell ⟨gs, 0, none⟩ (.int .i64 s.f0)).setCell ⟨gs, 1, none⟩ (.int .u32 s.f1)).setCell ⟨gs, 2, none⟩ (.bool s.f2.f0)).setCell ⟨gs, 3, none⟩ (.slice A_s s.f2.f1.length c_s)) = w5_ at hB hBN ⊢
  replace HB := mvH HB hB
  clear hc_gi_1 hc_gi_2 hc_gi_3 hc_gi_4
  replace BK_gi := mvB BK_gi hB
  have hc_gi_5 := (cf8 BK_gi.out).2.2.2.2.2.1
  have hc_gi_6 := (cf8 BK_gi.out).2.2.2.2.2.2.1
  have hc_gi_7 := (cf8 BK_gi.out).2.2.2.2.2.2.2.1
  replace BK_gh := mvB BK_gh hB
  clear hG hBN hB
  go_upto_region 5 with (first | ((with_reducible refine gate_dst (N := 6) rfl ?_); (try (refine gate_guard (by rfl) ?_; dsimp only)); refine bxn (cs := #[.bool false, .slice none 0 0]) (t := 26) ?_; intro gf hg w6_ hbox hB0; have hG := Aside0.mk (show w5_.heap.size ≤ gf from Nat.le_of_eq hg.symm); clear hg; have hBX := Aside0.mk hbox; have hB1 := Aside0.mk hB0; clear hB0; obtain ⟨hc_gf_0, hc_gf_1, hf_gf_0, hf_gf_1⟩ := cf2 hbox; clear hbox))
  have hB : Below w5_.heap.size w5_ ((w6_.setCell ⟨gf, 0, none⟩ (.bool fe)).setCell ⟨gf, 1, none⟩ (.slice A_f fs.length c_f)) := (below_set (below_set hB1.out hG.out) hG.out)
  have hBN : ((w6_.setCell ⟨gf, 0, none⟩ (.bool fe)).setCell ⟨gf, 1, none⟩ (.slice A_f fs.length c_f)).heap[gf]? = some (.cells #[.bool fe, .slice A_f fs.length c_f] 26 (0, 0)) := (blk_put (cs := #[.bool fe, .slice none 0 0]) (blk_put (cs := #[.bool false, .slice none 0 0]) hBX.out 0 (.bool fe) rfl) 1 (.slice A_f fs.length c_f) rfl)
  clear hBX hB1
  clear hc_gf_0 hf_gf_0 hc_gf_1 hf_gf_1
  generalize ((w6_.setCell ⟨gf, 0, none⟩ (.bool fe)).setCell ⟨gf, 1, none⟩ (.slice A_f fs.length c_f)) = w7_ at hB hBN ⊢
  replace HB := mvH HB hB
  clear hc_gi_5 hc_gi_6 hc_gi_7
  clear BK_gi
  replace BK_gh := mvB BK_gh hB
  clear hG hBN hB
  go_wp2_with (first | (go_at_call 8; with_reducible refine (stolonlaw07_shown.calls true _ rfl).mono ?_; rintro e w8_ ⟨rfl, hB⟩; replace HB := mvH HB hB; replace BK_gh := mvB BK_gh hB; have hc_gh_0 : w8_.cell? ⟨gh, 0, none⟩ = some (.slice A_l l.length c_l) := (blk_cell BK_gh.out 0).trans rfl; clear hB) | (go_at_call 13; with_reducible refine (few7_w Xhf.out _ _ _ (Kd.C_below HC_l.out HB.out) HK_l.out).mono ?_; rintro e w9_ ⟨rfl, hB⟩; replace HB := mvH HB hB; clear hc_gh_0; replace BK_gh := mvB BK_gh hB; have hc_gh_0 : w9_.cell? ⟨gh, 0, none⟩ = some (.slice A_l l.length c_l) := (blk_cell BK_gh.out 0).trans rfl; clear hB) | (go_at_call 14; with_reducible refine (right7_w Xhg.out _ _ _ (Kd.C_below HC_l.out HB.out) HK_l.out).mono ?_; rintro e w10_ ⟨rfl, hB⟩; replace HB := mvH HB hB; clear hc_gh_0; clear BK_gh; clear hB))
  go_ret
  exact ⟨rfl, HB.out⟩
theorem chs_long {k : Nat} {l : List S42} {s : S42} {fs : List Int} (hf : stolonref07_Few.f k l = some true) (hg : stolonref07_Right.f k l = some true) (hL : (100 : Int) < wrap64 ((s.f2.f1.length : Int) + (fs.length : Int))) (A_l : Option Addr) (c_l : Nat) (A_s : Option Addr) (c_s : Nat) (id : Int) (fe : Bool) (A_f : Option Addr) (c_f : Nat) (w : World) (hr : Kd.C k42 w A_l l.length l) (hc : l.length ≤ c_l) (hs : Kd.C (Kd.int .u32) w A_s s.f2.f1.length s.f2.f1) (hcs : s.f2.f1.length ≤ c_s) (hf_ : Kd.C (Kd.int .u32) w A_f fs.length fs) (hcf : fs.length ≤ c_f) :
    Calls Try.prog 5 #[.agg #[.slice A_l l.length c_l, .int .i64 s.f0, .int .u32 s.f1, .bool s.f2.f0, .slice A_s s.f2.f1.length c_s, .int .i64 id, .bool fe, .slice A_f fs.length c_f]] w fun e w' => e = .returned (.bool true) ∧ Below w.heap.size w w' := by
  have hu40 := Try.underlying40
  have hu42 := Try.underlying42
  have hu26 := Try.underlying26
  have hu52 := Try.underlying52
  have HB := Aside0.mk (Below.refl w.heap.size w)
  have HC_l := Aside0.mk hr
  have HK_l := Aside0.mk hc
  clear hr hc hs hcs hf_ hcf
  have Xhf := Aside0.mk hf
  have Xhg := Aside0.mk hg
  clear hf hg
  go_enter Try.func5, Try.ntmps5
  go_upto_region 2 with (first | ((with_reducible refine gate_dst (N := 1) rfl ?_); (try (refine gate_guard (by rfl) ?_; dsimp only)); refine bxn (cs := #[.slice A_l l.length c_l, .int .i64 s.f0, .int .u32 s.f1, .bool s.f2.f0, .slice A_s s.f2.f1.length c_s, .int .i64 id, .bool fe, .slice A_f fs.length c_f]) (t := 52) ?_; intro gi hg w1_ hbox hB; replace HB := mvH HB hB; have BK_gi := Aside0.mk hbox; clear hg hbox hB; have hc_gi_0 := (cf8 BK_gi.out).1) | ((with_reducible refine gate_dst (N := 3) rfl ?_); (try (refine gate_guard (by rfl) ?_; dsimp only)); refine bxn (cs := #[.slice none 0 0]) (t := 40) ?_; intro gh hg w2_ hbox hB0; have hG := Aside0.mk (show w1_.heap.size ≤ gh from Nat.le_of_eq hg.symm); clear hg; have hBX := Aside0.mk hbox; have hB1 := Aside0.mk hB0; clear hB0; have hc_gh_0 : w2_.cell? ⟨gh, 0, none⟩ = some (.slice none 0 0) := (blk_cell hbox 0).trans rfl; have hf_gh_0 := blk_frozen hbox 0; clear hbox))
  have hB : Below w1_.heap.size w1_ (w2_.setCell ⟨gh, 0, none⟩ (.slice A_l l.length c_l)) := (below_set hB1.out hG.out)
  have hBN : (w2_.setCell ⟨gh, 0, none⟩ (.slice A_l l.length c_l)).heap[gh]? = some (.cells #[.slice A_l l.length c_l] 40 (0, 0)) := (blk_put (cs := #[.slice none 0 0]) hBX.out 0 (.slice A_l l.length c_l) rfl)
  clear hBX hB1
  clear hc_gh_0 hf_gh_0
  generalize (w2_.setCell ⟨gh, 0, none⟩ (.slice A_l l.length c_l)) = w3_ at hB hBN ⊢
  replace HB := mvH HB hB
  clear hc_gi_0
  replace BK_gi := mvB BK_gi hB
  have hc_gi_1 := (cf8 BK_gi.out).2.1
  have hc_gi_2 := (cf8 BK_gi.out).2.2.1
  have hc_gi_3 := (cf8 BK_gi.out).2.2.2.1
  have hc_gi_4 := (cf8 BK_gi.out).2.2.2.2.1
  have BK_gh := Aside0.mk hBN
  clear hG hBN hB
  go_upto_region 3 with (first | ((with_reducible refine gate_dst (N := 4) rfl ?_); (try (refine gate_guard (by rfl) ?_; dsimp only)); refine bxn (cs := #[.int .i64 0, .int .u32 0, .bool false, .slice none 0 0]) (t := 42) ?_; intro gs hg w4_ hbox hB0; have hG := Aside0.mk (show w3_.heap.size ≤ gs from Nat.le_of_eq hg.symm); clear hg; have hBX := Aside0.mk hbox; have hB1 := Aside0.mk hB0; clear hB0; obtain ⟨hc_gs_0, hc_gs_1, hc_gs_2, hc_gs_3, hf_gs_0, hf_gs_1, hf_gs_2, hf_gs_3⟩ := cf4 hbox; clear hbox))
  have hB : Below w3_.heap.size w3_ ((((w4_.setCell ⟨gs, 0, none⟩ (.int .i64 s.f0)).setCell ⟨gs, 1, none⟩ (.int .u32 s.f1)).setCell ⟨gs, 2, none⟩ (.bool s.f2.f0)).setCell ⟨gs, 3, none⟩ (.slice A_s s.f2.f1.length c_s)) := (below_set (below_set (below_set (below_set hB1.out hG.out) hG.out) hG.out) hG.out)
  have hBN : ((((w4_.setCell ⟨gs, 0, none⟩ (.int .i64 s.f0)).setCell ⟨gs, 1, none⟩ (.int .u32 s.f1)).setCell ⟨gs, 2, none⟩ (.bool s.f2.f0)).setCell ⟨gs, 3, none⟩ (.slice A_s s.f2.f1.length c_s)).heap[gs]? = some (.cells #[.int .i64 s.f0, .int .u32 s.f1, .bool s.f2.f0, .slice A_s s.f2.f1.length c_s] 42 (0, 0)) := (blk_put (cs := #[.int .i64 s.f0, .int .u32 s.f1, .bool s.f2.f0, .slice none 0 0]) (blk_put (cs := #[.int .i64 s.f0, .int .u32 s.f1, .bool false, .slice none 0 0]) (blk_put (cs := #[.int .i64 s.f0, .int .u32 0, .bool false, .slice none 0 0]) (blk_put (cs := #[.int .i64 0, .int .u32 0, .bool false, .slice none 0 0]) hBX.out 0 (.int .i64 s.f0) rfl) 1 (.int .u32 s.f1) rfl) 2 (.bool s.f2.f0) rfl) 3 (.slice A_s s.f2.f1.length c_s) rfl)
  clear hBX hB1
  clear hc_gs_0 hf_gs_0 hc_gs_1 hf_gs_1 hc_gs_2 hf_gs_2 hc_gs_3 hf_gs_3
  generalize ((((w4_.setCell ⟨gs, 0, none⟩ (.int .i64 s.f0)).setCell ⟨gs, 1, none⟩ (.int .u32 s.f1)).setCell ⟨gs, 2, none⟩ (.bool s.f2.f0)).setCell ⟨gs, 3, none⟩ (.slice A_s s.f2.f1.length c_s)) = w5_ at hB hBN ⊢
  replace HB := mvH HB hB
  clear hc_gi_1 hc_gi_2 hc_gi_3 hc_gi_4
  replace BK_gi := mvB BK_gi hB
  have hc_gi_5 := (cf8 BK_gi.out).2.2.2.2.2.1
  have hc_gi_6 := (cf8 BK_gi.out).2.2.2.2.2.2.1
  have hc_gi_7 := (cf8 BK_gi.out).2.2.2.2.2.2.2.1
  replace BK_gh := mvB BK_gh hB
  have BK_gs := Aside0.mk hBN
  clear hG hBN hB
  go_upto_region 5 with (first | ((with_reducible refine gate_dst (N := 6) rfl ?_); (try (refine gate_guard (by rfl) ?_; dsimp only)); refine bxn (cs := #[.bool false, .slice none 0 0]) (t := 26) ?_; intro gf hg w6_ hbox hB0; have hG := Aside0.mk (show w5_.heap.size ≤ gf from Nat.le_of_eq hg.symm); clear hg; have hBX := Aside0.mk hbox; have hB1 := Aside0.mk hB0; clear hB0; obtain ⟨hc_gf_0, hc_gf_1, hf_gf_0, hf_gf_1⟩ := cf2 hbox; clear hbox))
  have hB : Below w5_.heap.size w5_ ((w6_.setCell ⟨gf, 0, none⟩ (.bool fe)).setCell ⟨gf, 1, none⟩ (.slice A_f fs.length c_f)) := (below_set (below_set hB1.out hG.out) hG.out)
  have hBN : ((w6_.setCell ⟨gf, 0, none⟩ (.bool fe)).setCell ⟨gf, 1, none⟩ (.slice A_f fs.length c_f)).heap[gf]? = some (.cells #[.bool fe, .slice A_f fs.length c_f] 26 (0, 0)) := (blk_put (cs := #[.bool fe, .slice none 0 0]) (blk_put (cs := #[.bool false, .slice none 0 0]) hBX.out 0 (.bool fe) rfl) 1 (.slice A_f fs.length c_f) rfl)
  clear hBX hB1
  clear hc_gf_0 hf_gf_0 hc_gf_1 hf_gf_1
  generalize ((w6_.setCell ⟨gf, 0, none⟩ (.bool fe)).setCell ⟨gf, 1, none⟩ (.slice A_f fs.length c_f)) = w7_ at hB hBN ⊢
  replace HB := mvH HB hB
  clear hc_gi_5 hc_gi_6 hc_gi_7
  clear BK_gi
  replace BK_gh := mvB BK_gh hB
  replace BK_gs := mvB BK_gs hB
  have BK_gf := Aside0.mk hBN
  clear hG hBN hB
  go_wp2_with (first | (go_at_call 8; with_reducible refine (stolonlaw07_shown.calls true _ rfl).mono ?_; rintro e w8_ ⟨rfl, hB⟩; replace HB := mvH HB hB; replace BK_gh := mvB BK_gh hB; have hc_gh_0 : w8_.cell? ⟨gh, 0, none⟩ = some (.slice A_l l.length c_l) := (blk_cell BK_gh.out 0).trans rfl; replace BK_gs := mvB BK_gs hB; replace BK_gf := mvB BK_gf hB; clear hB) | (go_at_call 13; with_reducible refine (few7_w Xhf.out _ _ _ (Kd.C_below HC_l.out HB.out) HK_l.out).mono ?_; rintro e w9_ ⟨rfl, hB⟩; replace HB := mvH HB hB; clear hc_gh_0; replace BK_gh := mvB BK_gh hB; have hc_gh_0 : w9_.cell? ⟨gh, 0, none⟩ = some (.slice A_l l.length c_l) := (blk_cell BK_gh.out 0).trans rfl; replace BK_gs := mvB BK_gs hB; replace BK_gf := mvB BK_gf hB; clear hB) | (go_at_call 14; with_reducible refine (right7_w Xhg.out _ _ _ (Kd.C_below HC_l.out HB.out) HK_l.out).mono ?_; rintro e w10_ ⟨rfl, hB⟩; replace HB := mvH HB hB; clear hc_gh_0; clear BK_gh; replace BK_gs := mvB BK_gs hB; have hc_gs_3 := (cf4 BK_gs.out).2.2.2.1; replace BK_gf := mvB BK_gf hB; have hc_gf_1 := (cf2 BK_gf.out).2.1; clear hB))
  go_ret
  exact ⟨rfl, HB.out⟩
theorem chs_main {k : Nat} {l : List S42} {s : S42} {fs : List Int} (hf : stolonref07_Few.f k l = some true) (hg : stolonref07_Right.f k l = some true) (hL : ¬ (100 : Int) < wrap64 ((s.f2.f1.length : Int) + (fs.length : Int))) (hl : HOk l) (hm : s.f2.f1.length ≤ 1000000) {la lc : List S42} {ra rc : List S36} {ea ec : Int} (id : Int) (fe : Bool) (h1 : putL l s = la) (h2 : putR l s = ra) (h3 : putE l s = ea) (h4 : dropL l id = lc) (h5 : dropR l id = rc) (h6 : dropE l id = ec) (hsa : stolonref07_Same.f k la la = some true) (hsc : stolonref07_Same.f k lc lc = some true) (hra : stolonref05_Recs.f k ra ra = some true) (hrc : stolonref05_Recs.f k rc rc = some true) {bx bs : Bool} (hx : stolonref06_Right.f k fs = some bx) (hy : stolonref06_Right.f k s.f2.f1 = some bs) {rs : List S36} (hch : bx = true → bs = true → host_Change.f s.f1 fe fs s.f2.f0 s.f2.f1 = some rs) (hrch : bx = true → bs = true → stolonref07_Change.f s.f1 fe fs s.f2.f0 s.f2.f1 = some rs) (hrs : bx = true → bs = true → stolonref05_Recs.f k rs rs = some true) (A_l : Option Addr) (c_l : Nat) (A_s : Option Addr) (c_s : Nat) (A_f : Option Addr) (c_f : Nat) (w : World) (hr : Kd.C k42 w A_l l.length l) (hc : l.length ≤ c_l) (hs : Kd.C (Kd.int .u32) w A_s s.f2.f1.length s.f2.f1) (hcs : s.f2.f1.length ≤ c_s) (hf_ : Kd.C (Kd.int .u32) w A_f fs.length fs) (hcf : fs.length ≤ c_f) :
    Calls Try.prog 5 #[.agg #[.slice A_l l.length c_l, .int .i64 s.f0, .int .u32 s.f1, .bool s.f2.f0, .slice A_s s.f2.f1.length c_s, .int .i64 id, .bool fe, .slice A_f fs.length c_f]] w fun e w' => e = .returned (.bool true) ∧ Below w.heap.size w w' := by
  have hu40 := Try.underlying40
  have hu42 := Try.underlying42
  have hu26 := Try.underlying26
  have hu52 := Try.underlying52
  have HB := Aside0.mk (Below.refl w.heap.size w)
  have HC_l := Aside0.mk hr
  have HK_l := Aside0.mk hc
  have HC_s := Aside0.mk hs
  have HK_s := Aside0.mk hcs
  have HC_f := Aside0.mk hf_
  have HK_f := Aside0.mk hcf
  clear hr hc hs hcs hf_ hcf
  have Xhf := Aside0.mk hf
  have Xhg := Aside0.mk hg
  have Xhl := Aside0.mk hl
  have Xhm := Aside0.mk hm
  have Xh1 := Aside0.mk h1
  have Xh2 := Aside0.mk h2
  have Xh3 := Aside0.mk h3
  have Xh4 := Aside0.mk h4
  have Xh5 := Aside0.mk h5
  have Xh6 := Aside0.mk h6
  have Xhsa := Aside0.mk hsa
  have Xhsc := Aside0.mk hsc
  have Xhra := Aside0.mk hra
  have Xhrc := Aside0.mk hrc
  have Xhx := Aside0.mk hx
  have Xhy := Aside0.mk hy
  have Xhch := Aside0.mk hch
  have Xhrch := Aside0.mk hrch
  have Xhrs := Aside0.mk hrs
  clear hf hg hl hm h1 h2 h3 h4 h5 h6 hsa hsc hra hrc hx hy hch hrch hrs
  go_enter Try.func5, Try.ntmps5
  go_upto_region 2 with (first | ((with_reducible refine gate_dst (N := 1) rfl ?_); (try (refine gate_guard (by rfl) ?_; dsimp only)); refine bxn (cs := #[.slice A_l l.length c_l, .int .i64 s.f0, .int .u32 s.f1, .bool s.f2.f0, .slice A_s s.f2.f1.length c_s, .int .i64 id, .bool fe, .slice A_f fs.length c_f]) (t := 52) ?_; intro gi hg w1_ hbox hB; replace HB := mvH HB hB; have BK_gi := Aside0.mk hbox; clear hg hbox hB; have hc_gi_0 := (cf8 BK_gi.out).1) | ((with_reducible refine gate_dst (N := 3) rfl ?_); (try (refine gate_guard (by rfl) ?_; dsimp only)); refine bxn (cs := #[.slice none 0 0]) (t := 40) ?_; intro gh hg w2_ hbox hB0; have hG := Aside0.mk (show w1_.heap.size ≤ gh from Nat.le_of_eq hg.symm); clear hg; have hBX := Aside0.mk hbox; have hB1 := Aside0.mk hB0; clear hB0; have hc_gh_0 : w2_.cell? ⟨gh, 0, none⟩ = some (.slice none 0 0) := (blk_cell hbox 0).trans rfl; have hf_gh_0 := blk_frozen hbox 0; clear hbox))
  have hB : Below w1_.heap.size w1_ (w2_.setCell ⟨gh, 0, none⟩ (.slice A_l l.length c_l)) := (below_set hB1.out hG.out)
  have hBN : (w2_.setCell ⟨gh, 0, none⟩ (.slice A_l l.length c_l)).heap[gh]? = some (.cells #[.slice A_l l.length c_l] 40 (0, 0)) := (blk_put (cs := #[.slice none 0 0]) hBX.out 0 (.slice A_l l.length c_l) rfl)
  clear hBX hB1
  clear hc_gh_0 hf_gh_0
  generalize (w2_.setCell ⟨gh, 0, none⟩ (.slice A_l l.length c_l)) = w3_ at hB hBN ⊢
  replace HB := mvH HB hB
  clear hc_gi_0
  replace BK_gi := mvB BK_gi hB
  have hc_gi_1 := (cf8 BK_gi.out).2.1
  have hc_gi_2 := (cf8 BK_gi.out).2.2.1
  have hc_gi_3 := (cf8 BK_gi.out).2.2.2.1
  have hc_gi_4 := (cf8 BK_gi.out).2.2.2.2.1
  have BK_gh := Aside0.mk hBN
  clear hG hBN hB
  go_upto_region 3 with (first | ((with_reducible refine gate_dst (N := 4) rfl ?_); (try (refine gate_guard (by rfl) ?_; dsimp only)); refine bxn (cs := #[.int .i64 0, .int .u32 0, .bool false, .slice none 0 0]) (t := 42) ?_; intro gs hg w4_ hbox hB0; have hG := Aside0.mk (show w3_.heap.size ≤ gs from Nat.le_of_eq hg.symm); clear hg; have hBX := Aside0.mk hbox; have hB1 := Aside0.mk hB0; clear hB0; obtain ⟨hc_gs_0, hc_gs_1, hc_gs_2, hc_gs_3, hf_gs_0, hf_gs_1, hf_gs_2, hf_gs_3⟩ := cf4 hbox; clear hbox))
  have hB : Below w3_.heap.size w3_ ((((w4_.setCell ⟨gs, 0, none⟩ (.int .i64 s.f0)).setCell ⟨gs, 1, none⟩ (.int .u32 s.f1)).setCell ⟨gs, 2, none⟩ (.bool s.f2.f0)).setCell ⟨gs, 3, none⟩ (.slice A_s s.f2.f1.length c_s)) := (below_set (below_set (below_set (below_set hB1.out hG.out) hG.out) hG.out) hG.out)
  have hBN : ((((w4_.setCell ⟨gs, 0, none⟩ (.int .i64 s.f0)).setCell ⟨gs, 1, none⟩ (.int .u32 s.f1)).setCell ⟨gs, 2, none⟩ (.bool s.f2.f0)).setCell ⟨gs, 3, none⟩ (.slice A_s s.f2.f1.length c_s)).heap[gs]? = some (.cells #[.int .i64 s.f0, .int .u32 s.f1, .bool s.f2.f0, .slice A_s s.f2.f1.length c_s] 42 (0, 0)) := (blk_put (cs := #[.int .i64 s.f0, .int .u32 s.f1, .bool s.f2.f0, .slice none 0 0]) (blk_put (cs := #[.int .i64 s.f0, .int .u32 s.f1, .bool false, .slice none 0 0]) (blk_put (cs := #[.int .i64 s.f0, .int .u32 0, .bool false, .slice none 0 0]) (blk_put (cs := #[.int .i64 0, .int .u32 0, .bool false, .slice none 0 0]) hBX.out 0 (.int .i64 s.f0) rfl) 1 (.int .u32 s.f1) rfl) 2 (.bool s.f2.f0) rfl) 3 (.slice A_s s.f2.f1.length c_s) rfl)
  clear hBX hB1
  clear hc_gs_0 hf_gs_0 hc_gs_1 hf_gs_1 hc_gs_2 hf_gs_2 hc_gs_3 hf_gs_3
  generalize ((((w4_.setCell ⟨gs, 0, none⟩ (.int .i64 s.f0)).setCell ⟨gs, 1, none⟩ (.int .u32 s.f1)).setCell ⟨gs, 2, none⟩ (.bool s.f2.f0)).setCell ⟨gs, 3, none⟩ (.slice A_s s.f2.f1.length c_s)) = w5_ at hB hBN ⊢
  replace HB := mvH HB hB
  clear hc_gi_1 hc_gi_2 hc_gi_3 hc_gi_4
  replace BK_gi := mvB BK_gi hB
  have hc_gi_5 := (cf8 BK_gi.out).2.2.2.2.2.1
  have hc_gi_6 := (cf8 BK_gi.out).2.2.2.2.2.2.1
  have hc_gi_7 := (cf8 BK_gi.out).2.2.2.2.2.2.2.1
  replace BK_gh := mvB BK_gh hB
  have BK_gs := Aside0.mk hBN
  clear hG hBN hB
  go_upto_region 5 with (first | ((with_reducible refine gate_dst (N := 6) rfl ?_); (try (refine gate_guard (by rfl) ?_; dsimp only)); refine bxn (cs := #[.bool false, .slice none 0 0]) (t := 26) ?_; intro gf hg w6_ hbox hB0; have hG := Aside0.mk (show w5_.heap.size ≤ gf from Nat.le_of_eq hg.symm); clear hg; have hBX := Aside0.mk hbox; have hB1 := Aside0.mk hB0; clear hB0; obtain ⟨hc_gf_0, hc_gf_1, hf_gf_0, hf_gf_1⟩ := cf2 hbox; clear hbox))
  have hB : Below w5_.heap.size w5_ ((w6_.setCell ⟨gf, 0, none⟩ (.bool fe)).setCell ⟨gf, 1, none⟩ (.slice A_f fs.length c_f)) := (below_set (below_set hB1.out hG.out) hG.out)
  have hBN : ((w6_.setCell ⟨gf, 0, none⟩ (.bool fe)).setCell ⟨gf, 1, none⟩ (.slice A_f fs.length c_f)).heap[gf]? = some (.cells #[.bool fe, .slice A_f fs.length c_f] 26 (0, 0)) := (blk_put (cs := #[.bool fe, .slice none 0 0]) (blk_put (cs := #[.bool false, .slice none 0 0]) hBX.out 0 (.bool fe) rfl) 1 (.slice A_f fs.length c_f) rfl)
  clear hBX hB1
  clear hc_gf_0 hf_gf_0 hc_gf_1 hf_gf_1
  generalize ((w6_.setCell ⟨gf, 0, none⟩ (.bool fe)).setCell ⟨gf, 1, none⟩ (.slice A_f fs.length c_f)) = w7_ at hB hBN ⊢
  replace HB := mvH HB hB
  clear hc_gi_5 hc_gi_6 hc_gi_7
  clear BK_gi
  replace BK_gh := mvB BK_gh hB
  replace BK_gs := mvB BK_gs hB
  have BK_gf := Aside0.mk hBN
  clear hG hBN hB
  go_upto_region 9 with (first | (go_at_call 8; with_reducible refine (stolonlaw07_shown.calls true _ rfl).mono ?_; rintro e w8_ ⟨rfl, hB⟩; replace HB := mvH HB hB; replace BK_gh := mvB BK_gh hB; have hc_gh_0 : w8_.cell? ⟨gh, 0, none⟩ = some (.slice A_l l.length c_l) := (blk_cell BK_gh.out 0).trans rfl; replace BK_gs := mvB BK_gs hB; replace BK_gf := mvB BK_gf hB; clear hB) | (go_at_call 13; with_reducible refine (few7_w Xhf.out _ _ _ (Kd.C_below HC_l.out HB.out) HK_l.out).mono ?_; rintro e w9_ ⟨rfl, hB⟩; replace HB := mvH HB hB; clear hc_gh_0; replace BK_gh := mvB BK_gh hB; have hc_gh_0 : w9_.cell? ⟨gh, 0, none⟩ = some (.slice A_l l.length c_l) := (blk_cell BK_gh.out 0).trans rfl; replace BK_gs := mvB BK_gs hB; replace BK_gf := mvB BK_gf hB; clear hB) | (go_at_call 14; with_reducible refine (right7_w Xhg.out _ _ _ (Kd.C_below HC_l.out HB.out) HK_l.out).mono ?_; rintro e w10_ ⟨rfl, hB⟩; replace HB := mvH HB hB; clear hc_gh_0; replace BK_gh := mvB BK_gh hB; have hc_gh_0 : w10_.cell? ⟨gh, 0, none⟩ = some (.slice A_l l.length c_l) := (blk_cell BK_gh.out 0).trans rfl; replace BK_gs := mvB BK_gs hB; have hc_gs_0 := (cf4 BK_gs.out).1; have hc_gs_1 := (cf4 BK_gs.out).2.1; have hc_gs_2 := (cf4 BK_gs.out).2.2.1; have hc_gs_3 := (cf4 BK_gs.out).2.2.2.1; replace BK_gf := mvB BK_gf hB; have hc_gf_1 := (cf2 BK_gf.out).2.1; clear hB) | (go_at_call 15; (with_reducible refine (vput A_l c_l A_s c_s _ Xhl.out Xhm.out Xh1.out Xh2.out Xh3.out (Kd.C_below HC_l.out HB.out) HK_l.out (Kd.C_below HC_s.out HB.out) HK_s.out).mono ?_); rintro e_ w11_ ⟨A_a, c_a, A_ar, c_ar, rfl, hC, hK, hCr, hKr, hB⟩; replace HB := mvH HB hB; clear hc_gh_0; replace BK_gh := mvB BK_gh hB; clear hc_gs_0 hc_gs_1 hc_gs_2 hc_gs_3; replace BK_gs := mvB BK_gs hB; clear hc_gf_1; replace BK_gf := mvB BK_gf hB; have HC_a := Aside0.mk hC; have HK_a := Aside0.mk hK; have HC_ar := Aside0.mk hCr; have HK_ar := Aside0.mk hKr; clear hC hK hCr hKr hB) | ((with_reducible refine gate_dst (N := 8) rfl ?_); (try (refine gate_guard (by rfl) ?_; dsimp only)); refine bxn (cs := #[.slice none 0 0]) (t := 40) ?_; intro ga hg w12_ hbox hB0; have hG := Aside0.mk (show w11_.heap.size ≤ ga from Nat.le_of_eq hg.symm); clear hg; have hBX := Aside0.mk hbox; have hB1 := Aside0.mk hB0; clear hB0; have hc_ga_0 : w12_.cell? ⟨ga, 0, none⟩ = some (.slice none 0 0) := (blk_cell hbox 0).trans rfl; have hf_ga_0 := blk_frozen hbox 0; clear hbox))
  have hB : Below w11_.heap.size w11_ (w12_.setCell ⟨ga, 0, none⟩ (.slice A_a la.length c_a)) := (below_set hB1.out hG.out)
  have hBN : (w12_.setCell ⟨ga, 0, none⟩ (.slice A_a la.length c_a)).heap[ga]? = some (.cells #[.slice A_a la.length c_a] 40 (0, 0)) := (blk_put (cs := #[.slice none 0 0]) hBX.out 0 (.slice A_a la.length c_a) rfl)
  clear hBX hB1
  clear hc_ga_0 hf_ga_0
  generalize (w12_.setCell ⟨ga, 0, none⟩ (.slice A_a la.length c_a)) = w13_ at hB hBN ⊢
  replace HB := mvH HB hB
  replace BK_gh := mvB BK_gh hB
  have hc_gh_0 : w13_.cell? ⟨gh, 0, none⟩ = some (.slice A_l l.length c_l) := (blk_cell BK_gh.out 0).trans rfl
  replace BK_gs := mvB BK_gs hB
  have hc_gs_0 := (cf4 BK_gs.out).1
  have hc_gs_1 := (cf4 BK_gs.out).2.1
  have hc_gs_2 := (cf4 BK_gs.out).2.2.1
  have hc_gs_3 := (cf4 BK_gs.out).2.2.2.1
  replace BK_gf := mvB BK_gf hB
  replace HC_a := mvC HC_a hB
  replace HC_ar := mvC HC_ar hB
  have BK_ga := Aside0.mk hBN
  clear hG hBN hB
  go_upto_region 10 with (first | (go_at_call 19; (with_reducible refine (vrput A_l c_l A_s c_s _ Xhl.out Xhm.out Xh1.out Xh2.out Xh3.out (Kd.C_below HC_l.out HB.out) HK_l.out (Kd.C_below HC_s.out HB.out) HK_s.out).mono ?_); rintro e_ w14_ ⟨A_b, c_b, A_br, c_br, rfl, hC, hK, hCr, hKr, hB⟩; replace HB := mvH HB hB; clear hc_gh_0; replace BK_gh := mvB BK_gh hB; clear hc_gs_0 hc_gs_1 hc_gs_2 hc_gs_3; replace BK_gs := mvB BK_gs hB; replace BK_gf := mvB BK_gf hB; replace BK_ga := mvB BK_ga hB; replace HC_a := mvC HC_a hB; replace HC_ar := mvC HC_ar hB; have HC_b := Aside0.mk hC; have HK_b := Aside0.mk hK; have HC_br := Aside0.mk hCr; have HK_br := Aside0.mk hKr; clear hC hK hCr hKr hB) | ((with_reducible refine gate_dst (N := 11) rfl ?_); (try (refine gate_guard (by rfl) ?_; dsimp only)); refine bxn (cs := #[.slice none 0 0]) (t := 40) ?_; intro gb hg w15_ hbox hB0; have hG := Aside0.mk (show w14_.heap.size ≤ gb from Nat.le_of_eq hg.symm); clear hg; have hBX := Aside0.mk hbox; have hB1 := Aside0.mk hB0; clear hB0; have hc_gb_0 : w15_.cell? ⟨gb, 0, none⟩ = some (.slice none 0 0) := (blk_cell hbox 0).trans rfl; have hf_gb_0 := blk_frozen hbox 0; clear hbox))
  have hB : Below w14_.heap.size w14_ (w15_.setCell ⟨gb, 0, none⟩ (.slice A_b la.length c_b)) := (below_set hB1.out hG.out)
  have hBN : (w15_.setCell ⟨gb, 0, none⟩ (.slice A_b la.length c_b)).heap[gb]? = some (.cells #[.slice A_b la.length c_b] 40 (0, 0)) := (blk_put (cs := #[.slice none 0 0]) hBX.out 0 (.slice A_b la.length c_b) rfl)
  clear hBX hB1
  clear hc_gb_0 hf_gb_0
  generalize (w15_.setCell ⟨gb, 0, none⟩ (.slice A_b la.length c_b)) = w16_ at hB hBN ⊢
  replace HB := mvH HB hB
  replace BK_gh := mvB BK_gh hB
  have hc_gh_0 : w16_.cell? ⟨gh, 0, none⟩ = some (.slice A_l l.length c_l) := (blk_cell BK_gh.out 0).trans rfl
  replace BK_gs := mvB BK_gs hB
  replace BK_gf := mvB BK_gf hB
  replace BK_ga := mvB BK_ga hB
  replace HC_a := mvC HC_a hB
  replace HC_ar := mvC HC_ar hB
  replace HC_b := mvC HC_b hB
  replace HC_br := mvC HC_br hB
  have BK_gb := Aside0.mk hBN
  clear hG hBN hB
  go_upto_region 11 with (first | (go_at_call 20; (with_reducible refine (vdrop A_l c_l _ Xhl.out Xh4.out Xh5.out Xh6.out (Kd.C_below HC_l.out HB.out) HK_l.out).mono ?_); rintro e_ w17_ ⟨A_c, c_c, A_cr, c_cr, rfl, hC, hK, hCr, hKr, hB⟩; replace HB := mvH HB hB; clear hc_gh_0; replace BK_gh := mvB BK_gh hB; replace BK_gs := mvB BK_gs hB; replace BK_gf := mvB BK_gf hB; replace BK_ga := mvB BK_ga hB; replace BK_gb := mvB BK_gb hB; replace HC_a := mvC HC_a hB; replace HC_ar := mvC HC_ar hB; replace HC_b := mvC HC_b hB; replace HC_br := mvC HC_br hB; have HC_c := Aside0.mk hC; have HK_c := Aside0.mk hK; have HC_cr := Aside0.mk hCr; have HK_cr := Aside0.mk hKr; clear hC hK hCr hKr hB) | ((with_reducible refine gate_dst (N := 14) rfl ?_); (try (refine gate_guard (by rfl) ?_; dsimp only)); refine bxn (cs := #[.slice none 0 0]) (t := 40) ?_; intro gc hg w18_ hbox hB0; have hG := Aside0.mk (show w17_.heap.size ≤ gc from Nat.le_of_eq hg.symm); clear hg; have hBX := Aside0.mk hbox; have hB1 := Aside0.mk hB0; clear hB0; have hc_gc_0 : w18_.cell? ⟨gc, 0, none⟩ = some (.slice none 0 0) := (blk_cell hbox 0).trans rfl; have hf_gc_0 := blk_frozen hbox 0; clear hbox))
  have hB : Below w17_.heap.size w17_ (w18_.setCell ⟨gc, 0, none⟩ (.slice A_c lc.length c_c)) := (below_set hB1.out hG.out)
  have hBN : (w18_.setCell ⟨gc, 0, none⟩ (.slice A_c lc.length c_c)).heap[gc]? = some (.cells #[.slice A_c lc.length c_c] 40 (0, 0)) := (blk_put (cs := #[.slice none 0 0]) hBX.out 0 (.slice A_c lc.length c_c) rfl)
  clear hBX hB1
  clear hc_gc_0 hf_gc_0
  generalize (w18_.setCell ⟨gc, 0, none⟩ (.slice A_c lc.length c_c)) = w19_ at hB hBN ⊢
  replace HB := mvH HB hB
  replace BK_gh := mvB BK_gh hB
  have hc_gh_0 : w19_.cell? ⟨gh, 0, none⟩ = some (.slice A_l l.length c_l) := (blk_cell BK_gh.out 0).trans rfl
  replace BK_gs := mvB BK_gs hB
  replace BK_gf := mvB BK_gf hB
  replace BK_ga := mvB BK_ga hB
  replace BK_gb := mvB BK_gb hB
  replace HC_a := mvC HC_a hB
  replace HC_ar := mvC HC_ar hB
  replace HC_b := mvC HC_b hB
  replace HC_br := mvC HC_br hB
  replace HC_c := mvC HC_c hB
  replace HC_cr := mvC HC_cr hB
  have BK_gc := Aside0.mk hBN
  clear hG hBN hB
  go_upto_region 12 with (first | (go_at_call 21; (with_reducible refine (vrdrop A_l c_l _ Xhl.out Xh4.out Xh5.out Xh6.out (Kd.C_below HC_l.out HB.out) HK_l.out).mono ?_); rintro e_ w20_ ⟨A_d, c_d, A_dr, c_dr, rfl, hC, hK, hCr, hKr, hB⟩; replace HB := mvH HB hB; clear hc_gh_0; clear BK_gh; replace BK_gs := mvB BK_gs hB; replace BK_gf := mvB BK_gf hB; replace BK_ga := mvB BK_ga hB; replace BK_gb := mvB BK_gb hB; replace BK_gc := mvB BK_gc hB; replace HC_a := mvC HC_a hB; replace HC_ar := mvC HC_ar hB; replace HC_b := mvC HC_b hB; replace HC_br := mvC HC_br hB; replace HC_c := mvC HC_c hB; replace HC_cr := mvC HC_cr hB; have HC_d := Aside0.mk hC; have HK_d := Aside0.mk hK; have HC_dr := Aside0.mk hCr; have HK_dr := Aside0.mk hKr; clear hC hK hCr hKr hB) | ((with_reducible refine gate_dst (N := 17) rfl ?_); (try (refine gate_guard (by rfl) ?_; dsimp only)); refine bxn (cs := #[.slice none 0 0]) (t := 40) ?_; intro gd hg w21_ hbox hB0; have hG := Aside0.mk (show w20_.heap.size ≤ gd from Nat.le_of_eq hg.symm); clear hg; have hBX := Aside0.mk hbox; have hB1 := Aside0.mk hB0; clear hB0; have hc_gd_0 : w21_.cell? ⟨gd, 0, none⟩ = some (.slice none 0 0) := (blk_cell hbox 0).trans rfl; have hf_gd_0 := blk_frozen hbox 0; clear hbox))
  have hB : Below w20_.heap.size w20_ (w21_.setCell ⟨gd, 0, none⟩ (.slice A_d lc.length c_d)) := (below_set hB1.out hG.out)
  have hBN : (w21_.setCell ⟨gd, 0, none⟩ (.slice A_d lc.length c_d)).heap[gd]? = some (.cells #[.slice A_d lc.length c_d] 40 (0, 0)) := (blk_put (cs := #[.slice none 0 0]) hBX.out 0 (.slice A_d lc.length c_d) rfl)
  clear hBX hB1
  clear hc_gd_0 hf_gd_0
  generalize (w21_.setCell ⟨gd, 0, none⟩ (.slice A_d lc.length c_d)) = w22_ at hB hBN ⊢
  replace HB := mvH HB hB
  replace BK_gs := mvB BK_gs hB
  replace BK_gf := mvB BK_gf hB
  replace BK_ga := mvB BK_ga hB
  have hc_ga_0 : w22_.cell? ⟨ga, 0, none⟩ = some (.slice A_a la.length c_a) := (blk_cell BK_ga.out 0).trans rfl
  replace BK_gb := mvB BK_gb hB
  have hc_gb_0 : w22_.cell? ⟨gb, 0, none⟩ = some (.slice A_b la.length c_b) := (blk_cell BK_gb.out 0).trans rfl
  replace BK_gc := mvB BK_gc hB
  replace HC_a := mvC HC_a hB
  replace HC_ar := mvC HC_ar hB
  replace HC_b := mvC HC_b hB
  replace HC_br := mvC HC_br hB
  replace HC_c := mvC HC_c hB
  replace HC_cr := mvC HC_cr hB
  replace HC_d := mvC HC_d hB
  replace HC_dr := mvC HC_dr hB
  have BK_gd := Aside0.mk hBN
  clear hG hBN hB
  go_upto_region 14 with (first | (go_at_call 16; with_reducible refine (same7_w Xhsa.out A_a c_a A_b c_b _ HC_a.out HK_a.out HC_b.out HK_b.out).mono ?_; rintro e w23_ ⟨rfl, hB⟩; replace HB := mvH HB hB; replace BK_gs := mvB BK_gs hB; replace BK_gf := mvB BK_gf hB; clear hc_ga_0; clear BK_ga; clear hc_gb_0; clear BK_gb; replace BK_gc := mvB BK_gc hB; replace BK_gd := mvB BK_gd hB; clear HC_a; replace HC_ar := mvC HC_ar hB; clear HC_b; replace HC_br := mvC HC_br hB; replace HC_c := mvC HC_c hB; replace HC_cr := mvC HC_cr hB; replace HC_d := mvC HC_d hB; replace HC_dr := mvC HC_dr hB; clear hB) | (go_at_call 22; with_reducible refine (vrecs A_ar c_ar A_br c_br _ Xhra.out HC_ar.out HK_ar.out HC_br.out HK_br.out).mono ?_; rintro e w24_ ⟨rfl, hB⟩; replace HB := mvH HB hB; replace BK_gs := mvB BK_gs hB; replace BK_gf := mvB BK_gf hB; replace BK_gc := mvB BK_gc hB; have hc_gc_0 : w24_.cell? ⟨gc, 0, none⟩ = some (.slice A_c lc.length c_c) := (blk_cell BK_gc.out 0).trans rfl; replace BK_gd := mvB BK_gd hB; have hc_gd_0 : w24_.cell? ⟨gd, 0, none⟩ = some (.slice A_d lc.length c_d) := (blk_cell BK_gd.out 0).trans rfl; clear HC_ar; clear HC_br; replace HC_c := mvC HC_c hB; replace HC_cr := mvC HC_cr hB; replace HC_d := mvC HC_d hB; replace HC_dr := mvC HC_dr hB; clear hB) | (go_at_call 16; with_reducible refine (same7_w Xhsc.out A_c c_c A_d c_d _ HC_c.out HK_c.out HC_d.out HK_d.out).mono ?_; rintro e w25_ ⟨rfl, hB⟩; replace HB := mvH HB hB; replace BK_gs := mvB BK_gs hB; replace BK_gf := mvB BK_gf hB; clear hc_gc_0; clear BK_gc; clear hc_gd_0; clear BK_gd; clear HC_c; replace HC_cr := mvC HC_cr hB; clear HC_d; replace HC_dr := mvC HC_dr hB; clear hB) | (go_at_call 22; with_reducible refine (vrecs A_cr c_cr A_dr c_dr _ Xhrc.out HC_cr.out HK_cr.out HC_dr.out HK_dr.out).mono ?_; rintro e w26_ ⟨rfl, hB⟩; replace HB := mvH HB hB; replace BK_gs := mvB BK_gs hB; replace BK_gf := mvB BK_gf hB; have hc_gf_1 := (cf2 BK_gf.out).2.1; clear HC_cr; clear HC_dr; clear hB))
  cases bx with
  | false =>
    go_wp2_with (first | (go_at_call 9; with_reducible refine (right6_w Xhx.out A_f c_f _ (Kd.C_below HC_f.out HB.out) HK_f.out).mono ?_; rintro e w27_ ⟨rfl, hB⟩; replace HB := mvH HB hB; clear BK_gs; clear hc_gf_1; clear BK_gf; clear hB))
    go_ret
    exact ⟨rfl, HB.out⟩
  | true =>
  cases bs with
  | false =>
    go_wp2_with (first | (go_at_call 9; with_reducible refine (right6_w Xhx.out A_f c_f _ (Kd.C_below HC_f.out HB.out) HK_f.out).mono ?_; rintro e w27_ ⟨rfl, hB⟩; replace HB := mvH HB hB; replace BK_gs := mvB BK_gs hB; have hc_gs_3 := (cf4 BK_gs.out).2.2.2.1; clear hc_gf_1; clear BK_gf; clear hB) | (go_at_call 9; with_reducible refine (right6_w Xhy.out A_s c_s _ (Kd.C_below HC_s.out HB.out) HK_s.out).mono ?_; rintro e w28_ ⟨rfl, hB⟩; replace HB := mvH HB hB; clear hc_gs_3; clear BK_gs; clear hB))
    go_ret
    exact ⟨rfl, HB.out⟩
  | true =>
  have XQch := Aside0.mk (Xhch.out rfl rfl)
  have XQrch := Aside0.mk (Xhrch.out rfl rfl)
  have XQrs := Aside0.mk (Xhrs.out rfl rfl)
  go_upto_region 16 with (first | (go_at_call 9; with_reducible refine (right6_w Xhx.out A_f c_f _ (Kd.C_below HC_f.out HB.out) HK_f.out).mono ?_; rintro e w27_ ⟨rfl, hB⟩; replace HB := mvH HB hB; replace BK_gs := mvB BK_gs hB; have hc_gs_3 := (cf4 BK_gs.out).2.2.2.1; clear hc_gf_1; replace BK_gf := mvB BK_gf hB; clear hB) | (go_at_call 9; with_reducible refine (right6_w Xhy.out A_s c_s _ (Kd.C_below HC_s.out HB.out) HK_s.out).mono ?_; rintro e w28_ ⟨rfl, hB⟩; replace HB := mvH HB hB; clear hc_gs_3; replace BK_gs := mvB BK_gs hB; have hc_gs_0 := (cf4 BK_gs.out).1; have hc_gs_1 := (cf4 BK_gs.out).2.1; have hc_gs_2 := (cf4 BK_gs.out).2.2.1; have hc_gs_3 := (cf4 BK_gs.out).2.2.2.1; replace BK_gf := mvB BK_gf hB; have hc_gf_0 := (cf2 BK_gf.out).1; have hc_gf_1 := (cf2 BK_gf.out).2.1; clear hB))
  refine start_ (n := 17) (S := fun w' => w'.cell? ⟨gs, 0, none⟩ = some (.int .i64 s.f0) ∧ w'.cell? ⟨gs, 1, none⟩ = some (.int .u32 s.f1) ∧ w'.cell? ⟨gs, 2, none⟩ = some (.bool s.f2.f0) ∧ w'.cell? ⟨gs, 3, none⟩ = some (.slice A_s s.f2.f1.length c_s) ∧ w'.cell? ⟨gf, 0, none⟩ = some (.bool fe) ∧ w'.cell? ⟨gf, 1, none⟩ = some (.slice A_f fs.length c_f)) (ds := []) #[false, false, false, false, false, false, false, false, false, false, false, false, false, false, false, false, false] (by kernel_rfl) rfl rfl ⟨hc_gs_0, hc_gs_1, hc_gs_2, hc_gs_3, hc_gf_0, hc_gf_1⟩ (fun hHeld => ?_); refine with_tabW hh_t16 hh_b16 (fun HT_ HW_ => ?_)
  have hB : Below w28_.heap.size w28_ w28_.drew := below_drew (Below.refl _ _)
  generalize w28_.drew = w29_ at hB hHeld ⊢
  replace HB := mvH HB hB
  clear hc_gs_0 hc_gs_1 hc_gs_2 hc_gs_3
  replace BK_gs := mvB BK_gs hB
  clear hc_gf_0 hc_gf_1
  replace BK_gf := mvB BK_gf hB
  clear hB
  refine pw 0 121 (bb 17 1) rfl rfl HT_ ?_
  refine pw 1 122 (bb 17 3) rfl rfl HT_ ?_
  refine pw 2 123 (bb 17 7) rfl rfl HT_ ?_
  refine tk 3 124 (bb 17 15) rfl rfl HT_ HW_ hHeld ?_
  refine tk 4 125 (bb 17 31) rfl rfl HT_ HW_ hHeld ?_
  refine pw 5 126 (bb 17 63) rfl rfl HT_ ?_
  refine tk 6 127 (bb 17 127) rfl rfl HT_ HW_ hHeld ?_
  refine pw 8 129 (bb 17 383) rfl rfl HT_ ?_
  refine tk 9 130 (bb 17 895) rfl rfl HT_ HW_ hHeld ?_
  refine tk 10 131 (bb 17 1919) rfl rfl HT_ HW_ hHeld ?_
  refine pw 11 132 (bb 17 3967) rfl rfl HT_ ?_
  refine tk 12 133 (bb 17 8063) rfl rfl HT_ HW_ hHeld ?_
  refine on1 7 (some 128) (bb 17 8191) rfl rfl HT_ (fun K hK => ?_)
  refine gfn Try.func10 #[.int .u32 s.f1, .agg #[.bool fe, .slice A_f fs.length c_f], .agg #[.bool s.f2.f0, .slice A_s s.f2.f1.length c_s]] ?_
  (with_reducible refine (vchange A_f c_f A_s c_s _ XQch.out (Kd.C_below HC_f.out HB.out) HK_f.out (Kd.C_below HC_s.out HB.out) HK_s.out).mono ?_)
  rintro e w30_ ⟨A_u, c_u, rfl, hC, hK, hB⟩
  refine ⟨_, rfl, ?_⟩
  replace HB := mvH HB hB
  replace BK_gs := mvB BK_gs hB
  have hc_gs_0 := (cf4 BK_gs.out).1
  have hc_gs_1 := (cf4 BK_gs.out).2.1
  have hc_gs_2 := (cf4 BK_gs.out).2.2.1
  have hc_gs_3 := (cf4 BK_gs.out).2.2.2.1
  replace BK_gf := mvB BK_gf hB
  have hc_gf_0 := (cf2 BK_gf.out).1
  have hc_gf_1 := (cf2 BK_gf.out).2.1
  have HC_u := Aside0.mk hC
  have HK_u := Aside0.mk hK
  clear hC hK hB
  refine hK.out _ _ ⟨hc_gs_0, hc_gs_1, hc_gs_2, hc_gs_3, hc_gf_0, hc_gf_1⟩ (fun hHeld => ?_)
  clear hK K
  refine nm ?_
  refine on1 13 (some 134) (bb 17 16383) rfl rfl HT_ (fun K hK => ?_)
  refine gfn Try.func23 #[.int .u32 s.f1, .agg #[.bool fe, .slice A_f fs.length c_f], .agg #[.bool s.f2.f0, .slice A_s s.f2.f1.length c_s]] ?_
  (with_reducible refine (vrchange A_f c_f A_s c_s _ XQrch.out (Kd.C_below HC_f.out HB.out) HK_f.out (Kd.C_below HC_s.out HB.out) HK_s.out).mono ?_)
  rintro e w31_ ⟨A_v, c_v, rfl, hC, hK, hB⟩
  refine ⟨_, rfl, ?_⟩
  replace HB := mvH HB hB
  clear hc_gs_0 hc_gs_1 hc_gs_2 hc_gs_3
  replace BK_gs := mvB BK_gs hB
  have hc_gs_0 := (cf4 BK_gs.out).1
  have hc_gs_1 := (cf4 BK_gs.out).2.1
  have hc_gs_2 := (cf4 BK_gs.out).2.2.1
  have hc_gs_3 := (cf4 BK_gs.out).2.2.2.1
  clear hc_gf_0 hc_gf_1
  replace BK_gf := mvB BK_gf hB
  have hc_gf_0 := (cf2 BK_gf.out).1
  have hc_gf_1 := (cf2 BK_gf.out).2.1
  replace HC_u := mvC HC_u hB
  have HC_v := Aside0.mk hC
  have HK_v := Aside0.mk hK
  clear hC hK hB
  refine hK.out _ _ ⟨hc_gs_0, hc_gs_1, hc_gs_2, hc_gs_3, hc_gf_0, hc_gf_1⟩ (fun hHeld => ?_)
  clear hK K
  refine nm ?_
  refine on1 14 (some 135) (bb 17 32767) rfl rfl HT_ (fun K hK => ?_)
  refine gfn Try.func22 #[.slice A_u rs.length c_u, .slice A_v rs.length c_v] ?_
  with_reducible refine (vrecs A_u c_u A_v c_v _ XQrs.out HC_u.out HK_u.out HC_v.out HK_v.out).mono ?_
  rintro e w32_ ⟨rfl, hB⟩
  refine ⟨_, rfl, ?_⟩
  replace HB := mvH HB hB
  clear hc_gs_0 hc_gs_1 hc_gs_2 hc_gs_3
  replace BK_gs := mvB BK_gs hB
  have hc_gs_0 := (cf4 BK_gs.out).1
  have hc_gs_1 := (cf4 BK_gs.out).2.1
  have hc_gs_2 := (cf4 BK_gs.out).2.2.1
  have hc_gs_3 := (cf4 BK_gs.out).2.2.2.1
  clear hc_gf_0 hc_gf_1
  replace BK_gf := mvB BK_gf hB
  have hc_gf_0 := (cf2 BK_gf.out).1
  have hc_gf_1 := (cf2 BK_gf.out).2.1
  clear HC_u
  clear HC_v
  clear hB
  refine hK.out _ _ ⟨hc_gs_0, hc_gs_1, hc_gs_2, hc_gs_3, hc_gf_0, hc_gf_1⟩ (fun hHeld => ?_)
  clear hK K
  refine nm ?_
  refine pw 15 136 (bb 17 65535) rfl rfl HT_ ?_
  refine pw 16 2 (bb 17 131071) rfl rfl HT_ ?_
  refine done_ (done_of HT_.out (by kernel_rfl)) ?_
  go_wp2
  go_ret
  exact ⟨rfl, HB.out⟩
end Go.Proofs.Ytjncmiclpaodhaa
/-
  HostGroups, joined: the walk and what it computes.
-/
namespace Go.Proofs.Ytjncmiclpaodhaa
open Go.RowKit Go.Proofs.YtjncmiclpaodhaaW.PrintWords Go.Proofs.Ytjncmiclpaodhaa.PHo
set_option linter.unusedVariables false
set_option linter.unusedSimpArgs false
end Go.Proofs.Ytjncmiclpaodhaa
/-
  HostChanges, joined: the walk and what it computes.
-/
namespace Go.Proofs.Ytjncmiclpaodhaa
open Go.RowKit Go.Proofs.YtjncmiclpaodhaaW.PrintWords Go.Proofs.Ytjncmiclpaodhaa.PHo
set_option linter.unusedVariables false
set_option linter.unusedSimpArgs false
theorem keep_le (g y : Int) (s : List Int) : (hc_keep g y s).length ≤ 1 := by unfold hc_keep; split <;> simp
theorem keep_mem {g y : Int} {s : List Int} {r : S36} (h : r ∈ hc_keep g y s) : r.f2 = s := by
  unfold hc_keep at h
  split at h
  · rw [List.mem_singleton.1 h]
  · cases h
theorem chg_le (g : Int) (a b : Bool × List Int) : (chg g a b).length ≤ 2 := by
  unfold chg
  rw [List.length_append]
  have h1 := keep_le g (hc_sel a.1 b.1 (mns b.2 a.2) (mns a.2 b.2) b.2).1.1 (hc_sel a.1 b.1 (mns b.2 a.2) (mns a.2 b.2) b.2).1.2
  have h2 := keep_le g (hc_sel a.1 b.1 (mns b.2 a.2) (mns a.2 b.2) b.2).2.1 (hc_sel a.1 b.1 (mns b.2 a.2) (mns a.2 b.2) b.2).2.2
  omega
theorem chg_srcs (g : Int) (a b : Bool × List Int) (ha : a.2.length ≤ 40000) (hb : b.2.length ≤ 40000) : ∀ r ∈ chg g a b, r.f2.length ≤ 100000 := by
  intro r hr
  have h1 := mns_len b.2 a.2
  have h2 := mns_len a.2 b.2
  unfold chg at hr
  have key : ∀ (s : List Int), s = mns b.2 a.2 ∨ s = mns a.2 b.2 ∨ s = b.2 ∨ s = [] → s.length ≤ 100000 := by
    rintro s (rfl | rfl | rfl | rfl)
    · omega
    · omega
    · omega
    · simp
  rcases List.mem_append.1 hr with hr | hr
  · rw [keep_mem hr]
    refine key _ ?_
    unfold hc_sel
    split
    · split <;> simp
    · simp
  · rw [keep_mem hr]
    refine key _ ?_
    unfold hc_sel
    split
    · split <;> simp
    · simp
theorem recs_chg (g : Int) (a b : Bool × List Int) (ha : a.2.length ≤ 40000) (hb : b.2.length ≤ 40000) (k : Nat) (hk : 200000 ≤ k) : stolonref05_Recs.f k (chg g a b) (chg g a b) = some true :=
  recs_same _ (chg_srcs g a b ha hb) (by have := chg_le g a b; omega) k (by first | exact hk | omega)
theorem recs_nil (k : Nat) (hk : 200000 ≤ k) : stolonref05_Recs.f k [] [] = some true := recs_same [] (by simp) (by simp) k (by first | exact hk | omega)
theorem recs_put {l : List S42} (hl : HOk l) (s : S42) (k : Nat) (hk : 200000 ≤ k) : stolonref05_Recs.f k (putR l s) (putR l s) = some true := by
  unfold putR
  split
  · rename_i h
    have h2 := ins_ok hl h
    have w1 := (wnt_ok hl.1 hl.fok s.f1).2
    have w2 := (wnt_ok h2.1 h2.fok s.f1).2
    exact recs_chg _ _ _ (by omega) (by omega) k hk
  · exact recs_nil k hk
theorem recs_drop {l : List S42} (hl : HOk l) (id : Int) (k : Nat) (hk : 200000 ≤ k) : stolonref05_Recs.f k (dropR l id) (dropR l id) = some true := by
  unfold dropR
  split
  · have h2 := del_ok hl id
    have w1 := (wnt_ok hl.1 hl.fok (dropG l id)).2
    have w2 := (wnt_ok h2.1 h2.fok (dropG l id)).2
    exact recs_chg _ _ _ (by omega) (by omega) k hk
  · exact recs_nil k hk
theorem hostChanges_call {l : List S42} (hm : l.length ≤ 140737488351232) (hls : ∀ s ∈ l, s.f2.f1.length ≤ 140737488351232) (s : S42) (fs : List Int) (h1 : s.f2.f1.length ≤ 140737488351232) (h2 : fs.length ≤ 140737488351232) (A_l : Option Addr) (c_l : Nat) (A_s : Option Addr) (c_s : Nat) (id : Int) (fe : Bool) (A_f : Option Addr) (c_f : Nat) (w : World) (hr : Kd.C k42 w A_l l.length l) (hc : l.length ≤ c_l) (hs : Kd.C (Kd.int .u32) w A_s s.f2.f1.length s.f2.f1) (hcs : s.f2.f1.length ≤ c_s) (hf_ : Kd.C (Kd.int .u32) w A_f fs.length fs) (hcf : fs.length ≤ c_f) :
    Calls Try.prog 5 #[.agg #[.slice A_l l.length c_l, .int .i64 s.f0, .int .u32 s.f1, .bool s.f2.f0, .slice A_s s.f2.f1.length c_s, .int .i64 id, .bool fe, .slice A_f fs.length c_f]] w fun e w' => e = .returned (.bool true) ∧ Below w.heap.size w w' := by
  obtain ⟨b, hf, hf2⟩ := few_some l hm hls 2000000 (by decide)
  cases b
  · exact chs_few hf A_l c_l A_s c_s id fe A_f c_f w hr hc hs hcs hf_ hcf
  obtain ⟨b, hg, hg2⟩ := right7_ok l (hf2 rfl) 2000000 (by decide)
  cases b
  · exact chs_wrong hf hg A_l c_l A_s c_s id fe A_f c_f w hr hc hs hcs hf_ hcf
  have hl := hg2.1 rfl
  by_cases hL : (100 : Int) < wrap64 ((s.f2.f1.length : Int) + (fs.length : Int))
  · exact chs_long hf hg hL A_l c_l A_s c_s id fe A_f c_f w hr hc hs hcs hf_ hcf
  have hL2 := hL
  rw [w64 (by omega) (by omega)] at hL2
  have hm2 : s.f2.f1.length ≤ 1000000 := by omega
  have hsa := same7_same _ (put_ok hl s) 2000000 (by decide)
  have hsc := same7_same _ (drop_ok hl id) 2000000 (by decide)
  have hra := recs_put hl s 2000000 (by decide)
  have hrc := recs_drop hl id 2000000 (by decide)
  have hx := right_some fs (by omega) 2000000 (by omega)
  have hy := right_some s.f2.f1 (by omega) 2000000 (by omega)
  refine chs_main hf hg hL hl hm2 id fe rfl rfl rfl rfl rfl rfl hsa hsc hra hrc hx hy (rs := chg s.f1 (fe, fs) (s.f2.f0, s.f2.f1)) (fun _ _ => chg_some s.f1 (fe, fs) (s.f2.f0, s.f2.f1) (by show fs.length ≤ _; omega) (by show s.f2.f1.length ≤ _; omega)) (fun rf rs => rchg_some s.f1 (fe, fs) (s.f2.f0, s.f2.f1) (of_decide_eq_true rf) (of_decide_eq_true rs) (by show fs.length ≤ _; omega) (by show s.f2.f1.length ≤ _; omega)) (fun _ _ => recs_chg s.f1 (fe, fs) (s.f2.f0, s.f2.f1) (by show fs.length ≤ _; omega) (by show s.f2.f1.length ≤ _; omega) _ (by decide)) A_l c_l A_s c_s A_f c_f w hr hc hs hcs hf_ hcf
end Go.Proofs.Ytjncmiclpaodhaa
