/-
  Package set: Make.
-/
import Derived.Test.YtjncmiclpaodhaaReg
import Derived.Test.YtjncmiclpaodhaaMkP
import Derived.Test.YtjncmiclpaodhaaSoI
namespace Go.Proofs.Ytjncmiclpaodhaa
open Go.RowKit Go.Sort Go.Lib Go.Proofs.YtjncmiclpaodhaaW.PrintWords
set_option linter.unusedVariables false
set_option linter.unusedSimpArgs false
theorem ins_nil (w : World) : Calls Try.prog 86 #[.slice none 0 0, .int .i64 0, .int .i64 0] w fun e w' => e = .returned (.tuple #[]) ∧ w' = w := by
  go_enter Try.func86, Try.ntmps86
  go_wp2
  go_loopw [6] (fun vi wr => vi = .int .i64 1 ∧ wr = w) (fun _ _ => 0)
  case atStart => exact ⟨rfl, rfl⟩
  case round =>
    obtain ⟨rfl, rfl⟩ := hrel
    go_wp2
    go_end0
    exact ⟨rfl, rfl⟩
set_option maxRecDepth 100000 in
set_option maxHeartbeats 4000000 in
theorem pdq_nil (l : Int) (w : World) : Calls Try.prog 82 #[.slice none 0 0, .int .i64 0, .int .i64 0, .int .i64 l] w fun e w' => e = .returned (.tuple #[]) ∧ w' = w := by
  go_enter Try.func82, Try.ntmps82
  go_wp2
  go_loopg [1, 2] 1 (fun _ v1 v2 wr => v1 = .int .i64 0 ∧ v2 = .int .i64 0 ∧ wr = w)
  case atStart => exact ⟨rfl, rfl, rfl⟩
  case round =>
    obtain ⟨rfl, rfl, rfl⟩ := hrel
    go_wp2_with (go_at_call 86; refine (ins_nil _).mono ?_; rintro e w' ⟨rfl, rfl⟩)
    exact bodyPost_ret (results_none rfl _ _ _) rfl ⟨rfl, rfl⟩
theorem sort_nil (w : World) : Calls Try.prog 75 #[.slice none 0 0] w fun e w' => e = .returned (.tuple #[]) ∧ w' = w := by
  go_enter Try.func75, Try.ntmps75
  go_wp2_with (first | (go_at_call 83; refine (len_w 0 (by decide) _).mono ?_; rintro e w' ⟨L, rfl, hL, rfl⟩; clear hL) | (go_at_call 82; refine (pdq_nil _ _).mono ?_; rintro e w' ⟨rfl, rfl⟩))
  go_end0
  exact ⟨rfl, rfl⟩
theorem sort_w {g m n cap : Nat} {d : Array Int} {w : World} (h : Lies w w g m d) (hn : d.size = n) (hsz : n < 65536) :
    Calls Try.prog 75 #[.slice (some ⟨g, 0, none⟩) n cap] w (Sorted_ 0 n g m d w) := by
  have HL := Lib.hid h
  have HN := Lib.hid hn
  have HZ := Lib.hid hsz
  have hw : IntKind.u64.wrap (n : Int) = (n : Int) := by rw [IntKind.wrap_u64]; omega
  clear h hn hsz
  go_enter Try.func75, Try.ntmps75
  go_wp2_with (first | (go_at_call 83; refine (len_w n HZ.out _).mono ?_; rintro e w' ⟨L, rfl, hL, rfl⟩; clear hL) | (go_at_call 82; refine (pdq_w HZ.out (n + 1) 0 n _ d _ (by omega) (Nat.zero_le _) (Nat.le_refl _) HN.out HL.out (.inl rfl)).mono ?_; rintro r w' ⟨rfl, hR⟩; have HR := Lib.hid hR; clear hR))
  go_end0
  exact ⟨rfl, HR.out⟩
theorem collect_w (Bs : Nat) (A : Option Addr) (c : Nat) (ls : List Int) (hl : ls.length < 65536) (w : World) (h1 : Boxed w Bs 24 (.slice A ls.length c)) (hr : ReadsInt w .u32 A ls.length ls) :
    Calls Try.prog 74 #[.func (.func 76) #[] #[.pointer (some ⟨Bs, 0, none⟩)]] w fun e w' => ∃ v, e = .returned v ∧ w'.ownsRow w.heap.size 23 1 v ls.length (nums .u32 ls) ∧ Below w.heap.size w w' := by
  have H1 := Lib.hid h1
  have HR := Lib.hid hr
  have HZ := Lib.hid hl
  clear h1 hr hl
  go_enter Try.func74, Try.ntmps74
  go_wp2_with (go_at_call 81; refine (appseq_w Bs A c ls (by have := HZ.out; omega) _ H1.out HR.out).mono ?_; rintro e w' ⟨v, rfl, hv⟩; have HV := Lib.hid hv; clear hv)
  go_ret
  exact ⟨v, rfl, HV.out⟩
theorem lies_of_own {w : World} {b g cap n : Nat} {cur : Array Value} {ls : List Int} (hg : w.heap[g]? = some (.cells cur 23 (0, 0))) (hs : cur.size = cap) (hn : ls.length = n) (hc : n ≤ cap) (ht : cur.toList.take n = nums .u32 ls) : Lies w w g cap ls.toArray := by
  subst hn
  refine ⟨Off.refl _ _, by simpa using hc, cur, hg, hs, fun i hi => ?_⟩
  have hi' : i < ls.length := by simpa using hi
  have h1 : (cur.toList.take ls.length)[i]? = (nums .u32 ls)[i]? := by rw [ht]
  rw [List.getElem?_take, if_pos hi', Array.getElem?_toList] at h1
  rw [h1, getElem!_pos ls.toArray i hi]
  simp [nums, hi']
theorem own_of_front {w0 w : World} {b g cap n : Nat} {L : List Int} (h : Front w0 w g cap n L) (hg : b ≤ g) (hc : n ≤ cap) (hm : cap ≤ maxLen) : w.ownsRow b 23 1 (.slice (some ⟨g, 0, none⟩) L.length cap) L.length (nums .u32 L) := by
  obtain ⟨d', hl, hs, hn, hf⟩ := h.lies
  obtain ⟨cur, hb, hz, hcell⟩ := hl.row
  refine ⟨by simp [nums], .inr ⟨g, cap, cur, rfl, hg, hb, by omega, hm, by rw [hz]; omega, ?_⟩⟩
  apply List.ext_getElem?
  intro i
  rw [List.getElem?_take]
  by_cases hi : i < L.length
  · rw [if_pos (by omega), Array.getElem?_toList, hcell i (by omega)]
    have := hf i hi
    simp [nums, this]
  · rw [if_neg (by omega)]
    exact (List.getElem?_eq_none (by simp [nums]; omega)).symm
theorem nil_own {w : World} {b n : Nat} {v : Value} {ls : List Int} (h : w.ownsRow b 23 1 v n (nums .u32 ls)) (hn : ls.length = n) :
    (v = .slice none 0 0 ∧ ls = []) ∨ ∃ g cap, v = .slice (some ⟨g, 0, none⟩) n cap ∧ b ≤ g ∧ n ≤ cap ∧ cap ≤ maxLen ∧ Lies w w g cap ls.toArray := by
  obtain ⟨_, h | ⟨g, cap, cur, rfl, hg, hb, hc, hm, hz, ht⟩⟩ := h
  · exact .inl ⟨h.1, List.eq_nil_of_length_eq_zero (by omega)⟩
  · exact .inr ⟨g, cap, rfl, hg, hc, hm, lies_of_own (b := b) hb (by omega) hn hc (by simpa using ht)⟩
def MadeRow (ls : List Int) (w : World) (e : Ending) (w' : World) : Prop :=
  Below w.heap.size w w' ∧ ((e = .returned (.slice none 0 0) ∧ ls = []) ∨ ∃ g cap R, e = .returned (.slice (some ⟨g, 0, none⟩) ls.length cap) ∧ w.heap.size ≤ g ∧ ls.length ≤ cap ∧ cap ≤ maxLen ∧ (PermIn 0 ls.length ls.toArray R ∧ SortedIn ltA 0 ls.length R) ∧ Lies w' w' g cap R)
theorem below_lies {w w1 w2 : World} {g m : Nat} {d : Array Int} (h : Below w.heap.size w w1) (k : Lies w1 w2 g m d) (hg : w.heap.size ≤ g) : Below w.heap.size w w2 :=
  ((Off.of_below h).trans (k.off.mono (fun i _ e => by omega))).below (Nat.le_refl _)
theorem sorted_w (Bs : Nat) (A : Option Addr) (c : Nat) (ls : List Int) (hl : ls.length < 65536) (w : World) (h1 : Boxed w Bs 24 (.slice A ls.length c)) (hr : ReadsInt w .u32 A ls.length ls) :
    Calls Try.prog 61 #[.func (.func 76) #[] #[.pointer (some ⟨Bs, 0, none⟩)]] w (MadeRow ls w) := by
  have H1 := Lib.hid h1
  have HR := Lib.hid hr
  have HZ := Lib.hid hl
  clear h1 hr hl
  go_enter Try.func61, Try.ntmps61
  go_upto_region 2 with (go_at_call 74; refine (collect_w Bs A c ls HZ.out _ H1.out HR.out).mono ?_; rintro e w' ⟨v, rfl, hv⟩; have HV := Lib.hid hv; clear hv)
  have hvv := nil_own HV.out.1 rfl
  rcases hvv with ⟨rfl, he⟩ | ⟨g, cap, rfl, hg, hc, hm, hl⟩
  · have HE := Lib.hid he
    clear he
    go_wp2_with (go_at_call 75; refine (sort_nil _).mono ?_; rintro e w' ⟨rfl, rfl⟩)
    go_ret
    exact ⟨HV.out.2, .inl ⟨rfl, HE.out⟩⟩
  · have HLL := Lib.hid hl
    have HG := Lib.hid (show w.heap.size ≤ g ∧ ls.length ≤ cap ∧ cap ≤ maxLen from ⟨hg, hc, hm⟩)
    clear hl hg hc hm
    go_wp2_with (go_at_call 75; refine (sort_w HLL.out (by simp) HZ.out).mono ?_; rintro r w' ⟨rfl, hR⟩; have HRR := Lib.hid hR; clear hR)
    go_ret
    obtain ⟨R, hs, hl⟩ := HRR.out
    exact ⟨below_lies HV.out.2 hl HG.out.1, .inr ⟨g, cap, R, rfl, HG.out.1, HG.out.2.1, HG.out.2.2, hs, hl.here⟩⟩
theorem compact_nil (w : World) : Calls Try.prog 60 #[.slice none 0 0] w fun e w' => e = .returned (.slice none 0 0) ∧ w' = w := by
  go_enter Try.func60, Try.ntmps60
  go_wp2
  go_ret
  exact ⟨rfl, rfl⟩
theorem below_made {w w2 : World} {o : Obj} (h : Below (w.alloc o).heap.size (w.alloc o) w2) : Below w.heap.size w w2 :=
  ((off_alloc w o).mono (ψ := fun k => w.heap.size ≤ k) (fun _ _ h => h.elim) |>.then_ (Off.of_below h) (fun i hi h' => by simp at h'; omega)).below (Nat.le_refl _)
theorem make_w (A : Option Addr) (c : Nat) (ls : List Int) (hl : ls.length < 65536) (w : World) (hr : ReadsInt w .u32 A ls.length ls) :
    Calls Try.prog 42 #[.slice A ls.length c] w fun e w' => ∃ v, e = .returned v ∧ w'.ownsRow w.heap.size 23 1 v (mk ls).length (nums .u32 (mk ls)) ∧ Below w.heap.size w w' := by
  have HR := Lib.hid hr
  have HZ := Lib.hid hl
  clear hr hl
  go_enter Try.func42, Try.ntmps42
  go_wp2_with (first | (go_at_call 62; refine (values_w _ _ _ _).mono ?_; rintro e w' ⟨rfl, rfl⟩) | (go_at_call 61; refine (sorted_w w.heap.size A c ls HZ.out _ (Boxed.new w _ _) (readsInt_of_block HR.out (fun ad e hp => Below.heap_alloc _ _ _ (by obtain ⟨ad', e', hc⟩ := HR.out.2.2 hp; rw [e] at e'; cases e'; have := World.block_lt_of_cell? w _ (hc 0 hp); unfold Addr.add at this; simpa using this)))).mono ?_; rintro e w2 ⟨hB, ⟨rfl, he⟩ | ⟨g, cap, R, rfl, hg, hc, hm, hs, hl⟩⟩))
  · have HE := Lib.hid he
    have HB := Lib.hid hB
    clear he hB
    refine (compact_nil _).mono ?_
    rintro e w' ⟨rfl, rfl⟩
    go_wp2
    go_ret
    refine ⟨_, rfl, by rw [HE.out]; exact own_nil _ _ _ _, ?_⟩
    exact below_made HB.out
  · have HB := Lib.hid hB
    have HL := Lib.hid hl
    have HS := Lib.hid hs
    have HG := Lib.hid (show w.heap.size ≤ g ∧ ls.length ≤ cap ∧ cap ≤ maxLen from ⟨by simp at hg; omega, hc, hm⟩)
    have HC := Lib.hid (show R.size = ls.length from by rw [hs.1.1]; simp)
    clear hB hl hs hg hc hm
    refine (compact_w HL.out HC.out HZ.out HG.out.2.1).mono ?_
    rintro e w' ⟨rfl, hf⟩
    rw [cup_mk rfl HS.out.1 HS.out.2] at hf ⊢
    have HF := Lib.hid hf
    clear hf
    go_wp2
    go_ret
    refine ⟨_, rfl, own_of_front HF.out HG.out.1 HG.out.2.1 HG.out.2.2, ?_⟩
    obtain ⟨d', h1, _⟩ := HF.out.lies
    exact below_lies (below_made HB.out) h1 HG.out.1

def set_Make.f (l0 : List Int) : Option (List Int) := if l0.length < 65536 then some (mk l0) else none
theorem set_Make.calls (A0 : Option Addr) (c0 : Nat) (l0 : List Int) (r : List Int) (w : World) (hr0 : Kd.C (Kd.int .u32) w A0 l0.length l0) (hc0 : l0.length ≤ c0) (h : set_Make.f l0 = some r) :
    Calls Try.prog 42 #[.slice A0 l0.length c0] w fun e w' => ∃ v0_ : Value, e = .returned (v0_) ∧ Kd.R (Kd.int .u32) 23 w' w.heap.size (fun _ => True) v0_ r ∧ Below w.heap.size w w' := by
  unfold set_Make.f at h
  split at h
  next hl =>
    cases h
    refine (make_w A0 c0 l0 hl w (rdu hr0)).mono ?_
    rintro e w' ⟨v, rfl, hrow, hB⟩
    exact ⟨v, rfl, Kd.R_of_own hrow (fun _ _ => trivial), hB⟩
  next => cases h
end Go.Proofs.Ytjncmiclpaodhaa
-- written by a program of this session (hprint.py), over the kit's printer
namespace Go.Proofs.Ytjncmiclpaodhaa.PHo
set_option maxHeartbeats 8000000
set_option maxRecDepth 100000
open Go.RowKit Go.Proofs.YtjncmiclpaodhaaW.PrintWords Go.Proofs.YtjncmiclpaodhaaW.PrintLast Go.Proofs.YtjncmiclpaodhaaW.PrintMore
attribute [local go_sem] max2_int min2_int max_two min_two max_three min_three max_four min_four   -- for this text's walks alone
set_option linter.unusedVariables false
set_option linter.unusedSimpArgs false

-- BY HAND: function 8 (stolonlaw07_shown)

/-! ### stolonref06_Right: function 9 -/
def stolonref06_Right.l0 : Nat → List Int → Int → Option (Bool)
  | 0, _, _ => none
  | k + 1, x0, x3 => if x3 < (x0.length : Int) then (if 0 ≤ (wrap64 (x3 - 1)) then (if (wrap64 (x3 - 1)) < (x0.length : Int) then (if 0 ≤ x3 then (if (rd x0 (wrap64 (x3 - 1))) ≥ (rd x0 x3) then (some false) else (stolonref06_Right.l0 k x0 (wrap64 (x3 + 1)))) else (none)) else (none)) else (none)) else (some true)
def stolonref06_Right.f (k : Nat) (l0 : List Int) : Option (Bool) := stolonref06_Right.l0 k l0 1
theorem stolonref06_Right.mono_l : ∀ k, (∀ y0 y1, LeO (stolonref06_Right.l0 k y0 y1) (stolonref06_Right.l0 (k + 1) y0 y1))
  | 0 => fun _ _ r h => by simp [stolonref06_Right.l0] at h
  | k + 1 => by
    have ih0 := stolonref06_Right.mono_l k
    · intro y0 y1
      unfold stolonref06_Right.l0
      repeat' first
      | (with_reducible exact ih0 _ _)
      | (with_reducible exact LeO.refl _)
      | (with_reducible exact LeO.none _)
      | (with_reducible refine LeO.ite ?_ ?_)
      | (with_reducible refine LeO.bind ?_ (fun _ => ?_))
      | exact ih0 _ _
      | exact LeO.none _
      | refine LeO.ite ?_ ?_
      | refine LeO.bind ?_ (fun _ => ?_)
theorem stolonref06_Right.mono : ∀ a0 k, LeO (stolonref06_Right.f k a0) (stolonref06_Right.f (k + 1) a0) := by
  intro a0 k
  have ih0 := stolonref06_Right.mono_l k
  unfold stolonref06_Right.f
  repeat' first
      | (with_reducible exact ih0 _ _)
      | (with_reducible exact LeO.refl _)
      | (with_reducible exact LeO.none _)
      | (with_reducible refine LeO.ite ?_ ?_)
      | (with_reducible refine LeO.bind ?_ (fun _ => ?_))
      | exact ih0 _ _
      | exact LeO.none _
      | refine LeO.ite ?_ ?_
      | refine LeO.bind ?_ (fun _ => ?_)
theorem stolonref06_Right.calls (k : Nat) (A0 : Option Addr) (c0 : Nat) (l0 : List Int) (r : Bool) (w : World) (hr0 : Kd.C (Kd.int .u32) w A0 l0.length l0) (hc0 : l0.length ≤ c0) (h : stolonref06_Right.f k l0 = some r) :
    Calls Try.prog 9 #[.slice A0 l0.length c0] w fun e w' => e = .returned (.bool r) ∧ Drawn0 w w' := by
  have HR0 := Aside0.mk hr0
  have HC0 := Aside0.mk hc0
  clear hr0 hc0
  have H : (stolonref06_Right.l0 k l0 1) = some r := h
  clear h
  have H' := Aside0.mk H
  clear H
  go_enter Try.func9, Try.ntmps9
  go_wp2
  repeat (go_quiet (fail); try go_wp2)
  go_loopg [3] k (fun kq v3 w' => ∃ (x3_1 : Int), v3 = .int .i64 x3_1 ∧ Aside0 (stolonref06_Right.l0 kq l0 x3_1 = some r) ∧ Aside0 (kq ≤ k) ∧ Drawn0 w w')
  case atStart => exact ⟨(1), (fr), H', ⟨Nat.le_refl _⟩, by repeat (first | exact Drawn0.refl _ | apply Drawn0.step)⟩
  case round =>
    clear H'
    obtain ⟨x3_1, rfl, HA, HK1, ⟨m1, rfl⟩⟩ := hrel
    cases gk with
    | zero => exact absurd HA.out (by simp [stolonref06_Right.l0])
    | succ k1 =>
      have H := HA.out
      clear HA
      simp only [stolonref06_Right.l0] at H
      by_cases c2 : x3_1 < (l0.length : Int)
      · rw [if_pos c2] at H
        have c2b0 : decide (x3_1 < (l0.length : Int)) = true := decide_eq_true c2
        clear c2
        obtain ⟨ji3, hji3⟩ : ∃ j_ : Int, (wrap64 (x3_1 - 1)) = j_ := ⟨_, rfl⟩
        replace H : (if 0 ≤ (ji3) then (if (ji3) < (l0.length : Int) then (if 0 ≤ x3_1 then (if (rd l0 (ji3)) ≥ (rd l0 x3_1) then (some false) else (stolonref06_Right.l0 k1 l0 (wrap64 (x3_1 + 1)))) else (none)) else (none)) else (none)) = some r := by first | (rw [hji3] at H; exact H) | (simp only [hji3] at H ⊢; exact H)
        have hji3w : (IntKind.i64.wrap (x3_1 - 1)) = ji3 := (i64_w _).trans hji3
        by_cases c4 : 0 ≤ (ji3)
        · rw [if_pos c4] at H
          have c4b0 : decide (0 ≤ (ji3)) = true := decide_eq_true c4
          clear c4
          by_cases c5 : (ji3) < (l0.length : Int)
          · rw [if_pos c5] at H
            have c5b0 : decide ((ji3) < (l0.length : Int)) = true := decide_eq_true c5
            clear c5
            by_cases c6 : 0 ≤ x3_1
            · rw [if_pos c6] at H
              have c6b0 : decide (0 ≤ x3_1) = true := decide_eq_true c6
              clear c6
              by_cases c7 : (rd l0 (ji3)) ≥ (rd l0 x3_1)
              · rw [if_pos c7] at H
                have c7b0 : decide ((rd l0 x3_1) ≤ (rd l0 (ji3))) = true := decide_eq_true c7
                clear c7
                obtain rfl := Option.some.inj H
                have p310 : 0 ≤ ((ji3) : Int) := od
                have q310 : (ji3) < (l0.length : Int) := od
                obtain ⟨ad310, e310, hx310_0⟩ := Kd.at_int HR0.out (ji3) p310 q310
                cases e310
                replace p310 := eq_true p310
                replace q310 := eq_true q310
                have p311 : 0 ≤ (x3_1 : Int) := od
                have q311 : x3_1 < (l0.length : Int) := od
                obtain ⟨ad311, e311, hx311_0⟩ := Kd.at_int HR0.out x3_1 p311 q311
                obtain rfl : ad310 = ad311 := (by injection e311)
                replace p311 := eq_true p311
                replace q311 := eq_true q311
                go_wp2
                repeat (go_quiet (fail); try go_wp2)
                go_ret
                exact ⟨by first | rfl | (simp; done) | (simp only [← hji3] <;> (first | rfl | simp)) | (simp [*]; done), by repeat (first | exact Drawn0.refl _ | apply Drawn0.step)⟩
              · rw [if_neg c7] at H
                have c7b0 : decide ((rd l0 x3_1) ≤ (rd l0 (ji3))) = false := decide_eq_false c7
                clear c7
                have H' := Aside0.mk H
                clear H
                have p310 : 0 ≤ ((ji3) : Int) := od
                have q310 : (ji3) < (l0.length : Int) := od
                obtain ⟨ad310, e310, hx310_0⟩ := Kd.at_int HR0.out (ji3) p310 q310
                cases e310
                replace p310 := eq_true p310
                replace q310 := eq_true q310
                have p311 : 0 ≤ (x3_1 : Int) := od
                have q311 : x3_1 < (l0.length : Int) := od
                obtain ⟨ad311, e311, hx311_0⟩ := Kd.at_int HR0.out x3_1 p311 q311
                obtain rfl : ad310 = ad311 := (by injection e311)
                replace p311 := eq_true p311
                replace q311 := eq_true q311
                go_wp2
                repeat (go_quiet (fail); try go_wp2)
                go_roundg k1
                case measure => have := HK1.out; omega
                case rel => exact ⟨(wrap64 (x3_1 + 1)), (fr), H', ⟨by have := HK1.out; omega⟩, by repeat (first | exact Drawn0.refl _ | apply Drawn0.step)⟩
            · rw [if_neg c6] at H
              exact absurd H (by simp)
          · rw [if_neg c5] at H
            exact absurd H (by simp)
        · rw [if_neg c4] at H
          exact absurd H (by simp)
      · rw [if_neg c2] at H
        have c2b0 : decide (x3_1 < (l0.length : Int)) = false := decide_eq_false c2
        clear c2
        obtain rfl := Option.some.inj H
        go_wp2
        repeat (go_quiet (fail); try go_wp2)
        go_ret
        exact ⟨fr, by repeat (first | exact Drawn0.refl _ | apply Drawn0.step)⟩

/-! ### stolonref06_Has: function 12 -/
def stolonref06_Has.l0 : Nat → List Int → Int → Int → Option (Bool)
  | 0, _, _, _ => none
  | k + 1, x0, x1, x5 => if x5 < (x0.length : Int) then (if 0 ≤ x5 then (if (rd x0 x5) = x1 then (some true) else (stolonref06_Has.l0 k x0 x1 (wrap64 (x5 + 1)))) else (none)) else (some false)
def stolonref06_Has.f (k : Nat) (l0 : List Int) (a1 : Int) : Option (Bool) := stolonref06_Has.l0 k l0 a1 0
theorem stolonref06_Has.mono_l : ∀ k, (∀ y0 y1 y2, LeO (stolonref06_Has.l0 k y0 y1 y2) (stolonref06_Has.l0 (k + 1) y0 y1 y2))
  | 0 => fun _ _ _ r h => by simp [stolonref06_Has.l0] at h
  | k + 1 => by
    have ih0 := stolonref06_Has.mono_l k
    · intro y0 y1 y2
      unfold stolonref06_Has.l0
      repeat' first
      | (with_reducible exact ih0 _ _ _)
      | (with_reducible exact LeO.refl _)
      | (with_reducible exact LeO.none _)
      | (with_reducible refine LeO.ite ?_ ?_)
      | (with_reducible refine LeO.bind ?_ (fun _ => ?_))
      | exact ih0 _ _ _
      | exact LeO.none _
      | refine LeO.ite ?_ ?_
      | refine LeO.bind ?_ (fun _ => ?_)
theorem stolonref06_Has.mono : ∀ a0 a1 k, LeO (stolonref06_Has.f k a0 a1) (stolonref06_Has.f (k + 1) a0 a1) := by
  intro a0 a1 k
  have ih0 := stolonref06_Has.mono_l k
  unfold stolonref06_Has.f
  repeat' first
      | (with_reducible exact ih0 _ _ _)
      | (with_reducible exact LeO.refl _)
      | (with_reducible exact LeO.none _)
      | (with_reducible refine LeO.ite ?_ ?_)
      | (with_reducible refine LeO.bind ?_ (fun _ => ?_))
      | exact ih0 _ _ _
      | exact LeO.none _
      | refine LeO.ite ?_ ?_
      | refine LeO.bind ?_ (fun _ => ?_)
theorem stolonref06_Has.calls (k : Nat) (A0 : Option Addr) (c0 : Nat) (l0 : List Int) (a1 : Int) (r : Bool) (w : World) (hr0 : Kd.C (Kd.int .u32) w A0 l0.length l0) (hc0 : l0.length ≤ c0) (h : stolonref06_Has.f k l0 a1 = some r) :
    Calls Try.prog 12 #[.slice A0 l0.length c0, .int .u32 a1] w fun e w' => e = .returned (.bool r) ∧ Drawn0 w w' := by
  have HR0 := Aside0.mk hr0
  have HC0 := Aside0.mk hc0
  clear hr0 hc0
  have H : (stolonref06_Has.l0 k l0 a1 0) = some r := h
  clear h
  have H' := Aside0.mk H
  clear H
  go_enter Try.func12, Try.ntmps12
  go_wp2
  go_loopg [5] k (fun kq v5 w' => ∃ (x5_1 : Int), v5 = .int .i64 x5_1 ∧ Aside0 (stolonref06_Has.l0 kq l0 a1 x5_1 = some r) ∧ Aside0 (kq ≤ k) ∧ Drawn0 w w')
  case atStart => exact ⟨(0), (fr), H', ⟨Nat.le_refl _⟩, by repeat (first | exact Drawn0.refl _ | apply Drawn0.step)⟩
  case round =>
    clear H'
    try clear c1
    try clear p2
    obtain ⟨x5_1, rfl, HA, HK1, ⟨m1, rfl⟩⟩ := hrel
    cases gk with
    | zero => exact absurd HA.out (by simp [stolonref06_Has.l0])
    | succ k1 =>
      have H := HA.out
      clear HA
      simp only [stolonref06_Has.l0] at H
      by_cases c3 : x5_1 < (l0.length : Int)
      · rw [if_pos c3] at H
        have c3b0 : decide (x5_1 < (l0.length : Int)) = true := decide_eq_true c3
        clear c3
        by_cases c4 : 0 ≤ x5_1
        · rw [if_pos c4] at H
          have c4b0 : decide (0 ≤ x5_1) = true := decide_eq_true c4
          clear c4
          by_cases c5 : (rd l0 x5_1) = a1
          · rw [if_pos c5] at H
            have c5b0 : ((rd l0 x5_1) == a1) = true := beq_iff_eq.mpr c5
            have c5b1 : ((rd l0 x5_1) != a1) = false := bne_eq_false_iff_eq.mpr c5
            clear c5
            obtain rfl := Option.some.inj H
            have p312 : 0 ≤ (x5_1 : Int) := od
            have q312 : x5_1 < (l0.length : Int) := od
            obtain ⟨ad312, e312, hx312_0⟩ := Kd.at_int HR0.out x5_1 p312 q312
            cases e312
            replace p312 := eq_true p312
            replace q312 := eq_true q312
            go_wp2
            go_ret
            exact ⟨fr, by repeat (first | exact Drawn0.refl _ | apply Drawn0.step)⟩
          · rw [if_neg c5] at H
            have c5b0 : ((rd l0 x5_1) == a1) = false := beq_eq_false_iff_ne.mpr c5
            have c5b1 : ((rd l0 x5_1) != a1) = true := bne_iff_ne.mpr c5
            have H' := Aside0.mk H
            clear H
            have p312 : 0 ≤ (x5_1 : Int) := od
            have q312 : x5_1 < (l0.length : Int) := od
            obtain ⟨ad312, e312, hx312_0⟩ := Kd.at_int HR0.out x5_1 p312 q312
            cases e312
            replace p312 := eq_true p312
            replace q312 := eq_true q312
            go_wp2
            go_roundg k1
            case measure => have := HK1.out; omega
            case rel => exact ⟨(wrap64 (x5_1 + 1)), (fr), H', ⟨by have := HK1.out; omega⟩, by repeat (first | exact Drawn0.refl _ | apply Drawn0.step)⟩
        · rw [if_neg c4] at H
          exact absurd H (by simp)
      · rw [if_neg c3] at H
        have c3b0 : decide (x5_1 < (l0.length : Int)) = false := decide_eq_false c3
        clear c3
        obtain rfl := Option.some.inj H
        go_wp2
        go_ret
        exact ⟨fr, by repeat (first | exact Drawn0.refl _ | apply Drawn0.step)⟩

end Go.Proofs.Ytjncmiclpaodhaa.PHo
-- written by a program of this session (hprint.py), over the kit's printer
namespace Go.Proofs.Ytjncmiclpaodhaa.PHo
set_option maxHeartbeats 8000000
set_option maxRecDepth 100000
open Go.RowKit Go.Proofs.YtjncmiclpaodhaaW.PrintWords Go.Proofs.YtjncmiclpaodhaaW.PrintLast Go.Proofs.YtjncmiclpaodhaaW.PrintMore
attribute [local go_sem] max2_int min2_int max_two min_two max_three min_three max_four min_four   -- for this text's walks alone
set_option linter.unusedVariables false
set_option linter.unusedSimpArgs false
/-! ### stolonref01_Rows: function 34 -/
def stolonref01_Rows.l0 : Nat → List Int → List Int → Int → Option (Bool)
  | 0, _, _, _ => none
  | k + 1, x0, x1, x5 => if x5 < (x0.length : Int) then (if 0 ≤ x5 then (if x5 < (x1.length : Int) then (if (rd x0 x5) = (rd x1 x5) then (stolonref01_Rows.l0 k x0 x1 (wrap64 (x5 + 1))) else (some false)) else (none)) else (none)) else (some true)
def stolonref01_Rows.f (k : Nat) (l0 : List Int) (l1 : List Int) : Option (Bool) := if (l0.length : Int) = (l1.length : Int) then (stolonref01_Rows.l0 k l0 l1 0) else (some false)
theorem stolonref01_Rows.mono_l : ∀ k, (∀ y0 y1 y2, LeO (stolonref01_Rows.l0 k y0 y1 y2) (stolonref01_Rows.l0 (k + 1) y0 y1 y2))
  | 0 => fun _ _ _ r h => by simp [stolonref01_Rows.l0] at h
  | k + 1 => by
    have ih0 := stolonref01_Rows.mono_l k
    · intro y0 y1 y2
      unfold stolonref01_Rows.l0
      repeat' first
      | (with_reducible exact ih0 _ _ _)
      | (with_reducible exact LeO.refl _)
      | (with_reducible exact LeO.none _)
      | (with_reducible refine LeO.ite ?_ ?_)
      | (with_reducible refine LeO.bind ?_ (fun _ => ?_))
      | exact ih0 _ _ _
      | exact LeO.none _
      | refine LeO.ite ?_ ?_
      | refine LeO.bind ?_ (fun _ => ?_)
theorem stolonref01_Rows.mono : ∀ a0 a1 k, LeO (stolonref01_Rows.f k a0 a1) (stolonref01_Rows.f (k + 1) a0 a1) := by
  intro a0 a1 k
  have ih0 := stolonref01_Rows.mono_l k
  unfold stolonref01_Rows.f
  repeat' first
      | (with_reducible exact ih0 _ _ _)
      | (with_reducible exact LeO.refl _)
      | (with_reducible exact LeO.none _)
      | (with_reducible refine LeO.ite ?_ ?_)
      | (with_reducible refine LeO.bind ?_ (fun _ => ?_))
      | exact ih0 _ _ _
      | exact LeO.none _
      | refine LeO.ite ?_ ?_
      | refine LeO.bind ?_ (fun _ => ?_)
theorem stolonref01_Rows.calls (k : Nat) (A0 : Option Addr) (c0 : Nat) (l0 : List Int) (A1 : Option Addr) (c1 : Nat) (l1 : List Int) (r : Bool) (w : World) (hr0 : Kd.C (Kd.int .u32) w A0 l0.length l0) (hc0 : l0.length ≤ c0) (hr1 : Kd.C (Kd.int .u32) w A1 l1.length l1) (hc1 : l1.length ≤ c1) (h : stolonref01_Rows.f k l0 l1 = some r) :
    Calls Try.prog 34 #[.slice A0 l0.length c0, .slice A1 l1.length c1] w fun e w' => e = .returned (.bool r) ∧ Drawn0 w w' := by
  have HR0 := Aside0.mk hr0
  have HC0 := Aside0.mk hc0
  clear hr0 hc0
  have HR1 := Aside0.mk hr1
  have HC1 := Aside0.mk hc1
  clear hr1 hc1
  have H : (if (l0.length : Int) = (l1.length : Int) then (stolonref01_Rows.l0 k l0 l1 0) else (some false)) = some r := h
  clear h
  by_cases c3 : (l0.length : Int) = (l1.length : Int)
  · rw [if_pos c3] at H
    have c3b0 : ((l0.length : Int) == (l1.length : Int)) = true := beq_iff_eq.mpr c3
    have c3b1 : ((l0.length : Int) != (l1.length : Int)) = false := bne_eq_false_iff_eq.mpr c3
    have c3b2 : (l0.length == l1.length) = true := by first | simpa using c3 | (simp at c3 ⊢; omega)
    clear c3
    have H' := Aside0.mk H
    clear H
    go_enter Try.func34, Try.ntmps34
    go_wp2
    repeat (go_quiet (fail); try go_wp2)
    go_loopg [5] k (fun kq v5 w' => ∃ (x5_1 : Int), v5 = .int .i64 x5_1 ∧ Aside0 (stolonref01_Rows.l0 kq l0 l1 x5_1 = some r) ∧ Aside0 (kq ≤ k) ∧ Drawn0 w w')
    case atStart => exact ⟨(0), (fr), H', ⟨Nat.le_refl _⟩, by repeat (first | exact Drawn0.refl _ | apply Drawn0.step)⟩
    case round =>
      clear H'
      try clear c1
      try clear p2
      try clear c3
      try clear c3b0
      try clear c3b1
      try clear c3b2
      obtain ⟨x5_1, rfl, HA, HK1, ⟨m1, rfl⟩⟩ := hrel
      cases gk with
      | zero => exact absurd HA.out (by simp [stolonref01_Rows.l0])
      | succ k1 =>
        have H := HA.out
        clear HA
        simp only [stolonref01_Rows.l0] at H
        by_cases c4 : x5_1 < (l0.length : Int)
        · rw [if_pos c4] at H
          have c4b0 : decide (x5_1 < (l0.length : Int)) = true := decide_eq_true c4
          clear c4
          by_cases c5 : 0 ≤ x5_1
          · rw [if_pos c5] at H
            have c5b0 : decide (0 ≤ x5_1) = true := decide_eq_true c5
            clear c5
            by_cases c6 : x5_1 < (l1.length : Int)
            · rw [if_pos c6] at H
              have c6b0 : decide (x5_1 < (l1.length : Int)) = true := decide_eq_true c6
              clear c6
              by_cases c7 : (rd l0 x5_1) = (rd l1 x5_1)
              · rw [if_pos c7] at H
                have c7b0 : ((rd l0 x5_1) == (rd l1 x5_1)) = true := beq_iff_eq.mpr c7
                have c7b1 : ((rd l0 x5_1) != (rd l1 x5_1)) = false := bne_eq_false_iff_eq.mpr c7
                clear c7
                have H' := Aside0.mk H
                clear H
                have p339 : 0 ≤ (x5_1 : Int) := od
                have q339 : x5_1 < (l0.length : Int) := od
                obtain ⟨ad339, e339, hx339_0⟩ := Kd.at_int HR0.out x5_1 p339 q339
                cases e339
                replace p339 := eq_true p339
                replace q339 := eq_true q339
                have p340 : 0 ≤ (x5_1 : Int) := od
                have q340 : x5_1 < (l1.length : Int) := od
                obtain ⟨ad340, e340, hx340_0⟩ := Kd.at_int HR1.out x5_1 p340 q340
                cases e340
                replace p340 := eq_true p340
                replace q340 := eq_true q340
                go_wp2
                repeat (go_quiet (fail); try go_wp2)
                go_roundg k1
                case measure => have := HK1.out; omega
                case rel => exact ⟨(wrap64 (x5_1 + 1)), (fr), H', ⟨by have := HK1.out; omega⟩, by repeat (first | exact Drawn0.refl _ | apply Drawn0.step)⟩
              · rw [if_neg c7] at H
                have c7b0 : ((rd l0 x5_1) == (rd l1 x5_1)) = false := beq_eq_false_iff_ne.mpr c7
                have c7b1 : ((rd l0 x5_1) != (rd l1 x5_1)) = true := bne_iff_ne.mpr c7
                obtain rfl := Option.some.inj H
                have p339 : 0 ≤ (x5_1 : Int) := od
                have q339 : x5_1 < (l0.length : Int) := od
                obtain ⟨ad339, e339, hx339_0⟩ := Kd.at_int HR0.out x5_1 p339 q339
                cases e339
                replace p339 := eq_true p339
                replace q339 := eq_true q339
                have p340 : 0 ≤ (x5_1 : Int) := od
                have q340 : x5_1 < (l1.length : Int) := od
                obtain ⟨ad340, e340, hx340_0⟩ := Kd.at_int HR1.out x5_1 p340 q340
                cases e340
                replace p340 := eq_true p340
                replace q340 := eq_true q340
                go_wp2
                repeat (go_quiet (fail); try go_wp2)
                go_ret
                exact ⟨fr, by repeat (first | exact Drawn0.refl _ | apply Drawn0.step)⟩
            · rw [if_neg c6] at H
              exact absurd H (by simp)
          · rw [if_neg c5] at H
            exact absurd H (by simp)
        · rw [if_neg c4] at H
          have c4b0 : decide (x5_1 < (l0.length : Int)) = false := decide_eq_false c4
          clear c4
          obtain rfl := Option.some.inj H
          go_wp2
          repeat (go_quiet (fail); try go_wp2)
          go_ret
          exact ⟨fr, by repeat (first | exact Drawn0.refl _ | apply Drawn0.step)⟩
  · rw [if_neg c3] at H
    have c3b0 : ((l0.length : Int) == (l1.length : Int)) = false := beq_eq_false_iff_ne.mpr c3
    have c3b1 : ((l0.length : Int) != (l1.length : Int)) = true := bne_iff_ne.mpr c3
    have c3b2 : (l0.length == l1.length) = false := by first | simpa using c3 | (simp at c3 ⊢; omega)
    obtain rfl := Option.some.inj H
    go_enter Try.func34, Try.ntmps34
    go_wp2
    repeat (go_quiet (fail); try go_wp2)
    go_ret
    exact ⟨fr, by repeat (first | exact Drawn0.refl _ | apply Drawn0.step)⟩
/-! ### stolonref05_Rec: function 38 -/
def stolonref05_Rec.f (k : Nat) (a0_0 : Int) (a0_1 : Int) (l0_2 : List Int) (a1_0 : Int) (a1_1 : Int) (l1_2 : List Int) : Option (Bool) := if a0_0 = a1_0 then (if a0_1 = a1_1 then ((stolonref01_Rows.f k l0_2 l1_2).bind fun t343 => (some t343)) else (some false)) else (some false)
theorem stolonref05_Rec.mono : ∀ a0 a1 a2 a3 a4 a5 k, LeO (stolonref05_Rec.f k a0 a1 a2 a3 a4 a5) (stolonref05_Rec.f (k + 1) a0 a1 a2 a3 a4 a5) := by
  intro a0 a1 a2 a3 a4 a5 k
  unfold stolonref05_Rec.f
  repeat' first
      | (with_reducible exact stolonref01_Rows.mono _ _ _)
      | (with_reducible exact LeO.refl _)
      | (with_reducible exact LeO.none _)
      | (with_reducible refine LeO.ite ?_ ?_)
      | (with_reducible refine LeO.bind ?_ (fun _ => ?_))
      | exact stolonref01_Rows.mono _ _ _
      | exact LeO.none _
      | refine LeO.ite ?_ ?_
      | refine LeO.bind ?_ (fun _ => ?_)
theorem stolonref05_Rec.calls (k : Nat) (a0_0 : Int) (a0_1 : Int) (A0_2 : Option Addr) (c0_2 : Nat) (l0_2 : List Int) (a1_0 : Int) (a1_1 : Int) (A1_2 : Option Addr) (c1_2 : Nat) (l1_2 : List Int) (r : Bool) (w : World) (hr0_2 : Kd.C (Kd.int .u32) w A0_2 l0_2.length l0_2) (hc0_2 : l0_2.length ≤ c0_2) (hr1_2 : Kd.C (Kd.int .u32) w A1_2 l1_2.length l1_2) (hc1_2 : l1_2.length ≤ c1_2) (h : stolonref05_Rec.f k a0_0 a0_1 l0_2 a1_0 a1_1 l1_2 = some r) :
    Calls Try.prog 38 #[.agg #[.int .u8 a0_0, .int .u32 a0_1, .slice A0_2 l0_2.length c0_2], .agg #[.int .u8 a1_0, .int .u32 a1_1, .slice A1_2 l1_2.length c1_2]] w fun e w' => e = .returned (.bool r) ∧ Below w.heap.size w w' := by
  have hu36 := Try.underlying36
  have HR0_2 := Aside0.mk hr0_2
  have HC0_2 := Aside0.mk hc0_2
  clear hr0_2 hc0_2
  have HR1_2 := Aside0.mk hr1_2
  have HC1_2 := Aside0.mk hc1_2
  clear hr1_2 hc1_2
  have HB := Aside0.mk (Below.refl w.heap.size w)
  have H : (if a0_0 = a1_0 then (if a0_1 = a1_1 then ((stolonref01_Rows.f k l0_2 l1_2).bind fun t343 => (some t343)) else (some false)) else (some false)) = some r := h
  clear h
  by_cases c3 : a0_0 = a1_0
  · rw [if_pos c3] at H
    have c3b0 : (a0_0 == a1_0) = true := beq_iff_eq.mpr c3
    have c3b1 : (a0_0 != a1_0) = false := bne_eq_false_iff_eq.mpr c3
    clear c3
    by_cases c4 : a0_1 = a1_1
    · rw [if_pos c4] at H
      have c4b0 : (a0_1 == a1_1) = true := beq_iff_eq.mpr c4
      have c4b1 : (a0_1 != a1_1) = false := bne_eq_false_iff_eq.mpr c4
      clear c4
      replace H := Option.bind_eq_some_iff.mp H
      obtain ⟨t343, A50, H⟩ := H
      replace H : (some t343) = some r := H
      have A5 := Aside0.mk A50
      clear A50
      obtain rfl := Option.some.inj H
      go_enter Try.func38, Try.ntmps38
      go_wp2_with (first | ((with_reducible refine gate_dst (N := 2) rfl ?_); refine bxn (cs := #[.int .u8 a0_0, .int .u32 a0_1, .slice A0_2 l0_2.length c0_2]) (t := 36) ?_; intro gb341 hg w6 hbox hb; have BK341 := Aside0.mk (hbox); have GW341 := Aside0.mk ((by rw [hg]; exact (below_size (bl HB)) : w.heap.size ≤ gb341)); have GE341 := Aside0.mk ((by rw [hg]; exact (below_size (bl HB)) : w.heap.size ≤ gb341)); replace HB := Aside0.mk (below_step (bl HB) hb); clear hb hbox hg) | ((with_reducible refine gate_dst (N := 3) rfl ?_); refine bxn (cs := #[.int .u8 a1_0, .int .u32 a1_1, .slice A1_2 l1_2.length c1_2]) (t := 36) ?_; intro gb342 hg w7 hbox hb; have n0_ := Aside0.mk (blk_below (g := gb341) (o := .cells #[.int .u8 a0_0, .int .u32 a0_1, .slice A0_2 l0_2.length c0_2] 36 (0, 0)) (ba BK341.out) hb); have n1_ := Aside0.mk (below_step (bl HB) hb); have n2_ := Aside0.mk (hbox); have n3_ := Aside0.mk ((by rw [hg]; exact (below_size (bl HB)) : w.heap.size ≤ gb342)); have n4_ := Aside0.mk ((by rw [hg]; exact (below_size (bl HB)) : w.heap.size ≤ gb342)); have n5_ := Aside0.mk ((by rw [hg]; exact Nat.ne_of_lt (blk_lt (g := gb341) (o := .cells #[.int .u8 a0_0, .int .u32 a0_1, .slice A0_2 l0_2.length c0_2] 36 (0, 0)) (ba BK341.out)) : gb341 ≠ gb342)); have n6_ := Aside0.mk ((by rw [hg]; exact Nat.ne_of_gt (blk_lt (g := gb341) (o := .cells #[.int .u8 a0_0, .int .u32 a0_1, .slice A0_2 l0_2.length c0_2] 36 (0, 0)) (ba BK341.out)) : gb342 ≠ gb341)); clear BK341; clear HB; have BK341 := n0_; have HB := n1_; have BK342 := n2_; have GW342 := n3_; have GE342 := n4_; have NB341_342 := n5_; have NB342_341 := n6_; clear n0_ n1_ n2_ n3_ n4_ n5_ n6_; clear hb hbox hg; have hnb8 := NB341_342.out; have hnc8 := NB342_341.out; obtain ⟨hcz9_0, hcz9_1, hcz9_2, hfz9_0, hfz9_1, hfz9_2⟩ := cf3 BK341.out; obtain ⟨hcz10_0, hcz10_1, hcz10_2, hfz10_0, hfz10_1, hfz10_2⟩ := cf3 BK342.out) | (go_at_call 34; (with_reducible refine (stolonref01_Rows.calls k _ _ l0_2 _ _ l1_2 t343 _ ?side1 ?side2 ?side3 ?side4 A5.out).mono ?_); (case side1 => exact ca (Kd.C_below HR0_2.out HB.out)); (case side2 => exact HC0_2.out); (case side3 => exact ca (Kd.C_below HR1_2.out HB.out)); (case side4 => exact HC1_2.out); rintro e w' ⟨rfl, ⟨nd, rfl⟩⟩))
      go_ret
      exact ⟨by first | rfl | (simp [errW_none, errW_some] <;> rfl) | (simp [*, errW_none, errW_some] <;> rfl), bl HB⟩
    · rw [if_neg c4] at H
      have c4b0 : (a0_1 == a1_1) = false := beq_eq_false_iff_ne.mpr c4
      have c4b1 : (a0_1 != a1_1) = true := bne_iff_ne.mpr c4
      obtain rfl := Option.some.inj H
      go_enter Try.func38, Try.ntmps38
      go_wp2_with (first | ((with_reducible refine gate_dst (N := 2) rfl ?_); refine bxn (cs := #[.int .u8 a0_0, .int .u32 a0_1, .slice A0_2 l0_2.length c0_2]) (t := 36) ?_; intro gb341 hg w11 hbox hb; have BK341 := Aside0.mk (hbox); have GW341 := Aside0.mk ((by rw [hg]; exact (below_size (bl HB)) : w.heap.size ≤ gb341)); have GE341 := Aside0.mk ((by rw [hg]; exact (below_size (bl HB)) : w.heap.size ≤ gb341)); replace HB := Aside0.mk (below_step (bl HB) hb); clear hb hbox hg) | ((with_reducible refine gate_dst (N := 3) rfl ?_); refine bxn (cs := #[.int .u8 a1_0, .int .u32 a1_1, .slice A1_2 l1_2.length c1_2]) (t := 36) ?_; intro gb342 hg w12 hbox hb; have n0_ := Aside0.mk (blk_below (g := gb341) (o := .cells #[.int .u8 a0_0, .int .u32 a0_1, .slice A0_2 l0_2.length c0_2] 36 (0, 0)) (ba BK341.out) hb); have n1_ := Aside0.mk (below_step (bl HB) hb); have n2_ := Aside0.mk (hbox); have n3_ := Aside0.mk ((by rw [hg]; exact (below_size (bl HB)) : w.heap.size ≤ gb342)); have n4_ := Aside0.mk ((by rw [hg]; exact (below_size (bl HB)) : w.heap.size ≤ gb342)); have n5_ := Aside0.mk ((by rw [hg]; exact Nat.ne_of_lt (blk_lt (g := gb341) (o := .cells #[.int .u8 a0_0, .int .u32 a0_1, .slice A0_2 l0_2.length c0_2] 36 (0, 0)) (ba BK341.out)) : gb341 ≠ gb342)); have n6_ := Aside0.mk ((by rw [hg]; exact Nat.ne_of_gt (blk_lt (g := gb341) (o := .cells #[.int .u8 a0_0, .int .u32 a0_1, .slice A0_2 l0_2.length c0_2] 36 (0, 0)) (ba BK341.out)) : gb342 ≠ gb341)); clear BK341; clear HB; have BK341 := n0_; have HB := n1_; have BK342 := n2_; have GW342 := n3_; have GE342 := n4_; have NB341_342 := n5_; have NB342_341 := n6_; clear n0_ n1_ n2_ n3_ n4_ n5_ n6_; clear hb hbox hg; have hnb13 := NB341_342.out; have hnc13 := NB342_341.out; obtain ⟨hcz14_0, hcz14_1, hcz14_2, hfz14_0, hfz14_1, hfz14_2⟩ := cf3 BK341.out; obtain ⟨hcz15_0, hcz15_1, hcz15_2, hfz15_0, hfz15_1, hfz15_2⟩ := cf3 BK342.out))
      go_ret
      exact ⟨by first | rfl | (simp [errW_none, errW_some] <;> rfl) | (simp [*, errW_none, errW_some] <;> rfl), bl HB⟩
  · rw [if_neg c3] at H
    have c3b0 : (a0_0 == a1_0) = false := beq_eq_false_iff_ne.mpr c3
    have c3b1 : (a0_0 != a1_0) = true := bne_iff_ne.mpr c3
    obtain rfl := Option.some.inj H
    go_enter Try.func38, Try.ntmps38
    go_wp2_with (first | ((with_reducible refine gate_dst (N := 2) rfl ?_); refine bxn (cs := #[.int .u8 a0_0, .int .u32 a0_1, .slice A0_2 l0_2.length c0_2]) (t := 36) ?_; intro gb341 hg w16 hbox hb; have BK341 := Aside0.mk (hbox); have GW341 := Aside0.mk ((by rw [hg]; exact (below_size (bl HB)) : w.heap.size ≤ gb341)); have GE341 := Aside0.mk ((by rw [hg]; exact (below_size (bl HB)) : w.heap.size ≤ gb341)); replace HB := Aside0.mk (below_step (bl HB) hb); clear hb hbox hg) | ((with_reducible refine gate_dst (N := 3) rfl ?_); refine bxn (cs := #[.int .u8 a1_0, .int .u32 a1_1, .slice A1_2 l1_2.length c1_2]) (t := 36) ?_; intro gb342 hg w17 hbox hb; have n0_ := Aside0.mk (blk_below (g := gb341) (o := .cells #[.int .u8 a0_0, .int .u32 a0_1, .slice A0_2 l0_2.length c0_2] 36 (0, 0)) (ba BK341.out) hb); have n1_ := Aside0.mk (below_step (bl HB) hb); have n2_ := Aside0.mk (hbox); have n3_ := Aside0.mk ((by rw [hg]; exact (below_size (bl HB)) : w.heap.size ≤ gb342)); have n4_ := Aside0.mk ((by rw [hg]; exact (below_size (bl HB)) : w.heap.size ≤ gb342)); have n5_ := Aside0.mk ((by rw [hg]; exact Nat.ne_of_lt (blk_lt (g := gb341) (o := .cells #[.int .u8 a0_0, .int .u32 a0_1, .slice A0_2 l0_2.length c0_2] 36 (0, 0)) (ba BK341.out)) : gb341 ≠ gb342)); have n6_ := Aside0.mk ((by rw [hg]; exact Nat.ne_of_gt (blk_lt (g := gb341) (o := .cells #[.int .u8 a0_0, .int .u32 a0_1, .slice A0_2 l0_2.length c0_2] 36 (0, 0)) (ba BK341.out)) : gb342 ≠ gb341)); clear BK341; clear HB; have BK341 := n0_; have HB := n1_; have BK342 := n2_; have GW342 := n3_; have GE342 := n4_; have NB341_342 := n5_; have NB342_341 := n6_; clear n0_ n1_ n2_ n3_ n4_ n5_ n6_; clear hb hbox hg; have hnb18 := NB341_342.out; have hnc18 := NB342_341.out; obtain ⟨hcz19_0, hcz19_1, hcz19_2, hfz19_0, hfz19_1, hfz19_2⟩ := cf3 BK341.out; obtain ⟨hcz20_0, hcz20_1, hcz20_2, hfz20_0, hfz20_1, hfz20_2⟩ := cf3 BK342.out))
    go_ret
    exact ⟨by first | rfl | (simp [errW_none, errW_some] <;> rfl) | (simp [*, errW_none, errW_some] <;> rfl), bl HB⟩
/-! ### stolonref05_Recs: function 22 -/
def stolonref05_Recs.l0 : Nat → List (S36) → List (S36) → Int → Option (Bool)
  | 0, _, _, _ => none
  | k + 1, x0, x1, x5 => if x5 < (x0.length : Int) then (if 0 ≤ x5 then (if x5 < (x1.length : Int) then ((stolonref05_Rec.f k ((rd_T36 x0 x5).f0) ((rd_T36 x0 x5).f1) ((rd_T36 x0 x5).f2) ((rd_T36 x1 x5).f0) ((rd_T36 x1 x5).f1) ((rd_T36 x1 x5).f2)).bind fun t346 => (if t346 = true then (stolonref05_Recs.l0 k x0 x1 (wrap64 (x5 + 1))) else (some false))) else (none)) else (none)) else (some true)
def stolonref05_Recs.f (k : Nat) (l0 : List (S36)) (l1 : List (S36)) : Option (Bool) := if (l0.length : Int) = (l1.length : Int) then (stolonref05_Recs.l0 k l0 l1 0) else (some false)
theorem stolonref05_Recs.mono_l : ∀ k, (∀ y0 y1 y2, LeO (stolonref05_Recs.l0 k y0 y1 y2) (stolonref05_Recs.l0 (k + 1) y0 y1 y2))
  | 0 => fun _ _ _ r h => by simp [stolonref05_Recs.l0] at h
  | k + 1 => by
    have ih0 := stolonref05_Recs.mono_l k
    · intro y0 y1 y2
      unfold stolonref05_Recs.l0
      repeat' first
      | (with_reducible exact ih0 _ _ _)
      | (with_reducible exact stolonref05_Rec.mono _ _ _ _ _ _ _)
      | (with_reducible exact LeO.refl _)
      | (with_reducible exact LeO.none _)
      | (with_reducible refine LeO.ite ?_ ?_)
      | (with_reducible refine LeO.bind ?_ (fun _ => ?_))
      | exact ih0 _ _ _
      | exact stolonref05_Rec.mono _ _ _ _ _ _ _
      | exact LeO.none _
      | refine LeO.ite ?_ ?_
      | refine LeO.bind ?_ (fun _ => ?_)
theorem stolonref05_Recs.mono : ∀ a0 a1 k, LeO (stolonref05_Recs.f k a0 a1) (stolonref05_Recs.f (k + 1) a0 a1) := by
  intro a0 a1 k
  have ih0 := stolonref05_Recs.mono_l k
  unfold stolonref05_Recs.f
  repeat' first
      | (with_reducible exact ih0 _ _ _)
      | (with_reducible exact stolonref05_Rec.mono _ _ _ _ _ _ _)
      | (with_reducible exact LeO.refl _)
      | (with_reducible exact LeO.none _)
      | (with_reducible refine LeO.ite ?_ ?_)
      | (with_reducible refine LeO.bind ?_ (fun _ => ?_))
      | exact ih0 _ _ _
      | exact stolonref05_Rec.mono _ _ _ _ _ _ _
      | exact LeO.none _
      | refine LeO.ite ?_ ?_
      | refine LeO.bind ?_ (fun _ => ?_)
def stolonref05_Recs.T6 : Bool × List (List Nat × List Nat) := (true, [([], []), ([], []), ([0, 1], [0, 1]), ([2], [2]), ([], []), ([], []), ([4, 5], [4, 5]), ([6], [6]), ([3, 7], [3, 7]), ([8, 8, 0, 1, 2, 3, 4, 5, 6, 7, 8], [8])])
def stolonref05_Recs.B6 : List Nat := [0, 0, 3, 7, 0, 0, 48, 112, 255, 511]
theorem stolonref05_Recs.tab6 : rtab .any (opsOf Try.f22 6) = stolonref05_Recs.T6 := by kernel_rfl
theorem stolonref05_Recs.bits6 : waitsOk stolonref05_Recs.T6.2 stolonref05_Recs.B6 = true := by kernel_rfl
theorem stolonref05_Recs.calls (k : Nat) (A0 : Option Addr) (c0 : Nat) (l0 : List (S36)) (A1 : Option Addr) (c1 : Nat) (l1 : List (S36)) (r : Bool) (w : World) (hr0 : Kd.C k36 w A0 l0.length l0) (hc0 : l0.length ≤ c0) (hr1 : Kd.C k36 w A1 l1.length l1) (hc1 : l1.length ≤ c1) (h : stolonref05_Recs.f k l0 l1 = some r) :
    Calls Try.prog 22 #[.slice A0 l0.length c0, .slice A1 l1.length c1] w fun e w' => e = .returned (.bool r) ∧ Below w.heap.size w w' := by
  have hu36 := Try.underlying36
  have HR0 := Aside0.mk hr0
  have HC0 := Aside0.mk hc0
  clear hr0 hc0
  have HR1 := Aside0.mk hr1
  have HC1 := Aside0.mk hc1
  clear hr1 hc1
  have HB := Aside0.mk (Below.refl w.heap.size w)
  have H : (if (l0.length : Int) = (l1.length : Int) then (stolonref05_Recs.l0 k l0 l1 0) else (some false)) = some r := h
  clear h
  by_cases c3 : (l0.length : Int) = (l1.length : Int)
  · rw [if_pos c3] at H
    have c3b0 : ((l0.length : Int) == (l1.length : Int)) = true := beq_iff_eq.mpr c3
    have c3b1 : ((l0.length : Int) != (l1.length : Int)) = false := bne_eq_false_iff_eq.mpr c3
    have c3b2 : (l0.length == l1.length) = true := by first | simpa using c3 | (simp at c3 ⊢; omega)
    clear c3
    have H' := Aside0.mk H
    clear H
    go_enter Try.func22, Try.ntmps22
    go_wp2
    go_loopg [5] k (fun kq v5 w' => ∃ (x5_1 : Int), v5 = .int .i64 x5_1 ∧ Aside0 (stolonref05_Recs.l0 kq l0 l1 x5_1 = some r) ∧ Aside0 (kq ≤ k) ∧ Aside0 (Below w.heap.size w w'))
    case atStart => exact ⟨(0), (fr), H', ⟨Nat.le_refl _⟩, ⟨bl HB⟩⟩
    case round =>
      clear H'
      try clear c1
      try clear c2
      try clear p2
      try clear c3
      try clear c3b0
      try clear c3b1
      try clear c3b2
      obtain ⟨x5_1, rfl, HA, HK1, HB⟩ := hrel
      cases gk with
      | zero => exact absurd HA.out (by simp [stolonref05_Recs.l0])
      | succ k1 =>
        have H := HA.out
        clear HA
        simp only [stolonref05_Recs.l0] at H
        by_cases c4 : x5_1 < (l0.length : Int)
        · rw [if_pos c4] at H
          have c4b0 : decide (x5_1 < (l0.length : Int)) = true := decide_eq_true c4
          clear c4
          by_cases c5 : 0 ≤ x5_1
          · rw [if_pos c5] at H
            have c5b0 : decide (0 ≤ x5_1) = true := decide_eq_true c5
            clear c5
            by_cases c6 : x5_1 < (l1.length : Int)
            · rw [if_pos c6] at H
              have c6b0 : decide (x5_1 < (l1.length : Int)) = true := decide_eq_true c6
              clear c6
              replace H := Option.bind_eq_some_iff.mp H
              obtain ⟨t346, A70, H⟩ := H
              replace H : (if t346 = true then (stolonref05_Recs.l0 k1 l0 l1 (wrap64 (x5_1 + 1))) else (some false)) = some r := H
              have A7 := Aside0.mk A70
              clear A70
              by_cases c8 : t346 = true
              · subst c8
                replace H : (stolonref05_Recs.l0 k1 l0 l1 (wrap64 (x5_1 + 1))) = some r := by rw [if_pos rfl] at H; exact H
                have H' := Aside0.mk H
                clear H
                try go_wp2
                replace HB := Aside0.mk (below_drew1 HB.out)
                have p344 : 0 ≤ (x5_1 : Int) := od
                have q344 : x5_1 < (l0.length : Int) := od
                obtain ⟨ad344, A344_2, c344_2, e344, hx344_0, hx344_1, hx344_2, hl344_2, hi344_2⟩ := at_T36 HR0.out x5_1 p344 q344
                have hw344_2 := hx344_2
                have hw344_1 := hx344_1
                have hw344_0 := hx344_0
                cases e344
                replace hx344_0 := hcz HB hx344_0
                replace hx344_1 := hcz HB hx344_1
                replace hx344_2 := hcz HB hx344_2
                have HR344_2 := Aside0.mk hi344_2
                have HC344_2 := Aside0.mk hl344_2
                clear hi344_2 hl344_2
                replace p344 := eq_true p344
                replace q344 := eq_true q344
                have p345 : 0 ≤ (x5_1 : Int) := od
                have q345 : x5_1 < (l1.length : Int) := od
                obtain ⟨ad345, A345_2, c345_2, e345, hx345_0, hx345_1, hx345_2, hl345_2, hi345_2⟩ := at_T36 HR1.out x5_1 p345 q345
                have hw345_2 := hx345_2
                have hw345_1 := hx345_1
                have hw345_0 := hx345_0
                cases e345
                replace hx345_0 := hcz HB hx345_0
                replace hx345_1 := hcz HB hx345_1
                replace hx345_2 := hcz HB hx345_2
                have HR345_2 := Aside0.mk hi345_2
                have HC345_2 := Aside0.mk hl345_2
                clear hi345_2 hl345_2
                replace p345 := eq_true p345
                replace q345 := eq_true q345
                refine start_ (n := 10) (S := fun w' => w'.cell? (ad344.add ((x5_1).toNat * 3)) = some (.int .u8 ((rd_T36 l0 x5_1).f0)) ∧ w'.cell? ⟨(ad344.add ((x5_1).toNat * 3)).block, (ad344.add ((x5_1).toNat * 3)).off + 1, none⟩ = some (.int .u32 ((rd_T36 l0 x5_1).f1)) ∧ w'.cell? ⟨(ad344.add ((x5_1).toNat * 3)).block, (ad344.add ((x5_1).toNat * 3)).off + 2, none⟩ = some (.slice A344_2 ((rd_T36 l0 x5_1).f2).length c344_2) ∧ w'.cell? (ad345.add ((x5_1).toNat * 3)) = some (.int .u8 ((rd_T36 l1 x5_1).f0)) ∧ w'.cell? ⟨(ad345.add ((x5_1).toNat * 3)).block, (ad345.add ((x5_1).toNat * 3)).off + 1, none⟩ = some (.int .u32 ((rd_T36 l1 x5_1).f1)) ∧ w'.cell? ⟨(ad345.add ((x5_1).toNat * 3)).block, (ad345.add ((x5_1).toNat * 3)).off + 2, none⟩ = some (.slice A345_2 ((rd_T36 l1 x5_1).f2).length c345_2)) (ds := []) #[false, false, false, false, false, false, false, false, false, false] (by kernel_rfl) rfl rfl ⟨((HB.out.cell (World.block_lt_of_cell? w _ hw344_0)).trans hw344_0), ((HB.out.cell (World.block_lt_of_cell? w _ hw344_1)).trans hw344_1), ((HB.out.cell (World.block_lt_of_cell? w _ hw344_2)).trans hw344_2), ((HB.out.cell (World.block_lt_of_cell? w _ hw345_0)).trans hw345_0), ((HB.out.cell (World.block_lt_of_cell? w _ hw345_1)).trans hw345_1), ((HB.out.cell (World.block_lt_of_cell? w _ hw345_2)).trans hw345_2)⟩ (fun hHeld => ?_); refine with_tabW stolonref05_Recs.tab6 stolonref05_Recs.bits6 (fun HT_ HW_ => ?_)
                generalize wr.drew = w9 at HB HR344_2 HR345_2 hx344_0 hx344_1 hx344_2 hx345_0 hx345_1 hx345_2 hHeld ⊢
                refine pw 0 18 (bb 10 1) rfl rfl HT_ ?_
                refine pw 1 19 (bb 10 3) rfl rfl HT_ ?_
                refine pw 2 20 (bb 10 7) rfl rfl HT_ ?_
                refine pw 4 22 (bb 10 23) rfl rfl HT_ ?_
                refine pw 5 23 (bb 10 55) rfl rfl HT_ ?_
                refine pw 6 24 (bb 10 119) rfl rfl HT_ ?_
                refine tk 3 21 (bb 10 127) rfl rfl HT_ HW_ hHeld ?_
                refine tk 7 25 (bb 10 255) rfl rfl HT_ HW_ hHeld ?_
                refine on1 8 (some 26) (bb 10 511) rfl rfl HT_ (fun K hK => ?_)
                refine gfn Try.func38 #[.agg #[.int .u8 ((rd_T36 l0 x5_1).f0), .int .u32 ((rd_T36 l0 x5_1).f1), .slice A344_2 ((rd_T36 l0 x5_1).f2).length c344_2], .agg #[.int .u8 ((rd_T36 l1 x5_1).f0), .int .u32 ((rd_T36 l1 x5_1).f1), .slice A345_2 ((rd_T36 l1 x5_1).f2).length c345_2]] ?_
                with_reducible refine (stolonref05_Rec.calls k1 ((rd_T36 l0 x5_1).f0) ((rd_T36 l0 x5_1).f1) _ _ ((rd_T36 l0 x5_1).f2) ((rd_T36 l1 x5_1).f0) ((rd_T36 l1 x5_1).f1) _ _ ((rd_T36 l1 x5_1).f2) true _ ?side1 ?side2 ?side3 ?side4 A7.out).mono ?_
                (case side1 => exact ca (Kd.C_below HR344_2.out HB.out))
                (case side2 => exact HC344_2.out)
                (case side3 => exact ca (Kd.C_below HR345_2.out HB.out))
                (case side4 => exact HC345_2.out)
                rintro e w10 ⟨rfl, hb⟩
                refine ⟨_, rfl, ?_⟩
                replace HB := Aside0.mk (below_step (bl HB) hb)
                (try clear hb)
                (try clear hb2)
                (try clear hk)
                (try clear hi)
                refine hK.out _ _ ⟨((HB.out.cell (World.block_lt_of_cell? w _ hw344_0)).trans hw344_0), ((HB.out.cell (World.block_lt_of_cell? w _ hw344_1)).trans hw344_1), ((HB.out.cell (World.block_lt_of_cell? w _ hw344_2)).trans hw344_2), ((HB.out.cell (World.block_lt_of_cell? w _ hw345_0)).trans hw345_0), ((HB.out.cell (World.block_lt_of_cell? w _ hw345_1)).trans hw345_1), ((HB.out.cell (World.block_lt_of_cell? w _ hw345_2)).trans hw345_2)⟩ (fun hHeld => ?_)
                clear hK K
                refine nm ?_
                refine pw 9 6 (bb 10 1023) rfl rfl HT_ ?_
                refine done_ (done_of HT_.out (by kernel_rfl)) ?_
                try go_wp2
                go_roundg k1
                case measure => have := HK1.out; omega
                case rel => exact ⟨(wrap64 (x5_1 + 1)), (fr), H', ⟨by have := HK1.out; omega⟩, ⟨bl HB⟩⟩
              · replace c8 := Bool.eq_false_iff.mpr c8
                subst c8
                replace H : (some false) = some r := by rw [if_neg (show ¬ (false = true) by decide)] at H; exact H
                obtain rfl := Option.some.inj H
                try go_wp2
                replace HB := Aside0.mk (below_drew1 HB.out)
                have p344 : 0 ≤ (x5_1 : Int) := od
                have q344 : x5_1 < (l0.length : Int) := od
                obtain ⟨ad344, A344_2, c344_2, e344, hx344_0, hx344_1, hx344_2, hl344_2, hi344_2⟩ := at_T36 HR0.out x5_1 p344 q344
                have hw344_2 := hx344_2
                have hw344_1 := hx344_1
                have hw344_0 := hx344_0
                cases e344
                replace hx344_0 := hcz HB hx344_0
                replace hx344_1 := hcz HB hx344_1
                replace hx344_2 := hcz HB hx344_2
                have HR344_2 := Aside0.mk hi344_2
                have HC344_2 := Aside0.mk hl344_2
                clear hi344_2 hl344_2
                replace p344 := eq_true p344
                replace q344 := eq_true q344
                have p345 : 0 ≤ (x5_1 : Int) := od
                have q345 : x5_1 < (l1.length : Int) := od
                obtain ⟨ad345, A345_2, c345_2, e345, hx345_0, hx345_1, hx345_2, hl345_2, hi345_2⟩ := at_T36 HR1.out x5_1 p345 q345
                have hw345_2 := hx345_2
                have hw345_1 := hx345_1
                have hw345_0 := hx345_0
                cases e345
                replace hx345_0 := hcz HB hx345_0
                replace hx345_1 := hcz HB hx345_1
                replace hx345_2 := hcz HB hx345_2
                have HR345_2 := Aside0.mk hi345_2
                have HC345_2 := Aside0.mk hl345_2
                clear hi345_2 hl345_2
                replace p345 := eq_true p345
                replace q345 := eq_true q345
                refine start_ (n := 10) (S := fun w' => w'.cell? (ad344.add ((x5_1).toNat * 3)) = some (.int .u8 ((rd_T36 l0 x5_1).f0)) ∧ w'.cell? ⟨(ad344.add ((x5_1).toNat * 3)).block, (ad344.add ((x5_1).toNat * 3)).off + 1, none⟩ = some (.int .u32 ((rd_T36 l0 x5_1).f1)) ∧ w'.cell? ⟨(ad344.add ((x5_1).toNat * 3)).block, (ad344.add ((x5_1).toNat * 3)).off + 2, none⟩ = some (.slice A344_2 ((rd_T36 l0 x5_1).f2).length c344_2) ∧ w'.cell? (ad345.add ((x5_1).toNat * 3)) = some (.int .u8 ((rd_T36 l1 x5_1).f0)) ∧ w'.cell? ⟨(ad345.add ((x5_1).toNat * 3)).block, (ad345.add ((x5_1).toNat * 3)).off + 1, none⟩ = some (.int .u32 ((rd_T36 l1 x5_1).f1)) ∧ w'.cell? ⟨(ad345.add ((x5_1).toNat * 3)).block, (ad345.add ((x5_1).toNat * 3)).off + 2, none⟩ = some (.slice A345_2 ((rd_T36 l1 x5_1).f2).length c345_2)) (ds := []) #[false, false, false, false, false, false, false, false, false, false] (by kernel_rfl) rfl rfl ⟨((HB.out.cell (World.block_lt_of_cell? w _ hw344_0)).trans hw344_0), ((HB.out.cell (World.block_lt_of_cell? w _ hw344_1)).trans hw344_1), ((HB.out.cell (World.block_lt_of_cell? w _ hw344_2)).trans hw344_2), ((HB.out.cell (World.block_lt_of_cell? w _ hw345_0)).trans hw345_0), ((HB.out.cell (World.block_lt_of_cell? w _ hw345_1)).trans hw345_1), ((HB.out.cell (World.block_lt_of_cell? w _ hw345_2)).trans hw345_2)⟩ (fun hHeld => ?_); refine with_tabW stolonref05_Recs.tab6 stolonref05_Recs.bits6 (fun HT_ HW_ => ?_)
                generalize wr.drew = w11 at HB HR344_2 HR345_2 hx344_0 hx344_1 hx344_2 hx345_0 hx345_1 hx345_2 hHeld ⊢
                refine pw 0 18 (bb 10 1) rfl rfl HT_ ?_
                refine pw 1 19 (bb 10 3) rfl rfl HT_ ?_
                refine pw 2 20 (bb 10 7) rfl rfl HT_ ?_
                refine pw 4 22 (bb 10 23) rfl rfl HT_ ?_
                refine pw 5 23 (bb 10 55) rfl rfl HT_ ?_
                refine pw 6 24 (bb 10 119) rfl rfl HT_ ?_
                refine tk 3 21 (bb 10 127) rfl rfl HT_ HW_ hHeld ?_
                refine tk 7 25 (bb 10 255) rfl rfl HT_ HW_ hHeld ?_
                refine on1 8 (some 26) (bb 10 511) rfl rfl HT_ (fun K hK => ?_)
                refine gfn Try.func38 #[.agg #[.int .u8 ((rd_T36 l0 x5_1).f0), .int .u32 ((rd_T36 l0 x5_1).f1), .slice A344_2 ((rd_T36 l0 x5_1).f2).length c344_2], .agg #[.int .u8 ((rd_T36 l1 x5_1).f0), .int .u32 ((rd_T36 l1 x5_1).f1), .slice A345_2 ((rd_T36 l1 x5_1).f2).length c345_2]] ?_
                with_reducible refine (stolonref05_Rec.calls k1 ((rd_T36 l0 x5_1).f0) ((rd_T36 l0 x5_1).f1) _ _ ((rd_T36 l0 x5_1).f2) ((rd_T36 l1 x5_1).f0) ((rd_T36 l1 x5_1).f1) _ _ ((rd_T36 l1 x5_1).f2) false _ ?side1 ?side2 ?side3 ?side4 A7.out).mono ?_
                (case side1 => exact ca (Kd.C_below HR344_2.out HB.out))
                (case side2 => exact HC344_2.out)
                (case side3 => exact ca (Kd.C_below HR345_2.out HB.out))
                (case side4 => exact HC345_2.out)
                rintro e w12 ⟨rfl, hb⟩
                refine ⟨_, rfl, ?_⟩
                replace HB := Aside0.mk (below_step (bl HB) hb)
                (try clear hb)
                (try clear hb2)
                (try clear hk)
                (try clear hi)
                refine hK.out _ _ ⟨((HB.out.cell (World.block_lt_of_cell? w _ hw344_0)).trans hw344_0), ((HB.out.cell (World.block_lt_of_cell? w _ hw344_1)).trans hw344_1), ((HB.out.cell (World.block_lt_of_cell? w _ hw344_2)).trans hw344_2), ((HB.out.cell (World.block_lt_of_cell? w _ hw345_0)).trans hw345_0), ((HB.out.cell (World.block_lt_of_cell? w _ hw345_1)).trans hw345_1), ((HB.out.cell (World.block_lt_of_cell? w _ hw345_2)).trans hw345_2)⟩ (fun hHeld => ?_)
                clear hK K
                refine nm ?_
                refine pw 9 6 (bb 10 1023) rfl rfl HT_ ?_
                refine done_ (done_of HT_.out (by kernel_rfl)) ?_
                try go_wp2
                go_ret
                exact ⟨by first | rfl | (simp [errW_none, errW_some] <;> rfl) | (simp [*, errW_none, errW_some] <;> rfl), bl HB⟩
            · rw [if_neg c6] at H
              exact absurd H (by simp)
          · rw [if_neg c5] at H
            exact absurd H (by simp)
        · rw [if_neg c4] at H
          have c4b0 : decide (x5_1 < (l0.length : Int)) = false := decide_eq_false c4
          clear c4
          obtain rfl := Option.some.inj H
          go_wp2
          go_ret
          exact ⟨by first | rfl | (simp [errW_none, errW_some] <;> rfl) | (simp [*, errW_none, errW_some] <;> rfl), bl HB⟩
  · rw [if_neg c3] at H
    have c3b0 : ((l0.length : Int) == (l1.length : Int)) = false := beq_eq_false_iff_ne.mpr c3
    have c3b1 : ((l0.length : Int) != (l1.length : Int)) = true := bne_iff_ne.mpr c3
    have c3b2 : (l0.length == l1.length) = false := by first | simpa using c3 | (simp at c3 ⊢; omega)
    obtain rfl := Option.some.inj H
    go_enter Try.func22, Try.ntmps22
    go_wp2
    go_ret
    exact ⟨by first | rfl | (simp [errW_none, errW_some] <;> rfl) | (simp [*, errW_none, errW_some] <;> rfl), bl HB⟩
end Go.Proofs.Ytjncmiclpaodhaa.PHo
