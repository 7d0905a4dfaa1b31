/-
  Package set: Make.
-/
import Derived.Test.YtjncmiclpaodhaaReg
import Derived.Test.YtjncmiclpaodhaaMkP
import Derived.Test.YtjncmiclpaodhaaSoJ
import Derived.Test.YtjncmiclpaodhaaVInv
import Derived.MapFrom
import Derived.ChangeMaps4
import Derived.KernelRfl
namespace Go.Proofs.Ytjncmiclpaodhaa
open Go.RowKit Go.Sort Go.Lib Go.Proofs.YtjncmiclpaodhaaW.PrintWords
set_option linter.unusedVariables false
set_option linter.unusedSimpArgs false
theorem ins_nil (w : World) : Calls Try.prog 86 #[.slice none 0 0, .int .i64 0, .int .i64 0] w fun e w' => e = .returned (.tuple #[]) ∧ w' = w := by
  go_enter Try.func86, Try.ntmps86
  go_wp2
  go_loopw [6] (fun vi wr => vi = .int .i64 1 ∧ wr = w) (fun _ _ => 0)
  case atStart => exact ⟨rfl, rfl⟩
  case round =>
    obtain ⟨rfl, rfl⟩ := hrel
    go_wp2
    go_end0
    exact ⟨rfl, rfl⟩
set_option maxRecDepth 100000 in
set_option maxHeartbeats 4000000 in
theorem pdq_nil (l : Int) (w : World) : Calls Try.prog 82 #[.slice none 0 0, .int .i64 0, .int .i64 0, .int .i64 l] w fun e w' => e = .returned (.tuple #[]) ∧ w' = w := by
  go_enter Try.func82, Try.ntmps82
  go_wp2
  go_loopg [1, 2] 1 (fun _ v1 v2 wr => v1 = .int .i64 0 ∧ v2 = .int .i64 0 ∧ wr = w)
  case atStart => exact ⟨rfl, rfl, rfl⟩
  case round =>
    obtain ⟨rfl, rfl, rfl⟩ := hrel
    go_wp2_with (go_at_call 86; refine (ins_nil _).mono ?_; rintro e w' ⟨rfl, rfl⟩)
    exact bodyPost_ret (results_none rfl _ _ _) rfl ⟨rfl, rfl⟩
theorem sort_nil (w : World) : Calls Try.prog 75 #[.slice none 0 0] w fun e w' => e = .returned (.tuple #[]) ∧ w' = w := by
  go_enter Try.func75, Try.ntmps75
  go_wp2_with (first | (go_at_call 83; refine (len_w 0 (by decide) _).mono ?_; rintro e w' ⟨L, rfl, hL, rfl⟩; clear hL) | (go_at_call 82; refine (pdq_nil _ _).mono ?_; rintro e w' ⟨rfl, rfl⟩))
  go_end0
  exact ⟨rfl, rfl⟩
theorem sort_w {g m n cap : Nat} {d : Array Int} {w : World} (h : Lies w w g m d) (hn : d.size = n) (hsz : n < 65536) :
    Calls Try.prog 75 #[.slice (some ⟨g, 0, none⟩) n cap] w (Sorted_ 0 n g m d w) := by
  have HL := Lib.hid h
  have HN := Lib.hid hn
  have HZ := Lib.hid hsz
  have hw : IntKind.u64.wrap (n : Int) = (n : Int) := by rw [IntKind.wrap_u64]; omega
  clear h hn hsz
  go_enter Try.func75, Try.ntmps75
  go_wp2_with (first | (go_at_call 83; refine (len_w n HZ.out _).mono ?_; rintro e w' ⟨L, rfl, hL, rfl⟩; clear hL) | (go_at_call 82; refine (pdq_w HZ.out (n + 1) 0 n _ d _ (by omega) (Nat.zero_le _) (Nat.le_refl _) HN.out HL.out (.inl rfl)).mono ?_; rintro r w' ⟨rfl, hR⟩; have HR := Lib.hid hR; clear hR))
  go_end0
  exact ⟨rfl, HR.out⟩
theorem collect_w (Bs : Nat) (A : Option Addr) (c : Nat) (ls : List Int) (hl : ls.length < 65536) (w : World) (h1 : Boxed w Bs 24 (.slice A ls.length c)) (hr : ReadsInt w .u32 A ls.length ls) :
    Calls Try.prog 74 #[.func (.func 76) #[] #[.pointer (some ⟨Bs, 0, none⟩)]] w fun e w' => ∃ v, e = .returned v ∧ w'.ownsRow w.heap.size 23 1 v ls.length (nums .u32 ls) ∧ Below w.heap.size w w' := by
  have H1 := Lib.hid h1
  have HR := Lib.hid hr
  have HZ := Lib.hid hl
  clear h1 hr hl
  go_enter Try.func74, Try.ntmps74
  go_wp2_with (go_at_call 81; refine (appseq_w Bs A c ls (by have := HZ.out; omega) _ H1.out HR.out).mono ?_; rintro e w' ⟨v, rfl, hv⟩; have HV := Lib.hid hv; clear hv)
  go_ret
  exact ⟨v, rfl, HV.out⟩
theorem lies_of_own {w : World} {b g cap n : Nat} {cur : Array Value} {ls : List Int} (hg : w.heap[g]? = some (.cells cur 23 (0, 0))) (hs : cur.size = cap) (hn : ls.length = n) (hc : n ≤ cap) (ht : cur.toList.take n = nums .u32 ls) : Lies w w g cap ls.toArray := by
  subst hn
  refine ⟨Off.refl _ _, by simpa using hc, cur, hg, hs, fun i hi => ?_⟩
  have hi' : i < ls.length := by simpa using hi
  have h1 : (cur.toList.take ls.length)[i]? = (nums .u32 ls)[i]? := by rw [ht]
  rw [List.getElem?_take, if_pos hi', Array.getElem?_toList] at h1
  rw [h1, getElem!_pos ls.toArray i hi]
  simp [nums, hi']
theorem own_of_front {w0 w : World} {b g cap n : Nat} {L : List Int} (h : Front w0 w g cap n L) (hg : b ≤ g) (hc : n ≤ cap) (hm : cap ≤ maxLen) : w.ownsRow b 23 1 (.slice (some ⟨g, 0, none⟩) L.length cap) L.length (nums .u32 L) := by
  obtain ⟨d', hl, hs, hn, hf⟩ := h.lies
  obtain ⟨cur, hb, hz, hcell⟩ := hl.row
  refine ⟨by simp [nums], .inr ⟨g, cap, cur, rfl, hg, hb, by omega, hm, by rw [hz]; omega, ?_⟩⟩
  apply List.ext_getElem?
  intro i
  rw [List.getElem?_take]
  by_cases hi : i < L.length
  · rw [if_pos (by omega), Array.getElem?_toList, hcell i (by omega)]
    have := hf i hi
    simp [nums, this]
  · rw [if_neg (by omega)]
    exact (List.getElem?_eq_none (by simp [nums]; omega)).symm
theorem nil_own {w : World} {b n : Nat} {v : Value} {ls : List Int} (h : w.ownsRow b 23 1 v n (nums .u32 ls)) (hn : ls.length = n) :
    (v = .slice none 0 0 ∧ ls = []) ∨ ∃ g cap, v = .slice (some ⟨g, 0, none⟩) n cap ∧ b ≤ g ∧ n ≤ cap ∧ cap ≤ maxLen ∧ Lies w w g cap ls.toArray := by
  obtain ⟨_, h | ⟨g, cap, cur, rfl, hg, hb, hc, hm, hz, ht⟩⟩ := h
  · exact .inl ⟨h.1, List.eq_nil_of_length_eq_zero (by omega)⟩
  · exact .inr ⟨g, cap, rfl, hg, hc, hm, lies_of_own (b := b) hb (by omega) hn hc (by simpa using ht)⟩
def MadeRow (ls : List Int) (w : World) (e : Ending) (w' : World) : Prop :=
  Below w.heap.size w w' ∧ ((e = .returned (.slice none 0 0) ∧ ls = []) ∨ ∃ g cap R, e = .returned (.slice (some ⟨g, 0, none⟩) ls.length cap) ∧ w.heap.size ≤ g ∧ ls.length ≤ cap ∧ cap ≤ maxLen ∧ (PermIn 0 ls.length ls.toArray R ∧ SortedIn ltA 0 ls.length R) ∧ Lies w' w' g cap R)
theorem below_lies {w w1 w2 : World} {g m : Nat} {d : Array Int} (h : Below w.heap.size w w1) (k : Lies w1 w2 g m d) (hg : w.heap.size ≤ g) : Below w.heap.size w w2 :=
  ((Off.of_below h).trans (k.off.mono (fun i _ e => by omega))).below (Nat.le_refl _)
theorem sorted_w (Bs : Nat) (A : Option Addr) (c : Nat) (ls : List Int) (hl : ls.length < 65536) (w : World) (h1 : Boxed w Bs 24 (.slice A ls.length c)) (hr : ReadsInt w .u32 A ls.length ls) :
    Calls Try.prog 61 #[.func (.func 76) #[] #[.pointer (some ⟨Bs, 0, none⟩)]] w (MadeRow ls w) := by
  have H1 := Lib.hid h1
  have HR := Lib.hid hr
  have HZ := Lib.hid hl
  clear h1 hr hl
  go_enter Try.func61, Try.ntmps61
  go_upto_region 2 with (go_at_call 74; refine (collect_w Bs A c ls HZ.out _ H1.out HR.out).mono ?_; rintro e w' ⟨v, rfl, hv⟩; have HV := Lib.hid hv; clear hv)
  have hvv := nil_own HV.out.1 rfl
  rcases hvv with ⟨rfl, he⟩ | ⟨g, cap, rfl, hg, hc, hm, hl⟩
  · have HE := Lib.hid he
    clear he
    go_wp2_with (go_at_call 75; refine (sort_nil _).mono ?_; rintro e w' ⟨rfl, rfl⟩)
    go_ret
    exact ⟨HV.out.2, .inl ⟨rfl, HE.out⟩⟩
  · have HLL := Lib.hid hl
    have HG := Lib.hid (show w.heap.size ≤ g ∧ ls.length ≤ cap ∧ cap ≤ maxLen from ⟨hg, hc, hm⟩)
    clear hl hg hc hm
    go_wp2_with (go_at_call 75; refine (sort_w HLL.out (by simp) HZ.out).mono ?_; rintro r w' ⟨rfl, hR⟩; have HRR := Lib.hid hR; clear hR)
    go_ret
    obtain ⟨R, hs, hl⟩ := HRR.out
    exact ⟨below_lies HV.out.2 hl HG.out.1, .inr ⟨g, cap, R, rfl, HG.out.1, HG.out.2.1, HG.out.2.2, hs, hl.here⟩⟩
theorem compact_nil (w : World) : Calls Try.prog 60 #[.slice none 0 0] w fun e w' => e = .returned (.slice none 0 0) ∧ w' = w := by
  go_enter Try.func60, Try.ntmps60
  go_wp2
  go_ret
  exact ⟨rfl, rfl⟩
theorem below_made {w w2 : World} {o : Obj} (h : Below (w.alloc o).heap.size (w.alloc o) w2) : Below w.heap.size w w2 :=
  ((off_alloc w o).mono (ψ := fun k => w.heap.size ≤ k) (fun _ _ h => h.elim) |>.then_ (Off.of_below h) (fun i hi h' => by simp at h'; omega)).below (Nat.le_refl _)
theorem make_w (A : Option Addr) (c : Nat) (ls : List Int) (hl : ls.length < 65536) (w : World) (hr : ReadsInt w .u32 A ls.length ls) :
    Calls Try.prog 42 #[.slice A ls.length c] w fun e w' => ∃ v, e = .returned v ∧ w'.ownsRow w.heap.size 23 1 v (mk ls).length (nums .u32 (mk ls)) ∧ Below w.heap.size w w' := by
  have HR := Lib.hid hr
  have HZ := Lib.hid hl
  clear hr hl
  go_enter Try.func42, Try.ntmps42
  go_wp2_with (first | (go_at_call 62; refine (values_w _ _ _ _).mono ?_; rintro e w' ⟨rfl, rfl⟩) | (go_at_call 61; refine (sorted_w w.heap.size A c ls HZ.out _ (Boxed.new w _ _) (readsInt_of_block HR.out (fun ad e hp => Below.heap_alloc _ _ _ (by obtain ⟨ad', e', hc⟩ := HR.out.2.2 hp; rw [e] at e'; cases e'; have := World.block_lt_of_cell? w _ (hc 0 hp); unfold Addr.add at this; simpa using this)))).mono ?_; rintro e w2 ⟨hB, ⟨rfl, he⟩ | ⟨g, cap, R, rfl, hg, hc, hm, hs, hl⟩⟩))
  · have HE := Lib.hid he
    have HB := Lib.hid hB
    clear he hB
    refine (compact_nil _).mono ?_
    rintro e w' ⟨rfl, rfl⟩
    go_wp2
    go_ret
    refine ⟨_, rfl, by rw [HE.out]; exact own_nil _ _ _ _, ?_⟩
    exact below_made HB.out
  · have HB := Lib.hid hB
    have HL := Lib.hid hl
    have HS := Lib.hid hs
    have HG := Lib.hid (show w.heap.size ≤ g ∧ ls.length ≤ cap ∧ cap ≤ maxLen from ⟨by simp at hg; omega, hc, hm⟩)
    have HC := Lib.hid (show R.size = ls.length from by rw [hs.1.1]; simp)
    clear hB hl hs hg hc hm
    refine (compact_w HL.out HC.out HZ.out HG.out.2.1).mono ?_
    rintro e w' ⟨rfl, hf⟩
    rw [cup_mk rfl HS.out.1 HS.out.2] at hf ⊢
    have HF := Lib.hid hf
    clear hf
    go_wp2
    go_ret
    refine ⟨_, rfl, own_of_front HF.out HG.out.1 HG.out.2.1 HG.out.2.2, ?_⟩
    obtain ⟨d', h1, _⟩ := HF.out.lies
    exact below_lies (below_made HB.out) h1 HG.out.1

def set_Make.f (l0 : List Int) : Option (List Int) := if l0.length < 65536 then some (mk l0) else none
theorem set_Make.calls (A0 : Option Addr) (c0 : Nat) (l0 : List Int) (r : List Int) (w : World) (hr0 : Kd.C (Kd.int .u32) w A0 l0.length l0) (hc0 : l0.length ≤ c0) (h : set_Make.f l0 = some r) :
    Calls Try.prog 42 #[.slice A0 l0.length c0] w fun e w' => ∃ v0_ : Value, e = .returned (v0_) ∧ Kd.R (Kd.int .u32) 23 w' w.heap.size (fun _ => True) v0_ r ∧ Below w.heap.size w w' := by
  unfold set_Make.f at h
  split at h
  next hl =>
    cases h
    refine (make_w A0 c0 l0 hl w (rdu hr0)).mono ?_
    rintro e w' ⟨v, rfl, hrow, hB⟩
    exact ⟨v, rfl, Kd.R_of_own hrow (fun _ _ => trivial), hB⟩
  next => cases h
end Go.Proofs.Ytjncmiclpaodhaa
-- written by a program of this session (hprint.py), over the kit's printer
namespace Go.Proofs.Ytjncmiclpaodhaa.PHo
open Go.RowKit Go.Proofs.YtjncmiclpaodhaaW.PrintWords Go.Proofs.YtjncmiclpaodhaaW.PrintLast Go.Proofs.YtjncmiclpaodhaaW.PrintMore
attribute [local go_sem] max2_int min2_int max_two min_two max_three min_three max_four min_four   -- for this text's walks alone
set_option linter.unusedVariables false
set_option linter.unusedSimpArgs false

-- BY HAND: function 8 (stolonlaw07_shown)

/-! ### stolonref06_Right: function 9 -/
def stolonref06_Right.l0 : Nat → List Int → Int → Option (Bool)
  | 0, _, _ => none
  | k + 1, x0, x3 => if x3 < (x0.length : Int) then (if 0 ≤ (wrap64 (x3 - 1)) then (if (wrap64 (x3 - 1)) < (x0.length : Int) then (if 0 ≤ x3 then (if (rd x0 (wrap64 (x3 - 1))) ≥ (rd x0 x3) then (some false) else (stolonref06_Right.l0 k x0 (wrap64 (x3 + 1)))) else (none)) else (none)) else (none)) else (some true)
def stolonref06_Right.f (k : Nat) (l0 : List Int) : Option (Bool) := stolonref06_Right.l0 k l0 1
theorem stolonref06_Right.mono_l : ∀ k, (∀ y0 y1, LeO (stolonref06_Right.l0 k y0 y1) (stolonref06_Right.l0 (k + 1) y0 y1))
  | 0 => fun _ _ r h => by simp [stolonref06_Right.l0] at h
  | k + 1 => by
    have ih0 := stolonref06_Right.mono_l k
    · intro y0 y1
      unfold stolonref06_Right.l0
      repeat' first
      | (with_reducible exact ih0 _ _)
      | (with_reducible exact LeO.refl _)
      | (with_reducible exact LeO.none _)
      | (with_reducible refine LeO.ite ?_ ?_)
      | (with_reducible refine LeO.bind ?_ (fun _ => ?_))
      | exact ih0 _ _
      | exact LeO.none _
      | refine LeO.ite ?_ ?_
      | refine LeO.bind ?_ (fun _ => ?_)
theorem stolonref06_Right.mono : ∀ a0 k, LeO (stolonref06_Right.f k a0) (stolonref06_Right.f (k + 1) a0) := by
  intro a0 k
  have ih0 := stolonref06_Right.mono_l k
  unfold stolonref06_Right.f
  repeat' first
      | (with_reducible exact ih0 _ _)
      | (with_reducible exact LeO.refl _)
      | (with_reducible exact LeO.none _)
      | (with_reducible refine LeO.ite ?_ ?_)
      | (with_reducible refine LeO.bind ?_ (fun _ => ?_))
      | exact ih0 _ _
      | exact LeO.none _
      | refine LeO.ite ?_ ?_
      | refine LeO.bind ?_ (fun _ => ?_)
set_option maxHeartbeats 8000000 in
set_option maxRecDepth 100000 in
theorem stolonref06_Right.calls (k : Nat) (A0 : Option Addr) (c0 : Nat) (l0 : List Int) (r : Bool) (w : World) (hr0 : Kd.C (Kd.int .u32) w A0 l0.length l0) (hc0 : l0.length ≤ c0) (h : stolonref06_Right.f k l0 = some r) :
    Calls Try.prog 9 #[.slice A0 l0.length c0] w fun e w' => e = .returned (.bool r) ∧ Drawn0 w w' := by
  have HR0 := Aside0.mk hr0
  have HC0 := Aside0.mk hc0
  clear hr0 hc0
  have H : (stolonref06_Right.l0 k l0 1) = some r := h
  clear h
  have H' := Aside0.mk H
  clear H
  go_enter Try.func9, Try.ntmps9
  go_wp2
  repeat (go_quiet (fail); try go_wp2)
  go_loopg [3] k (fun kq v3 w' => ∃ (x3_1 : Int), v3 = .int .i64 x3_1 ∧ Aside0 (stolonref06_Right.l0 kq l0 x3_1 = some r) ∧ Aside0 (kq ≤ k) ∧ Drawn0 w w')
  case atStart => exact ⟨(1), (by first | rfl | (simp; done) | (simp [*]; done)), H', ⟨Nat.le_refl _⟩, by repeat (first | exact Drawn0.refl _ | apply Drawn0.step)⟩
  case round =>
    clear H'
    obtain ⟨x3_1, rfl, HA, HK1, ⟨m1, rfl⟩⟩ := hrel
    cases gk with
    | zero => exact absurd HA.out (by simp [stolonref06_Right.l0])
    | succ k1 =>
      have H := HA.out
      clear HA
      simp only [stolonref06_Right.l0] at H
      by_cases c2 : x3_1 < (l0.length : Int)
      · rw [if_pos c2] at H
        have c2b0 : decide (x3_1 < (l0.length : Int)) = true := decide_eq_true c2
        clear c2
        obtain ⟨ji3, hji3⟩ : ∃ j_ : Int, (wrap64 (x3_1 - 1)) = j_ := ⟨_, rfl⟩
        replace H : (if 0 ≤ (ji3) then (if (ji3) < (l0.length : Int) then (if 0 ≤ x3_1 then (if (rd l0 (ji3)) ≥ (rd l0 x3_1) then (some false) else (stolonref06_Right.l0 k1 l0 (wrap64 (x3_1 + 1)))) else (none)) else (none)) else (none)) = some r := by first | (rw [hji3] at H; exact H) | (simp only [hji3] at H ⊢; exact H)
        have hji3w : (IntKind.i64.wrap (x3_1 - 1)) = ji3 := (i64_w _).trans hji3
        by_cases c4 : 0 ≤ (ji3)
        · rw [if_pos c4] at H
          have c4b0 : decide (0 ≤ (ji3)) = true := decide_eq_true c4
          clear c4
          by_cases c5 : (ji3) < (l0.length : Int)
          · rw [if_pos c5] at H
            have c5b0 : decide ((ji3) < (l0.length : Int)) = true := decide_eq_true c5
            clear c5
            by_cases c6 : 0 ≤ x3_1
            · rw [if_pos c6] at H
              have c6b0 : decide (0 ≤ x3_1) = true := decide_eq_true c6
              clear c6
              by_cases c7 : (rd l0 (ji3)) ≥ (rd l0 x3_1)
              · rw [if_pos c7] at H
                have c7b0 : decide ((rd l0 x3_1) ≤ (rd l0 (ji3))) = true := decide_eq_true c7
                clear c7
                obtain rfl := Option.some.inj H
                have p310 : 0 ≤ ((ji3) : Int) := of_decide_eq_true (by first | (with_reducible assumption) | assumption)
                have q310 : (ji3) < (l0.length : Int) := of_decide_eq_true (by first | (with_reducible assumption) | assumption)
                obtain ⟨ad310, e310, hx310_0⟩ := Kd.at_int HR0.out (ji3) p310 q310
                cases e310
                replace p310 := eq_true p310
                replace q310 := eq_true q310
                have p311 : 0 ≤ (x3_1 : Int) := of_decide_eq_true (by first | (with_reducible assumption) | assumption)
                have q311 : x3_1 < (l0.length : Int) := of_decide_eq_true (by first | (with_reducible assumption) | assumption)
                obtain ⟨ad311, e311, hx311_0⟩ := Kd.at_int HR0.out x3_1 p311 q311
                obtain rfl : ad310 = ad311 := (by injection e311)
                replace p311 := eq_true p311
                replace q311 := eq_true q311
                go_wp2
                repeat (go_quiet (fail); try go_wp2)
                go_ret
                exact ⟨by first | rfl | (simp; done) | (simp only [← hji3] <;> (first | rfl | simp)) | (simp [*]; done), by repeat (first | exact Drawn0.refl _ | apply Drawn0.step)⟩
              · rw [if_neg c7] at H
                have c7b0 : decide ((rd l0 x3_1) ≤ (rd l0 (ji3))) = false := decide_eq_false c7
                clear c7
                have H' := Aside0.mk H
                clear H
                have p310 : 0 ≤ ((ji3) : Int) := of_decide_eq_true (by first | (with_reducible assumption) | assumption)
                have q310 : (ji3) < (l0.length : Int) := of_decide_eq_true (by first | (with_reducible assumption) | assumption)
                obtain ⟨ad310, e310, hx310_0⟩ := Kd.at_int HR0.out (ji3) p310 q310
                cases e310
                replace p310 := eq_true p310
                replace q310 := eq_true q310
                have p311 : 0 ≤ (x3_1 : Int) := of_decide_eq_true (by first | (with_reducible assumption) | assumption)
                have q311 : x3_1 < (l0.length : Int) := of_decide_eq_true (by first | (with_reducible assumption) | assumption)
                obtain ⟨ad311, e311, hx311_0⟩ := Kd.at_int HR0.out x3_1 p311 q311
                obtain rfl : ad310 = ad311 := (by injection e311)
                replace p311 := eq_true p311
                replace q311 := eq_true q311
                go_wp2
                repeat (go_quiet (fail); try go_wp2)
                go_roundg k1
                case measure => have := HK1.out; omega
                case rel => exact ⟨(wrap64 (x3_1 + 1)), (by first | rfl | (simp; done) | (simp [*]; done)), H', ⟨by have := HK1.out; omega⟩, by repeat (first | exact Drawn0.refl _ | apply Drawn0.step)⟩
            · rw [if_neg c6] at H
              exact absurd H (by simp)
          · rw [if_neg c5] at H
            exact absurd H (by simp)
        · rw [if_neg c4] at H
          exact absurd H (by simp)
      · rw [if_neg c2] at H
        have c2b0 : decide (x3_1 < (l0.length : Int)) = false := decide_eq_false c2
        clear c2
        obtain rfl := Option.some.inj H
        go_wp2
        repeat (go_quiet (fail); try go_wp2)
        go_ret
        exact ⟨by first | rfl | (simp; done) | (simp [*]; done), by repeat (first | exact Drawn0.refl _ | apply Drawn0.step)⟩

/-! ### stolonref06_Has: function 12 -/
def stolonref06_Has.l0 : Nat → List Int → Int → Int → Option (Bool)
  | 0, _, _, _ => none
  | k + 1, x0, x1, x5 => if x5 < (x0.length : Int) then (if 0 ≤ x5 then (if (rd x0 x5) = x1 then (some true) else (stolonref06_Has.l0 k x0 x1 (wrap64 (x5 + 1)))) else (none)) else (some false)
def stolonref06_Has.f (k : Nat) (l0 : List Int) (a1 : Int) : Option (Bool) := stolonref06_Has.l0 k l0 a1 0
theorem stolonref06_Has.mono_l : ∀ k, (∀ y0 y1 y2, LeO (stolonref06_Has.l0 k y0 y1 y2) (stolonref06_Has.l0 (k + 1) y0 y1 y2))
  | 0 => fun _ _ _ r h => by simp [stolonref06_Has.l0] at h
  | k + 1 => by
    have ih0 := stolonref06_Has.mono_l k
    · intro y0 y1 y2
      unfold stolonref06_Has.l0
      repeat' first
      | (with_reducible exact ih0 _ _ _)
      | (with_reducible exact LeO.refl _)
      | (with_reducible exact LeO.none _)
      | (with_reducible refine LeO.ite ?_ ?_)
      | (with_reducible refine LeO.bind ?_ (fun _ => ?_))
      | exact ih0 _ _ _
      | exact LeO.none _
      | refine LeO.ite ?_ ?_
      | refine LeO.bind ?_ (fun _ => ?_)
theorem stolonref06_Has.mono : ∀ a0 a1 k, LeO (stolonref06_Has.f k a0 a1) (stolonref06_Has.f (k + 1) a0 a1) := by
  intro a0 a1 k
  have ih0 := stolonref06_Has.mono_l k
  unfold stolonref06_Has.f
  repeat' first
      | (with_reducible exact ih0 _ _ _)
      | (with_reducible exact LeO.refl _)
      | (with_reducible exact LeO.none _)
      | (with_reducible refine LeO.ite ?_ ?_)
      | (with_reducible refine LeO.bind ?_ (fun _ => ?_))
      | exact ih0 _ _ _
      | exact LeO.none _
      | refine LeO.ite ?_ ?_
      | refine LeO.bind ?_ (fun _ => ?_)
set_option maxHeartbeats 8000000 in
set_option maxRecDepth 100000 in
theorem stolonref06_Has.calls (k : Nat) (A0 : Option Addr) (c0 : Nat) (l0 : List Int) (a1 : Int) (r : Bool) (w : World) (hr0 : Kd.C (Kd.int .u32) w A0 l0.length l0) (hc0 : l0.length ≤ c0) (h : stolonref06_Has.f k l0 a1 = some r) :
    Calls Try.prog 12 #[.slice A0 l0.length c0, .int .u32 a1] w fun e w' => e = .returned (.bool r) ∧ Drawn0 w w' := by
  have HR0 := Aside0.mk hr0
  have HC0 := Aside0.mk hc0
  clear hr0 hc0
  have H : (stolonref06_Has.l0 k l0 a1 0) = some r := h
  clear h
  have H' := Aside0.mk H
  clear H
  go_enter Try.func12, Try.ntmps12
  go_wp2
  go_loopg [5] k (fun kq v5 w' => ∃ (x5_1 : Int), v5 = .int .i64 x5_1 ∧ Aside0 (stolonref06_Has.l0 kq l0 a1 x5_1 = some r) ∧ Aside0 (kq ≤ k) ∧ Drawn0 w w')
  case atStart => exact ⟨(0), (by first | rfl | (simp; done) | (simp [*]; done)), H', ⟨Nat.le_refl _⟩, by repeat (first | exact Drawn0.refl _ | apply Drawn0.step)⟩
  case round =>
    clear H'
    try clear c1
    try clear p2
    obtain ⟨x5_1, rfl, HA, HK1, ⟨m1, rfl⟩⟩ := hrel
    cases gk with
    | zero => exact absurd HA.out (by simp [stolonref06_Has.l0])
    | succ k1 =>
      have H := HA.out
      clear HA
      simp only [stolonref06_Has.l0] at H
      by_cases c3 : x5_1 < (l0.length : Int)
      · rw [if_pos c3] at H
        have c3b0 : decide (x5_1 < (l0.length : Int)) = true := decide_eq_true c3
        clear c3
        by_cases c4 : 0 ≤ x5_1
        · rw [if_pos c4] at H
          have c4b0 : decide (0 ≤ x5_1) = true := decide_eq_true c4
          clear c4
          by_cases c5 : (rd l0 x5_1) = a1
          · rw [if_pos c5] at H
            have c5b0 : ((rd l0 x5_1) == a1) = true := beq_iff_eq.mpr c5
            have c5b1 : ((rd l0 x5_1) != a1) = false := bne_eq_false_iff_eq.mpr c5
            clear c5
            obtain rfl := Option.some.inj H
            have p312 : 0 ≤ (x5_1 : Int) := of_decide_eq_true (by first | (with_reducible assumption) | assumption)
            have q312 : x5_1 < (l0.length : Int) := of_decide_eq_true (by first | (with_reducible assumption) | assumption)
            obtain ⟨ad312, e312, hx312_0⟩ := Kd.at_int HR0.out x5_1 p312 q312
            cases e312
            replace p312 := eq_true p312
            replace q312 := eq_true q312
            go_wp2
            go_ret
            exact ⟨by first | rfl | (simp; done) | (simp [*]; done), by repeat (first | exact Drawn0.refl _ | apply Drawn0.step)⟩
          · rw [if_neg c5] at H
            have c5b0 : ((rd l0 x5_1) == a1) = false := beq_eq_false_iff_ne.mpr c5
            have c5b1 : ((rd l0 x5_1) != a1) = true := bne_iff_ne.mpr c5
            have H' := Aside0.mk H
            clear H
            have p312 : 0 ≤ (x5_1 : Int) := of_decide_eq_true (by first | (with_reducible assumption) | assumption)
            have q312 : x5_1 < (l0.length : Int) := of_decide_eq_true (by first | (with_reducible assumption) | assumption)
            obtain ⟨ad312, e312, hx312_0⟩ := Kd.at_int HR0.out x5_1 p312 q312
            cases e312
            replace p312 := eq_true p312
            replace q312 := eq_true q312
            go_wp2
            go_roundg k1
            case measure => have := HK1.out; omega
            case rel => exact ⟨(wrap64 (x5_1 + 1)), (by first | rfl | (simp; done) | (simp [*]; done)), H', ⟨by have := HK1.out; omega⟩, by repeat (first | exact Drawn0.refl _ | apply Drawn0.step)⟩
        · rw [if_neg c4] at H
          exact absurd H (by simp)
      · rw [if_neg c3] at H
        have c3b0 : decide (x5_1 < (l0.length : Int)) = false := decide_eq_false c3
        clear c3
        obtain rfl := Option.some.inj H
        go_wp2
        go_ret
        exact ⟨by first | rfl | (simp; done) | (simp [*]; done), by repeat (first | exact Drawn0.refl _ | apply Drawn0.step)⟩

/-! ### stolonref06_Wants: function 11 -/
def stolonref06_Wants.f (k : Nat) (a0_0 : Bool) (l0_1 : List Int) (a1 : Int) : Option (Bool) := (stolonref06_Has.f k l0_1 a1).bind fun t314 => (some (t314 != a0_0))
theorem stolonref06_Wants.mono : ∀ a0 a1 a2 k, LeO (stolonref06_Wants.f k a0 a1 a2) (stolonref06_Wants.f (k + 1) a0 a1 a2) := by
  intro a0 a1 a2 k
  unfold stolonref06_Wants.f
  repeat' first
      | (with_reducible exact stolonref06_Has.mono _ _ _)
      | (with_reducible exact LeO.refl _)
      | (with_reducible exact LeO.none _)
      | (with_reducible refine LeO.ite ?_ ?_)
      | (with_reducible refine LeO.bind ?_ (fun _ => ?_))
      | exact stolonref06_Has.mono _ _ _
      | exact LeO.none _
      | refine LeO.ite ?_ ?_
      | refine LeO.bind ?_ (fun _ => ?_)
set_option maxHeartbeats 8000000 in
set_option maxRecDepth 100000 in
theorem stolonref06_Wants.calls (k : Nat) (a0_0 : Bool) (A0_1 : Option Addr) (c0_1 : Nat) (l0_1 : List Int) (a1 : Int) (r : Bool) (w : World) (hr0_1 : Kd.C (Kd.int .u32) w A0_1 l0_1.length l0_1) (hc0_1 : l0_1.length ≤ c0_1) (h : stolonref06_Wants.f k a0_0 l0_1 a1 = some r) :
    Calls Try.prog 11 #[.agg #[.bool a0_0, .slice A0_1 l0_1.length c0_1], .int .u32 a1] w fun e w' => e = .returned (.bool r) ∧ Below w.heap.size w w' := by
  have hu26 := Try.underlying26
  have HR0_1 := Aside0.mk hr0_1
  have HC0_1 := Aside0.mk hc0_1
  clear hr0_1 hc0_1
  have HB := Aside0.mk (Below.refl w.heap.size w)
  have H : ((stolonref06_Has.f k l0_1 a1).bind fun t314 => (some (t314 != a0_0))) = some r := h
  clear h
  replace H := Option.bind_eq_some_iff.mp H
  obtain ⟨t314, A30, H⟩ := H
  replace H : (some (t314 != a0_0)) = some r := H
  have A3 := Aside0.mk A30
  clear A30
  obtain rfl := Option.some.inj H
  go_enter Try.func11, Try.ntmps11
  go_wp2_with (first | ((with_reducible refine gate_dst (N := 2) rfl ?_); refine box_event ?hg (N := 2) ?hd (cs := #[.bool a0_0, .slice A0_1 l0_1.length c0_1]) (t := 26) ?hr ?_; (case hd => rfl); (case hg => rfl); (case hr => first | (go_simp; done) | (go_simp; rfl)); intro gb313 hg w4 hbox hb; have n0_ := Aside0.mk (below_step (by repeat (first | (with_reducible first | exact HB.out | apply below_alloc | apply pw_below_drewN | apply below_drew1) | exact HB.out)) hb); have n1_ := Aside0.mk (hbox); have n2_ := Aside0.mk ((by rw [hg]; exact (below_size (by repeat (first | (with_reducible first | exact HB.out | apply below_alloc | apply pw_below_drewN | apply below_drew1) | exact HB.out))) : w.heap.size ≤ gb313)); have n3_ := Aside0.mk ((by rw [hg]; exact (below_size (by repeat (first | (with_reducible first | exact HB.out | apply below_alloc | apply pw_below_drewN | apply below_drew1) | exact HB.out))) : w.heap.size ≤ gb313)); clear HB; have HB := n0_; have BK313 := n1_; have GW313 := n2_; have GE313 := n3_; clear n0_ n1_ n2_ n3_; clear hb hbox hg; have hcz5_0 : w4.cell? ⟨gb313, 0, none⟩ = some (.bool a0_0) := (blk_cell BK313.out 0).trans rfl; have hcz5_1 : w4.cell? ⟨gb313, 1, none⟩ = some (.slice A0_1 l0_1.length c0_1) := (blk_cell BK313.out 1).trans rfl; have hfz5_0 := blk_frozen BK313.out 0; have hfz5_1 := blk_frozen BK313.out 1) | (go_at_call 12; (with_reducible refine (stolonref06_Has.calls k _ _ l0_1 a1 t314 _ ?side1 ?side2 A3.out).mono ?_); (case side1 => repeat (first | exact (Kd.C_below HR0_1.out HB.out) | (with_reducible refine Kd.C_alloc ?_ _) | (with_reducible refine Kd.C_drewN ?_ _) | (with_reducible refine Kd.C_drew ?_))); (case side2 => exact HC0_1.out); rintro e w' ⟨rfl, ⟨nd, rfl⟩⟩; (try first | exact ⟨rfl, _, World.drewN_drewN _ _ _⟩ | exact ⟨rfl, _, Eq.trans (World.drewN_drewN _ _ _) (congrArg (World.drewN _) (Nat.add_assoc _ _ _))⟩)))
  repeat (go_quiet (first | ((with_reducible refine gate_dst (N := 2) rfl ?_); refine box_event ?hg (N := 2) ?hd (cs := #[.bool a0_0, .slice A0_1 l0_1.length c0_1]) (t := 26) ?hr ?_; (case hd => rfl); (case hg => rfl); (case hr => first | (go_simp; done) | (go_simp; rfl)); intro gb313 hg w4 hbox hb; have n0_ := Aside0.mk (below_step (by repeat (first | (with_reducible first | exact HB.out | apply below_alloc | apply pw_below_drewN | apply below_drew1) | exact HB.out)) hb); have n1_ := Aside0.mk (hbox); have n2_ := Aside0.mk ((by rw [hg]; exact (below_size (by repeat (first | (with_reducible first | exact HB.out | apply below_alloc | apply pw_below_drewN | apply below_drew1) | exact HB.out))) : w.heap.size ≤ gb313)); have n3_ := Aside0.mk ((by rw [hg]; exact (below_size (by repeat (first | (with_reducible first | exact HB.out | apply below_alloc | apply pw_below_drewN | apply below_drew1) | exact HB.out))) : w.heap.size ≤ gb313)); clear HB; have HB := n0_; have BK313 := n1_; have GW313 := n2_; have GE313 := n3_; clear n0_ n1_ n2_ n3_; clear hb hbox hg; have hcz5_0 : w4.cell? ⟨gb313, 0, none⟩ = some (.bool a0_0) := (blk_cell BK313.out 0).trans rfl; have hcz5_1 : w4.cell? ⟨gb313, 1, none⟩ = some (.slice A0_1 l0_1.length c0_1) := (blk_cell BK313.out 1).trans rfl; have hfz5_0 := blk_frozen BK313.out 0; have hfz5_1 := blk_frozen BK313.out 1) | (go_at_call 12; (with_reducible refine (stolonref06_Has.calls k _ _ l0_1 a1 t314 _ ?side1 ?side2 A3.out).mono ?_); (case side1 => repeat (first | exact (Kd.C_below HR0_1.out HB.out) | (with_reducible refine Kd.C_alloc ?_ _) | (with_reducible refine Kd.C_drewN ?_ _) | (with_reducible refine Kd.C_drew ?_))); (case side2 => exact HC0_1.out); rintro e w' ⟨rfl, ⟨nd, rfl⟩⟩; (try first | exact ⟨rfl, _, World.drewN_drewN _ _ _⟩ | exact ⟨rfl, _, Eq.trans (World.drewN_drewN _ _ _) (congrArg (World.drewN _) (Nat.add_assoc _ _ _))⟩))); try go_wp2_with (first | ((with_reducible refine gate_dst (N := 2) rfl ?_); refine box_event ?hg (N := 2) ?hd (cs := #[.bool a0_0, .slice A0_1 l0_1.length c0_1]) (t := 26) ?hr ?_; (case hd => rfl); (case hg => rfl); (case hr => first | (go_simp; done) | (go_simp; rfl)); intro gb313 hg w4 hbox hb; have n0_ := Aside0.mk (below_step (by repeat (first | (with_reducible first | exact HB.out | apply below_alloc | apply pw_below_drewN | apply below_drew1) | exact HB.out)) hb); have n1_ := Aside0.mk (hbox); have n2_ := Aside0.mk ((by rw [hg]; exact (below_size (by repeat (first | (with_reducible first | exact HB.out | apply below_alloc | apply pw_below_drewN | apply below_drew1) | exact HB.out))) : w.heap.size ≤ gb313)); have n3_ := Aside0.mk ((by rw [hg]; exact (below_size (by repeat (first | (with_reducible first | exact HB.out | apply below_alloc | apply pw_below_drewN | apply below_drew1) | exact HB.out))) : w.heap.size ≤ gb313)); clear HB; have HB := n0_; have BK313 := n1_; have GW313 := n2_; have GE313 := n3_; clear n0_ n1_ n2_ n3_; clear hb hbox hg; have hcz5_0 : w4.cell? ⟨gb313, 0, none⟩ = some (.bool a0_0) := (blk_cell BK313.out 0).trans rfl; have hcz5_1 : w4.cell? ⟨gb313, 1, none⟩ = some (.slice A0_1 l0_1.length c0_1) := (blk_cell BK313.out 1).trans rfl; have hfz5_0 := blk_frozen BK313.out 0; have hfz5_1 := blk_frozen BK313.out 1) | (go_at_call 12; (with_reducible refine (stolonref06_Has.calls k _ _ l0_1 a1 t314 _ ?side1 ?side2 A3.out).mono ?_); (case side1 => repeat (first | exact (Kd.C_below HR0_1.out HB.out) | (with_reducible refine Kd.C_alloc ?_ _) | (with_reducible refine Kd.C_drewN ?_ _) | (with_reducible refine Kd.C_drew ?_))); (case side2 => exact HC0_1.out); rintro e w' ⟨rfl, ⟨nd, rfl⟩⟩; (try first | exact ⟨rfl, _, World.drewN_drewN _ _ _⟩ | exact ⟨rfl, _, Eq.trans (World.drewN_drewN _ _ _) (congrArg (World.drewN _) (Nat.add_assoc _ _ _))⟩))))
  go_ret
  exact ⟨by first | rfl | (simp [errW_none, errW_some] <;> rfl) | (simp [*, errW_none, errW_some] <;> rfl), by repeat (first | (with_reducible first | exact HB.out | apply below_alloc | apply pw_below_drewN | apply below_drew1 | refine below_set ?_ GE313.out) | exact HB.out)⟩

end Go.Proofs.Ytjncmiclpaodhaa.PHo
/-
  A map of two truths to two records: filled in any order, looked up.
-/
namespace Go.Proofs.Ytjncmiclpaodhaa
open Go.RowKit Go.Proofs.YtjncmiclpaodhaaW.PrintWords Go.Proofs.YtjncmiclpaodhaaW.PrintLast
set_option linter.unusedVariables false
set_option linter.unusedSimpArgs false
/-- A key. -/
def K2 (a b : Bool) : Value := .agg #[.bool a, .bool b]
def keyB (a b : Bool) : Value → Bool
  | .agg cs => match cs.toList with
    | [.bool c, .bool d] => a == c && b == d
    | _ => false
  | _ => false
def fnd (a b : Bool) : List MapEntry → Nat → Option (Nat × Value)
  | [], _ => none
  | e :: l, i => if keyB a b e.key = true then some (i, e.val) else fnd a b l (i + 1)
def Keys (l : List MapEntry) : Prop := ∀ e ∈ l, ∃ c d, e.key = K2 c d
def val (a b : Bool) (l : List MapEntry) : Option Value := (fnd a b l 0).map (·.2)
theorem fnd_app (a b : Bool) (e : MapEntry) : ∀ (l : List MapEntry) (i : Nat), (fnd a b (l ++ [e]) i).map (·.2) = ((fnd a b l i).map (·.2)).or (if keyB a b e.key = true then some e.val else none)
  | [], i => by
    simp only [List.nil_append, fnd]
    split <;> simp
  | x :: l, i => by
    simp only [List.cons_append, fnd]
    split
    · simp
    · exact fnd_app a b e l (i + 1)
theorem val_push (a b c d : Bool) (es : Array MapEntry) (v : Value) (n : Nat) : val a b (es.push ⟨K2 c d, v, n⟩).toList = (val a b es.toList).or (if a = c ∧ b = d then some v else none) := by
  unfold val
  rw [Array.toList_push, fnd_app]
  congr 1
  cases a <;> cases b <;> cases c <;> cases d <;> rfl
theorem keys_push {es : Array MapEntry} (h : Keys es.toList) (c d : Bool) (v : Value) (n : Nat) : Keys (es.push ⟨K2 c d, v, n⟩).toList := by
  intro e he
  rw [Array.toList_push, List.mem_append] at he
  rcases he with he | he
  · exact h e he
  · rw [List.mem_singleton] at he
    subst he
    exact ⟨c, d, rfl⟩
theorem ud65 : Try.prog.underlying 65 = some (.array 2 4) := by kernel_rfl
theorem ud68 : Try.prog.underlying 68 = some (.map 65 67) := by kernel_rfl
theorem eq2 (a b c d : Bool) (w : World) : (Op.equal 65 (K2 a b) (K2 c d)).run Try.prog w = .ok (a == c && b == d) w := by
  cases a <;> cases b <;> cases c <;> cases d <;> kernel_rfl
theorem chk2 (a b e : Bool) (w : World) : (Instr.checkKey e 10000 65 (K2 a b)).run Try.prog w = .ok () w := by
  cases a <;> cases b <;> cases e <;> kernel_rfl
theorem run_asking (a b : Bool) (w : World) : ∀ (l : List MapEntry) (i : Nat), Keys l → (Instr.findAsking 65 (K2 a b) l i).run Try.prog w = .ok (fnd a b l i) w
  | [], i, _ => rfl
  | e :: l, i, h => by
    obtain ⟨c, d, hk⟩ := h e List.mem_cons_self
    have ih := run_asking a b w l (i + 1) (fun x hx => h x (List.mem_cons_of_mem _ hx))
    have hb : keyB a b e.key = (a == c && b == d) := by rw [hk]; rfl
    unfold Instr.findAsking fnd
    rw [hb, hk]
    simp only [Sem.run_bind, eq2, Result.andThen]
    cases (a == c && b == d)
    · simpa using ih
    · rfl
theorem run_find2 (a b : Bool) (w : World) (l : List MapEntry) (h : Keys l) : (Instr.findKey 65 (K2 a b) l).run Try.prog w = .ok (fnd a b l 0) w := by
  cases l with
  | nil => simp [Instr.findKey, run_underlying ud65, Result.andThen, Instr.findNow, fnd]
  | cons e l =>
    have h1 : Instr.findNow (.array 2 4) (K2 a b) (e :: l) 0 = none := rfl
    simp only [Instr.findKey, Sem.run_bind, run_underlying ud65, Result.andThen, h1]
    exact run_asking a b w (e :: l) 0 h
section
variable {w : World} {g clock : Nat} {es : Array MapEntry} {v : Value}
theorem run_ins2 (hb : w.heap[g]? = some (.map es clock)) (a b : Bool) (hk : Keys es.toList) (h : val a b es.toList = none) :
    (Instr.mapUpdate 68 (.map (some g)) (K2 a b) v).run Try.prog w = .ok () { w with heap := w.heap.setIfInBounds g (.map (es.push ⟨K2 a b, v, clock⟩) (clock + 1)) } := by
  have hf : fnd a b es.toList 0 = none := by
    unfold val at h
    cases hx : fnd a b es.toList 0 with
    | none => rfl
    | some r => rw [hx] at h; cases h
  simp [Instr.mapUpdate, run_underlying ud68, MapKept.run_getObj_map hb, chk2, run_find2 a b _ _ hk, hf, MapKept.run_setObj_map _ hb, Result.andThen]
theorem run_look2 (hb : w.heap[g]? = some (.map es clock)) (a b : Bool) (hk : Keys es.toList) (h : val a b es.toList = some v) :
    (Instr.lookup 68 (.map (some g)) (K2 a b) false).run Try.prog w = .ok v w := by
  unfold val at h
  cases hx : fnd a b es.toList 0 with
  | none => rw [hx] at h; cases h
  | some r =>
    rw [hx] at h
    obtain ⟨i, x⟩ := r
    obtain rfl : x = v := Option.some.inj h
    simp [Instr.lookup, run_underlying ud68, MapKept.run_getObj_map hb, chk2, run_find2 a b _ _ hk, hx, Result.andThen]
end
end Go.Proofs.Ytjncmiclpaodhaa
