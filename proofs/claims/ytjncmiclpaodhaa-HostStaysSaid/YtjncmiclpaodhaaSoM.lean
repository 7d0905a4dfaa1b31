/-
  Package set: Make.
-/
import Derived.Test.YtjncmiclpaodhaaReg
import Derived.Test.YtjncmiclpaodhaaMkP
namespace Go.Proofs.Ytjncmiclpaodhaa
open Go.RowKit Go.Sort Go.Lib Go.Proofs.YtjncmiclpaodhaaW.PrintWords
set_option linter.unusedVariables false
set_option linter.unusedSimpArgs false
theorem ins_nil (w : World) : Calls Try.prog 86 #[.slice none 0 0, .int .i64 0, .int .i64 0] w fun e w' => e = .returned (.tuple #[]) ∧ w' = w := by
  go_enter Try.func86, Try.ntmps86
  go_wp2
  go_loopw [6] (fun vi wr => vi = .int .i64 1 ∧ wr = w) (fun _ _ => 0)
  case atStart => exact ⟨rfl, rfl⟩
  case round =>
    obtain ⟨rfl, rfl⟩ := hrel
    go_wp2
    go_end0
    exact ⟨rfl, rfl⟩
set_option maxRecDepth 100000 in
set_option maxHeartbeats 4000000 in
theorem pdq_nil (l : Int) (w : World) : Calls Try.prog 82 #[.slice none 0 0, .int .i64 0, .int .i64 0, .int .i64 l] w fun e w' => e = .returned (.tuple #[]) ∧ w' = w := by
  go_enter Try.func82, Try.ntmps82
  go_wp2
  go_loopg [1, 2] 1 (fun _ v1 v2 wr => v1 = .int .i64 0 ∧ v2 = .int .i64 0 ∧ wr = w)
  case atStart => exact ⟨rfl, rfl, rfl⟩
  case round =>
    obtain ⟨rfl, rfl, rfl⟩ := hrel
    go_wp2_with (go_at_call 86; refine (ins_nil _).mono ?_; rintro e w' ⟨rfl, rfl⟩)
    exact bodyPost_ret (results_none rfl _ _ _) rfl ⟨rfl, rfl⟩
theorem sort_nil (w : World) : Calls Try.prog 75 #[.slice none 0 0] w fun e w' => e = .returned (.tuple #[]) ∧ w' = w := by
  go_enter Try.func75, Try.ntmps75
  go_wp2_with (first | (go_at_call 83; refine (len_w 0 (by decide) _).mono ?_; rintro e w' ⟨L, rfl, hL, rfl⟩; clear hL) | (go_at_call 82; refine (pdq_nil _ _).mono ?_; rintro e w' ⟨rfl, rfl⟩))
  go_end0
  exact ⟨rfl, rfl⟩
theorem sort_w {g m n cap : Nat} {d : Array Int} {w : World} (h : Lies w w g m d) (hn : d.size = n) (hsz : n < 65536) :
    Calls Try.prog 75 #[.slice (some ⟨g, 0, none⟩) n cap] w (Sorted_ 0 n g m d w) := by
  have HL := Lib.hid h
  have HN := Lib.hid hn
  have HZ := Lib.hid hsz
  have hw : IntKind.u64.wrap (n : Int) = (n : Int) := by rw [IntKind.wrap_u64]; omega
  clear h hn hsz
  go_enter Try.func75, Try.ntmps75
  go_wp2_with (first | (go_at_call 83; refine (len_w n HZ.out _).mono ?_; rintro e w' ⟨L, rfl, hL, rfl⟩; clear hL) | (go_at_call 82; refine (pdq_w HZ.out (n + 1) 0 n _ d _ (by omega) (Nat.zero_le _) (Nat.le_refl _) HN.out HL.out (.inl rfl)).mono ?_; rintro r w' ⟨rfl, hR⟩; have HR := Lib.hid hR; clear hR))
  go_end0
  exact ⟨rfl, HR.out⟩
theorem collect_w (Bs : Nat) (A : Option Addr) (c : Nat) (ls : List Int) (hl : ls.length < 65536) (w : World) (h1 : Boxed w Bs 24 (.slice A ls.length c)) (hr : ReadsInt w .u32 A ls.length ls) :
    Calls Try.prog 74 #[.func (.func 76) #[] #[.pointer (some ⟨Bs, 0, none⟩)]] w fun e w' => ∃ v, e = .returned v ∧ w'.ownsRow w.heap.size 23 1 v ls.length (nums .u32 ls) ∧ Below w.heap.size w w' := by
  have H1 := Lib.hid h1
  have HR := Lib.hid hr
  have HZ := Lib.hid hl
  clear h1 hr hl
  go_enter Try.func74, Try.ntmps74
  go_wp2_with (go_at_call 81; refine (appseq_w Bs A c ls (by have := HZ.out; omega) _ H1.out HR.out).mono ?_; rintro e w' ⟨v, rfl, hv⟩; have HV := Lib.hid hv; clear hv)
  go_ret
  exact ⟨v, rfl, HV.out⟩
theorem lies_of_own {w : World} {b g cap n : Nat} {cur : Array Value} {ls : List Int} (hg : w.heap[g]? = some (.cells cur 23 (0, 0))) (hs : cur.size = cap) (hn : ls.length = n) (hc : n ≤ cap) (ht : cur.toList.take n = nums .u32 ls) : Lies w w g cap ls.toArray := by
  subst hn
  refine ⟨Off.refl _ _, by simpa using hc, cur, hg, hs, fun i hi => ?_⟩
  have hi' : i < ls.length := by simpa using hi
  have h1 : (cur.toList.take ls.length)[i]? = (nums .u32 ls)[i]? := by rw [ht]
  rw [List.getElem?_take, if_pos hi', Array.getElem?_toList] at h1
  rw [h1, getElem!_pos ls.toArray i hi]
  simp [nums, hi']
theorem own_of_front {w0 w : World} {b g cap n : Nat} {L : List Int} (h : Front w0 w g cap n L) (hg : b ≤ g) (hc : n ≤ cap) (hm : cap ≤ maxLen) : w.ownsRow b 23 1 (.slice (some ⟨g, 0, none⟩) L.length cap) L.length (nums .u32 L) := by
  obtain ⟨d', hl, hs, hn, hf⟩ := h.lies
  obtain ⟨cur, hb, hz, hcell⟩ := hl.row
  refine ⟨by simp [nums], .inr ⟨g, cap, cur, rfl, hg, hb, by omega, hm, by rw [hz]; omega, ?_⟩⟩
  apply List.ext_getElem?
  intro i
  rw [List.getElem?_take]
  by_cases hi : i < L.length
  · rw [if_pos (by omega), Array.getElem?_toList, hcell i (by omega)]
    have := hf i hi
    simp [nums, this]
  · rw [if_neg (by omega)]
    exact (List.getElem?_eq_none (by simp [nums]; omega)).symm
theorem nil_own {w : World} {b n : Nat} {v : Value} {ls : List Int} (h : w.ownsRow b 23 1 v n (nums .u32 ls)) (hn : ls.length = n) :
    (v = .slice none 0 0 ∧ ls = []) ∨ ∃ g cap, v = .slice (some ⟨g, 0, none⟩) n cap ∧ b ≤ g ∧ n ≤ cap ∧ cap ≤ maxLen ∧ Lies w w g cap ls.toArray := by
  obtain ⟨_, h | ⟨g, cap, cur, rfl, hg, hb, hc, hm, hz, ht⟩⟩ := h
  · exact .inl ⟨h.1, List.eq_nil_of_length_eq_zero (by omega)⟩
  · exact .inr ⟨g, cap, rfl, hg, hc, hm, lies_of_own (b := b) hb (by omega) hn hc (by simpa using ht)⟩
def MadeRow (ls : List Int) (w : World) (e : Ending) (w' : World) : Prop :=
  Below w.heap.size w w' ∧ ((e = .returned (.slice none 0 0) ∧ ls = []) ∨ ∃ g cap R, e = .returned (.slice (some ⟨g, 0, none⟩) ls.length cap) ∧ w.heap.size ≤ g ∧ ls.length ≤ cap ∧ cap ≤ maxLen ∧ (PermIn 0 ls.length ls.toArray R ∧ SortedIn ltA 0 ls.length R) ∧ Lies w' w' g cap R)
theorem below_lies {w w1 w2 : World} {g m : Nat} {d : Array Int} (h : Below w.heap.size w w1) (k : Lies w1 w2 g m d) (hg : w.heap.size ≤ g) : Below w.heap.size w w2 :=
  ((Off.of_below h).trans (k.off.mono (fun i _ e => by omega))).below (Nat.le_refl _)
theorem sorted_w (Bs : Nat) (A : Option Addr) (c : Nat) (ls : List Int) (hl : ls.length < 65536) (w : World) (h1 : Boxed w Bs 24 (.slice A ls.length c)) (hr : ReadsInt w .u32 A ls.length ls) :
    Calls Try.prog 61 #[.func (.func 76) #[] #[.pointer (some ⟨Bs, 0, none⟩)]] w (MadeRow ls w) := by
  have H1 := Lib.hid h1
  have HR := Lib.hid hr
  have HZ := Lib.hid hl
  clear h1 hr hl
  go_enter Try.func61, Try.ntmps61
  go_upto_region 2 with (go_at_call 74; refine (collect_w Bs A c ls HZ.out _ H1.out HR.out).mono ?_; rintro e w' ⟨v, rfl, hv⟩; have HV := Lib.hid hv; clear hv)
  have hvv := nil_own HV.out.1 rfl
  rcases hvv with ⟨rfl, he⟩ | ⟨g, cap, rfl, hg, hc, hm, hl⟩
  · have HE := Lib.hid he
    clear he
    go_wp2_with (go_at_call 75; refine (sort_nil _).mono ?_; rintro e w' ⟨rfl, rfl⟩)
    go_ret
    exact ⟨HV.out.2, .inl ⟨rfl, HE.out⟩⟩
  · have HLL := Lib.hid hl
    have HG := Lib.hid (show w.heap.size ≤ g ∧ ls.length ≤ cap ∧ cap ≤ maxLen from ⟨hg, hc, hm⟩)
    clear hl hg hc hm
    go_wp2_with (go_at_call 75; refine (sort_w HLL.out (by simp) HZ.out).mono ?_; rintro r w' ⟨rfl, hR⟩; have HRR := Lib.hid hR; clear hR)
    go_ret
    obtain ⟨R, hs, hl⟩ := HRR.out
    exact ⟨below_lies HV.out.2 hl HG.out.1, .inr ⟨g, cap, R, rfl, HG.out.1, HG.out.2.1, HG.out.2.2, hs, hl.here⟩⟩
theorem compact_nil (w : World) : Calls Try.prog 60 #[.slice none 0 0] w fun e w' => e = .returned (.slice none 0 0) ∧ w' = w := by
  go_enter Try.func60, Try.ntmps60
  go_wp2
  go_ret
  exact ⟨rfl, rfl⟩
theorem below_made {w w2 : World} {o : Obj} (h : Below (w.alloc o).heap.size (w.alloc o) w2) : Below w.heap.size w w2 :=
  ((off_alloc w o).mono (ψ := fun k => w.heap.size ≤ k) (fun _ _ h => h.elim) |>.then_ (Off.of_below h) (fun i hi h' => by simp at h'; omega)).below (Nat.le_refl _)
theorem make_w (A : Option Addr) (c : Nat) (ls : List Int) (hl : ls.length < 65536) (w : World) (hr : ReadsInt w .u32 A ls.length ls) :
    Calls Try.prog 42 #[.slice A ls.length c] w fun e w' => ∃ v, e = .returned v ∧ w'.ownsRow w.heap.size 23 1 v (mk ls).length (nums .u32 (mk ls)) ∧ Below w.heap.size w w' := by
  have HR := Lib.hid hr
  have HZ := Lib.hid hl
  clear hr hl
  go_enter Try.func42, Try.ntmps42
  go_wp2_with (first | (go_at_call 62; refine (values_w _ _ _ _).mono ?_; rintro e w' ⟨rfl, rfl⟩) | (go_at_call 61; refine (sorted_w w.heap.size A c ls HZ.out _ (Boxed.new w _ _) (readsInt_of_block HR.out (fun ad e hp => Below.heap_alloc _ _ _ (by obtain ⟨ad', e', hc⟩ := HR.out.2.2 hp; rw [e] at e'; cases e'; have := World.block_lt_of_cell? w _ (hc 0 hp); unfold Addr.add at this; simpa using this)))).mono ?_; rintro e w2 ⟨hB, ⟨rfl, he⟩ | ⟨g, cap, R, rfl, hg, hc, hm, hs, hl⟩⟩))
  · have HE := Lib.hid he
    have HB := Lib.hid hB
    clear he hB
    refine (compact_nil _).mono ?_
    rintro e w' ⟨rfl, rfl⟩
    go_wp2
    go_ret
    refine ⟨_, rfl, by rw [HE.out]; exact own_nil _ _ _ _, ?_⟩
    exact below_made HB.out
  · have HB := Lib.hid hB
    have HL := Lib.hid hl
    have HS := Lib.hid hs
    have HG := Lib.hid (show w.heap.size ≤ g ∧ ls.length ≤ cap ∧ cap ≤ maxLen from ⟨by simp at hg; omega, hc, hm⟩)
    have HC := Lib.hid (show R.size = ls.length from by rw [hs.1.1]; simp)
    clear hB hl hs hg hc hm
    refine (compact_w HL.out HC.out HZ.out HG.out.2.1).mono ?_
    rintro e w' ⟨rfl, hf⟩
    rw [cup_mk rfl HS.out.1 HS.out.2] at hf ⊢
    have HF := Lib.hid hf
    clear hf
    go_wp2
    go_ret
    refine ⟨_, rfl, own_of_front HF.out HG.out.1 HG.out.2.1 HG.out.2.2, ?_⟩
    obtain ⟨d', h1, _⟩ := HF.out.lies
    exact below_lies (below_made HB.out) h1 HG.out.1

def set_Make.f (l0 : List Int) : Option (List Int) := if l0.length < 65536 then some (mk l0) else none
theorem set_Make.calls (A0 : Option Addr) (c0 : Nat) (l0 : List Int) (r : List Int) (w : World) (hr0 : Kd.C (Kd.int .u32) w A0 l0.length l0) (hc0 : l0.length ≤ c0) (h : set_Make.f l0 = some r) :
    Calls Try.prog 42 #[.slice A0 l0.length c0] w fun e w' => ∃ v0_ : Value, e = .returned (v0_) ∧ Kd.R (Kd.int .u32) 23 w' w.heap.size (fun _ => True) v0_ r ∧ Below w.heap.size w w' := by
  unfold set_Make.f at h
  split at h
  next hl =>
    cases h
    refine (make_w A0 c0 l0 hl w (rdu hr0)).mono ?_
    rintro e w' ⟨v, rfl, hrow, hB⟩
    exact ⟨v, rfl, Kd.R_of_own hrow (fun _ _ => trivial), hB⟩
  next => cases h
end Go.Proofs.Ytjncmiclpaodhaa
