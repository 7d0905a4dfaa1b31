/-
  Sets: the example, and how many.
-/
import Derived.Test.YtkhljamellgcfaaSetM
namespace Go.Proofs.Ytkhljamellgcfaa
open Go.RowKit Go.Proofs.YtkhljamellgcfaaW.PrintWords Go.Proofs.Ytkhljamellgcfaa.PSet

def uni (a b : List Int) : List Int := selOf (fun x y => x || y) (bothOf a b)
def int (a b : List Int) : List Int := selOf (fun x y => x && y) (bothOf a b)
def mns (a b : List Int) : List Int := selOf (fun x y => x && !y) (bothOf a b)
theorem uni_some {a b : List Int} (h : a.length ≤ 1000000000) (h' : b.length ≤ 1000000000) : set_Union.f a b = some (uni a b) := by rw [set_Union.f, if_pos ⟨h, h'⟩]; rfl
theorem int_some {a b : List Int} (h : a.length ≤ 1000000000) (h' : b.length ≤ 1000000000) : set_Inter.f a b = some (int a b) := by rw [set_Inter.f, if_pos ⟨h, h'⟩]; rfl
theorem mns_some {a b : List Int} (h : a.length ≤ 1000000000) (h' : b.length ≤ 1000000000) : set_Minus.f a b = some (mns a b) := by rw [set_Minus.f, if_pos ⟨h, h'⟩]; rfl
theorem sel_len2 (p : Bool → Bool → Bool) (a b : List Int) : (selOf p (bothOf a b)).length ≤ a.length + b.length := Nat.le_trans (selOf_len _ _) (bothOf_len _ _)
theorem uni_len (a b : List Int) : (uni a b).length ≤ a.length + b.length := sel_len2 _ _ _
theorem int_len (a b : List Int) : (int a b).length ≤ a.length + b.length := sel_len2 _ _ _
theorem mns_len (a b : List Int) : (mns a b).length ≤ a.length + b.length := sel_len2 _ _ _
theorem uni_rise {a b : List Int} (ha : Rise a) (hb : Rise b) : Rise (uni a b) := sel_rise ha hb
theorem int_rise {a b : List Int} (ha : Rise a) (hb : Rise b) : Rise (int a b) := sel_rise ha hb
theorem mns_rise {a b : List Int} (ha : Rise a) (hb : Rise b) : Rise (mns a b) := sel_rise ha hb
theorem uni_mem {a b : List Int} (ha : Rise a) (hb : Rise b) (x : Int) : x ∈ uni a b ↔ x ∈ a ∨ x ∈ b := by
  unfold uni; rw [sel_mem ha hb]; simp
theorem int_mem {a b : List Int} (ha : Rise a) (hb : Rise b) (x : Int) : x ∈ int a b ↔ x ∈ a ∧ x ∈ b := by
  unfold int; rw [sel_mem ha hb]; simp only [Bool.and_eq_true, decide_eq_true_eq]
  exact ⟨fun h => h.2, fun h => ⟨.inl h.1, h⟩⟩
theorem mns_mem {a b : List Int} (ha : Rise a) (hb : Rise b) (x : Int) : x ∈ mns a b ↔ x ∈ a ∧ x ∉ b := by
  unfold mns; rw [sel_mem ha hb]; simp only [Bool.and_eq_true, decide_eq_true_eq, Bool.not_eq_true', decide_eq_false_iff_not]
  exact ⟨fun h => h.2, fun h => ⟨.inl h.1, h⟩⟩

theorem parts_len {a b : List Int} (ha : Rise a) (hb : Rise b) : (int a b).length + (mns a b).length + (mns b a).length = (uni a b).length := by
  have e : mns b a = selOf (fun x y => y && !x) (bothOf a b) := by
    refine rise_ext (mns_rise hb ha) (sel_rise ha hb) fun x => ?_
    rw [mns_mem hb ha, sel_mem ha hb]
    simp only [Bool.and_eq_true, decide_eq_true_eq, Bool.not_eq_true', decide_eq_false_iff_not]
    exact ⟨fun h => ⟨.inr h.1, h⟩, fun h => h.2⟩
  have hw : ∀ t ∈ bothOf a b, (t.2.1 || t.2.2) = true := by
    intro t ht
    obtain ⟨e1, e2, e3⟩ := both_spec a b ha hb t ht
    rw [e1, e2]
    simpa using e3
  rw [e]
  unfold uni int mns selOf
  simp only [List.length_map]
  generalize bothOf a b = l at hw
  clear e ha hb
  induction l with
  | nil => rfl
  | cons t l ih =>
    have h1 := ih (fun u hu => hw u (List.mem_cons_of_mem _ hu))
    have h2 := hw t List.mem_cons_self
    obtain ⟨x, p, q⟩ := t
    simp only at h2
    cases p <;> cases q <;> simp at h2 ⊢ <;> (try simp at h1) <;> omega

theorem shown_some (k : Nat) : stolonlaw06_shown.f (k + 10) = some true := by
  have hf : set_Filter.f (k + 10) [(⟨true, (([1, 2] : List Int))⟩ : S29), (⟨false, (([2] : List Int))⟩ : S29)] = some (true, [1]) := by
    unfold set_Filter.f
    have w0 : wrap64 (0 + 1) = 1 := by unfold wrap64; omega
    have w1 : wrap64 (1 + 1) = 2 := by unfold wrap64; omega
    rw [set_Filter.l0]
    rw [if_pos (by decide), if_pos (by decide), if_pos (by decide), w0]
    rw [show (rd_T29 [(⟨true, (([1, 2] : List Int))⟩ : S29), (⟨false, (([2] : List Int))⟩ : S29)] 0) = ⟨true, [1, 2]⟩ from rfl]
    rw [if_pos rfl, if_neg (by decide)]
    rw [set_Filter.l0]
    rw [if_pos (by decide), if_pos (by decide), if_pos (by decide), w1]
    rw [show (rd_T29 [(⟨true, (([1, 2] : List Int))⟩ : S29), (⟨false, (([2] : List Int))⟩ : S29)] 1) = ⟨false, [2]⟩ from rfl]
    rw [if_neg (by decide), uni_some (by decide) (by decide)]
    simp only [Option.bind_some]
    rw [set_Filter.l0]
    rw [if_neg (by decide), if_pos rfl]
    rw [show uni [] [2] = [2] from by simp [uni, bothOf, selOf], mns_some (by decide) (by decide), show mns [1, 2] [2] = [1] from by simp [mns, bothOf, selOf]]
    rfl
  unfold stolonlaw06_shown.f
  rw [hf]
  simp only [Option.bind_some]
  rw [mns_some (by decide) (by decide), show mns [1, 2, 3] [2, 4] = [1, 3] from by simp [mns, bothOf, selOf]]
  simp only [Option.bind_some]
  rw [same_some _ _ (by decide) _ (by simp)]
  simp only [Option.bind_some]
  have h1 : Rise [1] := by simp [Rise]
  simp [rd_eq, set_Wants.f, has_some [1] (by decide) _ h1 (k + 10) (by simp)]
theorem shown_big (k : Nat) (hk : 10 ≤ k) : stolonlaw06_shown.f k = some true := by
  obtain ⟨k', rfl⟩ : ∃ k', k = k' + 10 := ⟨k - 10, by omega⟩
  exact shown_some k'
end Go.Proofs.Ytkhljamellgcfaa
