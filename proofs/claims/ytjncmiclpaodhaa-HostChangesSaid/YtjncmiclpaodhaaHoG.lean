/-
  A right host, and a socket put or dropped, in plain words.
-/
import Derived.Test.YtjncmiclpaodhaaHoR
import Derived.Test.YtjncmiclpaodhaaPHox2
import Derived.Test.YtjncmiclpaodhaaHoU
import Derived.Test.YtjncmiclpaodhaaSoI
import Derived.Test.YtjncmiclpaodhaaPHpd
import Derived.Test.YtjncmiclpaodhaaPHox10
import Derived.Test.YtjncmiclpaodhaaHoC
import Derived.Test.YtjncmiclpaodhaaHoS
import Derived.Test.YtjncmiclpaodhaaPHoy1
namespace Go.Proofs.Ytjncmiclpaodhaa
open Go.RowKit Go.Proofs.YtjncmiclpaodhaaW.PrintWords Go.Proofs.Ytjncmiclpaodhaa.PHo
set_option linter.unusedVariables false
set_option linter.unusedSimpArgs false
def askB (a : Int) : Bool := decide (3758096640 ≤ a) && decide (a ≤ 4026531839)
theorem isAsked_some (a : Int) : addr_IsAsked.f a = some (askB a) := by
  unfold addr_IsAsked.f addr_IsGroup.f addr_IsLocal.f askB
  simp only [Option.bind_some]
  by_cases h : a / 268435456 = 14
  · rw [if_pos (beq_iff_eq.2 h)]
    congr 1
    by_cases h2 : a / 256 = 14680064
    · rw [beq_iff_eq.2 h2, decide_eq_false (by omega)]; rfl
    · rw [beq_eq_false_iff_ne.2 h2, decide_eq_true (by omega), decide_eq_true (by omega)]; rfl
  · rw [if_neg (fun e => h (beq_iff_eq.1 e))]
    congr 1
    by_cases h3 : 3758096640 ≤ a
    · rw [decide_eq_false (show ¬ a ≤ 4026531839 by omega), Bool.and_false]
    · rw [decide_eq_false h3]; rfl
theorem rasked_some (a : Int) : stolonref01_Asked.f a = some (askB a) := by
  unfold stolonref01_Asked.f askB
  by_cases h : a ≥ 3758096640
  · rw [if_pos h, decide_eq_true h]; rfl
  · rw [if_neg h, decide_eq_false h]; rfl
def riseFrom (l : List Int) (j : Nat) : Prop := ∀ i, j ≤ i → 0 < i → i < l.length → l.getD (i - 1) 0 < l.getD i 0
theorem riseFrom_rise (l : List Int) : riseFrom l 0 ↔ Rise l := by
  rw [← rise_iff]
  exact ⟨fun h i hi hl => h i (Nat.zero_le _) (by omega) hl, fun h i _ hi hl => h i (by omega) hl⟩
open Classical in
theorem isright_loop (l : List Int) (hm : l.length ≤ 1000000) : ∀ n k (j : Nat), l.length = j + n → n < k →
    set_Right.l0 k l (l.length : Int) (j : Int) = some (decide (riseFrom l j)) := by
  intro n
  induction n with
  | zero =>
    intro k j h2 hk
    obtain ⟨k, rfl⟩ : ∃ k', k = k' + 1 := ⟨k - 1, by omega⟩
    rw [set_Right.l0, if_neg (by omega)]
    congr 1
    exact (decide_eq_true (fun i h1 _ h3 => by omega)).symm
  | succ n ih =>
    intro k j h2 hk
    obtain ⟨k, rfl⟩ : ∃ k', k = k' + 1 := ⟨k - 1, by omega⟩
    have hj : j < l.length := by omega
    rw [set_Right.l0, if_pos (by omega), show wrap64 ((j : Int) + 1) = ((j + 1 : Nat) : Int) from by rw [w64 (by omega) (by omega)]; omega]
    by_cases h0 : 0 < j
    · have e1 : wrap64 ((j : Int) - 1) = ((j - 1 : Nat) : Int) := by rw [w64 (by omega) (by omega)]; omega
      rw [if_pos (by omega), e1, if_pos (by omega), if_pos (by omega), if_pos (by omega), if_pos (by omega), rd_eq, rd_eq, Int.toNat_natCast, Int.toNat_natCast]
      by_cases hx : l.getD (j - 1) 0 ≥ l.getD j 0
      · rw [if_pos hx]
        congr 1
        exact (decide_eq_false (fun h => by have := h j (Nat.le_refl _) h0 hj; omega)).symm
      · rw [if_neg hx, ih k (j + 1) (by omega) (by omega)]
        congr 1
        rw [decide_eq_decide]
        refine ⟨fun h i h1 h3 h4 => ?_, fun h i h1 h3 h4 => h i (by omega) h3 h4⟩
        by_cases e : i = j
        · subst e; omega
        · exact h i (by omega) h3 h4
    · rw [if_neg (by omega), ih k (j + 1) (by omega) (by omega)]
      congr 1
      rw [decide_eq_decide]
      refine ⟨fun h i h1 h3 h4 => h i (by omega) h3 h4, fun h i h1 h3 h4 => h i (by omega) h3 h4⟩
theorem isright_some (l : List Int) (hm : l.length ≤ 1000000) (k : Nat) (hk : l.length < k) : set_Right.f k l = some (decide (Rise l)) := by
  unfold set_Right.f
  have := isright_loop l hm l.length k 0 (by omega) hk
  rw [show ((0 : Nat) : Int) = 0 from rfl] at this
  rw [this]
  congr 1
  rw [decide_eq_decide]
  exact riseFrom_rise l
/-- A right socket. -/
def rightB (s : S42) : Bool := decide (0 < s.f0) && askB s.f1 && decide (Rise s.f2.f1) && decide (s.f2.f1.length ≤ 16)
theorem hright_some (s : S42) (hm : s.f2.f1.length ≤ 1000000) (k : Nat) (hk : s.f2.f1.length < k) : host_right.f k s.f0 s.f1 s.f2.f0 s.f2.f1 = some (rightB s) := by
  unfold host_right.f rightB
  rw [isAsked_some, isright_some _ hm k hk]
  by_cases h0 : s.f0 > 0
  · rw [if_pos h0, decide_eq_true h0, Option.bind_some]
    cases askB s.f1
    · rfl
    · rw [if_pos rfl, Option.bind_some]
      cases h : decide (Rise s.f2.f1)
      · rfl
      · rw [if_pos rfl]
        congr 1
        by_cases h2 : s.f2.f1.length ≤ 16
        · rw [decide_eq_true h2, decide_eq_true (by omega)]; rfl
        · rw [decide_eq_false h2, decide_eq_false (by omega)]; rfl
  · rw [if_neg h0, decide_eq_false h0]; rfl
theorem rsocket_some (s : S42) (k : Nat) (hk : 20 ≤ k) : stolonref07_socket.f k s.f0 s.f1 s.f2.f0 s.f2.f1 = some (rightB s) := by
  unfold stolonref07_socket.f rightB
  rw [rasked_some, Option.bind_some]
  by_cases h0 : s.f0 ≥ 1
  · rw [if_pos h0, decide_eq_true (show 0 < s.f0 by omega)]
    cases askB s.f1
    · rfl
    · rw [if_pos rfl]
      by_cases h2 : s.f2.f1.length ≤ 16
      · rw [if_pos (by omega), right_some s.f2.f1 (by omega) k (by omega), decide_eq_true h2]
        simp
      · rw [if_neg (by omega), decide_eq_false h2, Bool.and_false]
  · rw [if_neg h0, decide_eq_false (show ¬ 0 < s.f0 by omega)]; rfl
theorem rightB_FOk {s : S42} (h : rightB s = true) : FOk s := by
  unfold rightB at h
  simp only [Bool.and_eq_true, decide_eq_true_eq] at h
  exact ⟨h.1.2, h.2⟩
def Sorted (l : List S42) : Prop := l.Pairwise (fun a b => a.f0 < b.f0)
/-- A right host. -/
def HOk (l : List S42) : Prop := l.length ≤ 32 ∧ Sorted l ∧ ∀ s ∈ l, rightB s = true
def okFrom (l : List S42) (j : Nat) : Prop := ∀ i, j ≤ i → (h : i < l.length) → rightB l[i] = true ∧ (0 < i → (l[i - 1]'(by omega)).f0 < l[i].f0)
theorem okFrom_all (l : List S42) : okFrom l 0 ↔ Sorted l ∧ ∀ s ∈ l, rightB s = true := by
  constructor
  · intro h
    have key : ∀ d i, (h : i + d + 1 < l.length) → (l[i]'(by omega)).f0 < (l[i + d + 1]).f0 := by
      intro d
      induction d with
      | zero =>
        intro i hi
        exact (h (i + 1) (by omega) hi).2 (by omega)
      | succ d ih =>
        intro i hi
        have h1 := ih i (by omega)
        have h2 : (l[i + d + 1]'(by omega)).f0 < l[i + d + 1 + 1].f0 := (h (i + d + 1 + 1) (by omega) hi).2 (by omega)
        exact Int.lt_trans h1 h2
    refine ⟨?_, fun s hs => ?_⟩
    · unfold Sorted
      rw [List.pairwise_iff_getElem]
      intro i j hi hj hij
      have h1 := key (j - i - 1) i (by omega)
      have e : i + (j - i - 1) + 1 = j := by omega
      simp only [e] at h1
      exact h1
    · obtain ⟨i, hi, rfl⟩ := List.mem_iff_getElem.1 hs
      exact (h i (by omega) hi).1
  · rintro ⟨h1, h2⟩ i _ hi
    refine ⟨h2 _ (List.getElem_mem hi), fun h0 => ?_⟩
    unfold Sorted at h1
    rw [List.pairwise_iff_getElem] at h1
    exact h1 (i - 1) i (by omega) hi (by omega)
theorem hok_loop (l : List S42) (hm : l.length ≤ 600) : ∀ n k (j : Nat), l.length = j + n → n + 30 < k → ∃ b, stolonref07_Right.l0 k (j : Int) l = some b ∧ (b = true ↔ l.length ≤ 32 ∧ okFrom l j) := by
  intro n
  induction n with
  | zero =>
    intro k j hj hk
    obtain ⟨k, rfl⟩ : ∃ m, k = m + 1 := ⟨k - 1, by omega⟩
    refine ⟨_, by rw [stolonref07_Right.l0, if_neg (by omega)], ?_⟩
    rw [decide_eq_true_eq]
    exact ⟨fun h => ⟨by omega, fun i h1 h2 => by omega⟩, fun h => by omega⟩
  | succ n ih =>
    intro k j hj hk
    obtain ⟨k, rfl⟩ : ∃ m, k = m + 1 := ⟨k - 1, by omega⟩
    have hlt : j < l.length := by omega
    rw [stolonref07_Right.l0, if_pos (by omega), if_pos (by omega), rd42 l j hlt, rsocket_some l[j] k (by omega), Option.bind_some]
    by_cases c1 : rightB l[j] = true
    case neg => rw [if_neg c1]; exact ⟨_, rfl, ⟨(fun h => by cases h), fun h => absurd (h.2 j (Nat.le_refl _) hlt).1 c1⟩⟩
    rw [if_pos c1]
    have e2 : wrap64 ((j : Int) + 1) = ((j + 1 : Nat) : Int) := step64 j (by omega)
    obtain ⟨b3, h3, h4⟩ := ih k (j + 1) (by omega) (by omega)
    have fin : (0 < j → (l[j - 1]'(by omega)).f0 < l[j].f0) → (b3 = true ↔ l.length ≤ 32 ∧ okFrom l j) := fun hp => by
      rw [h4]
      refine ⟨fun h => ⟨h.1, fun i h1 h2 => ?_⟩, fun h => ⟨h.1, fun i h1 h2 => h.2 i (by omega) h2⟩⟩
      by_cases hij : i = j
      · subst hij; exact ⟨c1, hp⟩
      · exact h.2 i (by omega) h2
    by_cases c2 : (j : Int) > 0
    case neg => rw [if_neg c2, e2, h3]; exact ⟨b3, rfl, fin (fun h => by omega)⟩
    have e1 : wrap64 ((j : Int) - 1) = ((j - 1 : Nat) : Int) := by rw [w64 (by omega) (by omega)]; omega
    rw [if_pos c2, e1, if_pos (by omega), if_pos (by omega), rd42 l (j - 1) (by omega)]
    by_cases c3 : l[j].f0 ≤ (l[j - 1]'(by omega)).f0
    · rw [if_pos c3]; exact ⟨_, rfl, ⟨(fun h => by cases h), fun h => by have := (h.2 j (Nat.le_refl _) hlt).2 (by omega); omega⟩⟩
    · rw [if_neg c3, e2, h3]; exact ⟨b3, rfl, fin (fun _ => by omega)⟩
theorem right7_ok (l : List S42) (hm : l.length ≤ 600) (k : Nat) (hk : 1000 ≤ k) : ∃ b, stolonref07_Right.f k l = some b ∧ (b = true ↔ HOk l) := by
  obtain ⟨b, h1, h2⟩ := hok_loop l hm l.length k 0 (by omega) (by omega)
  exact ⟨b, h1, by rw [h2, okFrom_all]; exact Iff.rfl⟩
theorem HOk.fok {l : List S42} (h : HOk l) : ∀ s ∈ l, FOk s := fun s hs => rightB_FOk (h.2.2 s hs)
/-! ### where a socket stands -/
def ltS (l : List S42) (id : Int) : List S42 := l.filter fun x => decide (x.f0 < id)
def gtS (l : List S42) (id : Int) : List S42 := l.filter fun x => decide (id < x.f0)
def hasS (l : List S42) (id : Int) : Bool := l.any fun x => decide (x.f0 = id)
theorem hasS_iff {l : List S42} {id : Int} : hasS l id = true ↔ ∃ x ∈ l, x.f0 = id := by
  unfold hasS
  simp
theorem gt_all {l : List S42} {id : Int} (h : ∀ x ∈ l, id < x.f0) : ltS l id = [] ∧ gtS l id = l := by
  refine ⟨List.filter_eq_nil_iff.2 (fun x hx => ?_), List.filter_eq_self.2 (fun x hx => decide_eq_true (h x hx))⟩
  have := h x hx
  rw [decide_eq_true_eq]; omega
theorem split_at : ∀ {l : List S42}, Sorted l → ∀ {x : S42}, x ∈ l → l = ltS l x.f0 ++ [x] ++ gtS l x.f0
  | [], _, x, hx => by cases hx
  | y :: l, hs, x, hx => by
    have hs1 := (List.pairwise_cons.1 hs).1
    have hs2 : Sorted l := (List.pairwise_cons.1 hs).2
    rcases List.mem_cons.1 hx with rfl | hx
    · have h := gt_all (l := l) (id := x.f0) (fun z hz => hs1 z hz)
      have e1 : ltS (x :: l) x.f0 = [] := by unfold ltS; rw [List.filter_cons_of_neg (by simp)]; exact h.1
      have e2 : gtS (x :: l) x.f0 = l := by unfold gtS; rw [List.filter_cons_of_neg (by simp)]; exact h.2
      rw [e1, e2]; rfl
    · have hyx := hs1 x hx
      have h := split_at hs2 hx
      have e1 : ltS (y :: l) x.f0 = y :: ltS l x.f0 := by unfold ltS; rw [List.filter_cons_of_pos (by simpa using hyx)]
      have e2 : gtS (y :: l) x.f0 = gtS l x.f0 := by unfold gtS; rw [List.filter_cons_of_neg (by simp; omega)]
      rw [e1, e2, List.cons_append, List.cons_append, ← h]
theorem split_no : ∀ {l : List S42}, Sorted l → ∀ {id : Int}, (∀ x ∈ l, x.f0 ≠ id) → l = ltS l id ++ gtS l id
  | [], _, id, _ => rfl
  | y :: l, hs, id, hn => by
    have hs1 := (List.pairwise_cons.1 hs).1
    have hs2 : Sorted l := (List.pairwise_cons.1 hs).2
    have hy := hn y List.mem_cons_self
    have h := split_no hs2 (id := id) (fun x hx => hn x (List.mem_cons_of_mem _ hx))
    by_cases c : y.f0 < id
    · have e1 : ltS (y :: l) id = y :: ltS l id := by unfold ltS; rw [List.filter_cons_of_pos (by simpa using c)]
      have e2 : gtS (y :: l) id = gtS l id := by unfold gtS; rw [List.filter_cons_of_neg (by simp; omega)]
      rw [e1, e2, List.cons_append, ← h]
    · have h2 := gt_all (l := l) (id := id) (fun z hz => by have := hs1 z hz; omega)
      have e1 : ltS (y :: l) id = [] := by unfold ltS; rw [List.filter_cons_of_neg (by simpa using c)]; exact h2.1
      have e2 : gtS (y :: l) id = y :: l := by unfold gtS; rw [List.filter_cons_of_pos (by simp; omega)]; congr 1; exact h2.2
      rw [e1, e2]; rfl
theorem set_mid (A B : List S42) (x s : S42) : (A ++ [x] ++ B).set A.length s = A ++ [s] ++ B := by
  induction A with
  | nil => rfl
  | cons a A ih => simp
theorem get_mid (A B : List S42) (x : S42) : (A ++ [x] ++ B)[A.length]? = some x := by
  induction A with
  | nil => rfl
  | cons a A ih => simp
theorem take_len (A B : List S42) : (A ++ B).take A.length = A := List.take_left' rfl
theorem drop_len (A B : List S42) : (A ++ B).drop A.length = B := List.drop_left' rfl
def posS (l : List S42) (id : Int) : Nat := (ltS l id).length
/-- A socket put: those ahead, it, and those behind. -/
def insS (l : List S42) (s : S42) : List S42 := ltS l s.f0 ++ [s] ++ gtS l s.f0
theorem mem_ins {l : List S42} {s x : S42} : x ∈ insS l s ↔ x = s ∨ (x ∈ l ∧ x.f0 ≠ s.f0) := by
  unfold insS ltS gtS
  simp only [List.mem_append, List.mem_filter, List.mem_singleton, decide_eq_true_eq]
  constructor
  · rintro ((⟨h1, h2⟩ | h) | ⟨h1, h2⟩)
    · exact .inr ⟨h1, by omega⟩
    · exact .inl h
    · exact .inr ⟨h1, by omega⟩
  · rintro (h | ⟨h1, h2⟩)
    · exact .inl (.inr h)
    · rcases Int.lt_or_gt_of_ne h2 with h3 | h3
      · exact .inl (.inl ⟨h1, h3⟩)
      · exact .inr ⟨h1, h3⟩
theorem ins_sorted {l : List S42} (hs : Sorted l) (s : S42) : Sorted (insS l s) := by
  unfold Sorted insS
  rw [List.pairwise_append, List.pairwise_append]
  refine ⟨⟨hs.filter _, List.pairwise_singleton _ _, fun a ha b hb => ?_⟩, hs.filter _, fun a ha b hb => ?_⟩
  · rw [List.mem_singleton.1 hb]
    exact of_decide_eq_true (List.mem_filter.1 ha).2
  · have h2 := of_decide_eq_true (List.mem_filter.1 hb).2
    rcases List.mem_append.1 ha with ha | ha
    · have h1 := of_decide_eq_true (List.mem_filter.1 ha).2
      exact Int.lt_trans h1 h2
    · rw [List.mem_singleton.1 ha]
      exact h2
/-- Two sorted hosts of the same sockets are one. -/
theorem sorted_ext : ∀ {a b : List S42}, Sorted a → Sorted b → (∀ x, x ∈ a ↔ x ∈ b) → a = b
  | [], [], _, _, _ => rfl
  | [], y :: b, _, _, h => by have := (h y).2 List.mem_cons_self; cases this
  | x :: a, [], _, _, h => by have := (h x).1 List.mem_cons_self; cases this
  | x :: a, y :: b, ha, hb, h => by
    have a1 := (List.pairwise_cons.1 ha).1
    have b1 := (List.pairwise_cons.1 hb).1
    have exy : x = y := by
      have h1 := (h x).1 List.mem_cons_self
      have h2 := (h y).2 List.mem_cons_self
      rcases List.mem_cons.1 h1 with h1 | h1
      · exact h1
      rcases List.mem_cons.1 h2 with h2 | h2
      · exact h2.symm
      have := a1 y h2
      have := b1 x h1
      omega
    subst exy
    congr 1
    refine sorted_ext (List.pairwise_cons.1 ha).2 (List.pairwise_cons.1 hb).2 fun z => ⟨fun hz => ?_, fun hz => ?_⟩
    · rcases List.mem_cons.1 ((h z).1 (List.mem_cons_of_mem _ hz)) with e | e
      · have := a1 z hz; rw [e] at this; omega
      · exact e
    · rcases List.mem_cons.1 ((h z).2 (List.mem_cons_of_mem _ hz)) with e | e
      · have := b1 z hz; rw [e] at this; omega
      · exact e
theorem ins_set {l : List S42} (hs : Sorted l) {s x : S42} (hx : x ∈ l) (he : x.f0 = s.f0) : l.set (posS l s.f0) s = insS l s := by
  have h := split_at hs hx
  rw [he] at h
  have h2 := set_mid (ltS l s.f0) (gtS l s.f0) x s
  rw [← h] at h2
  exact h2
theorem ins_new {l : List S42} (hs : Sorted l) {s : S42} (hn : hasS l s.f0 = false) : l.take (posS l s.f0) ++ [s] ++ l.drop (posS l s.f0) = insS l s := by
  have h := split_no hs (id := s.f0) (fun x hx e => by rw [hasS_iff.2 ⟨x, hx, e⟩] at hn; cases hn)
  have h1 := take_len (ltS l s.f0) (gtS l s.f0)
  have h2 := drop_len (ltS l s.f0) (gtS l s.f0)
  rw [← h] at h1 h2
  replace h1 : l.take (posS l s.f0) = ltS l s.f0 := h1
  replace h2 : l.drop (posS l s.f0) = gtS l s.f0 := h2
  rw [h1, h2]; rfl
theorem ins_len_has {l : List S42} (hs : Sorted l) {s : S42} (h : hasS l s.f0 = true) : (insS l s).length = l.length := by
  obtain ⟨x, hx, he⟩ := hasS_iff.1 h
  rw [← ins_set hs hx he, List.length_set]
theorem ins_len_new {l : List S42} (hs : Sorted l) {s : S42} (hn : hasS l s.f0 = false) : (insS l s).length = l.length + 1 := by
  have h := split_no hs (id := s.f0) (fun x hx e => by rw [hasS_iff.2 ⟨x, hx, e⟩] at hn; cases hn)
  unfold insS
  have h2 := congrArg List.length h
  simp only [List.length_append, List.length_cons, List.length_nil] at h2 ⊢
  omega
/-- Where it stands is where the search stops. -/
theorem stands {l : List S42} (hs : Sorted l) (id : Int) : posS l id ≤ l.length ∧ (∀ k : Nat, k < posS l id → (rd_T42 l k).f0 < id) ∧ ∀ k : Nat, posS l id ≤ k → k < l.length → id ≤ (rd_T42 l k).f0 := by
  have hp : posS l id ≤ l.length := List.length_filter_le _ _
  have key : ∃ C, l = ltS l id ++ C ∧ ∀ x ∈ C, id ≤ x.f0 := by
    by_cases h : hasS l id = true
    · obtain ⟨x, hx, he⟩ := hasS_iff.1 h
      have h2 := split_at hs hx
      rw [he] at h2
      refine ⟨[x] ++ gtS l id, by rw [← List.append_assoc]; exact h2, fun y hy => ?_⟩
      rcases List.mem_append.1 hy with hy | hy
      · rw [List.mem_singleton.1 hy, he]; exact Int.le_refl _
      · exact Int.le_of_lt (of_decide_eq_true (List.mem_filter.1 hy).2)
    · exact ⟨gtS l id, split_no hs (fun x hx e => h (hasS_iff.2 ⟨x, hx, e⟩)), fun y hy => Int.le_of_lt (of_decide_eq_true (List.mem_filter.1 hy).2)⟩
  obtain ⟨C, hC, hge⟩ := key
  refine ⟨hp, fun k hk => ?_, fun k hk hl => ?_⟩
  · rw [rd42 l k (by omega)]
    have h1 : l[k]? = (ltS l id)[k]? := by
      conv => lhs; rw [hC]
      exact List.getElem?_append_left hk
    rw [List.getElem?_eq_getElem (by omega), List.getElem?_eq_getElem hk] at h1
    have h2 := Option.some.inj h1
    rw [h2]
    exact of_decide_eq_true (List.mem_filter.1 (List.getElem_mem hk)).2
  · rw [rd42 l k hl]
    have hlen : (ltS l id).length + C.length = l.length := by rw [← List.length_append, ← hC]
    have hk' : (ltS l id).length ≤ k := hk
    have h1 : l[k]? = C[k - (ltS l id).length]? := by
      conv => lhs; rw [hC]
      exact List.getElem?_append_right hk'
    rw [List.getElem?_eq_getElem hl, List.getElem?_eq_getElem (show k - (ltS l id).length < C.length by omega)] at h1
    rw [Option.some.inj h1]
    exact hge _ (List.getElem_mem _)
theorem at_has {l : List S42} (hs : Sorted l) (id : Int) : (decide (posS l id < l.length) && decide ((rd_T42 l (posS l id)).f0 = id)) = hasS l id := by
  by_cases h : hasS l id = true
  · rw [h]
    obtain ⟨x, hx, he⟩ := hasS_iff.1 h
    have h2 := split_at hs hx
    rw [he] at h2
    have h3 := get_mid (ltS l id) (gtS l id) x
    rw [← h2] at h3
    replace h3 : l[posS l id]? = some x := h3
    have h4 := (List.getElem?_eq_some_iff.1 h3).1
    rw [decide_eq_true h4, rd42 l _ h4, (List.getElem?_eq_some_iff.1 h3).2, decide_eq_true he]; rfl
  · have hf : hasS l id = false := Bool.eq_false_iff.2 h
    rw [hf]
    by_cases h4 : posS l id < l.length
    · rw [decide_eq_false (show ¬ (rd_T42 l ((posS l id : Nat) : Int)).f0 = id from fun e => h (hasS_iff.2 ⟨_, List.getElem_mem h4, by rw [← rd42 l _ h4]; exact e⟩)), Bool.and_false]
    · rw [decide_eq_false h4]; rfl
theorem at_group {l : List S42} (hs : Sorted l) {x : S42} (hx : x ∈ l) : rd_T42 l (posS l x.f0) = x := by
  have h2 := split_at hs hx
  have h3 := get_mid (ltS l x.f0) (gtS l x.f0) x
  rw [← h2] at h3
  replace h3 : l[posS l x.f0]? = some x := h3
  have h4 := (List.getElem?_eq_some_iff.1 h3).1
  rw [rd42 l _ h4, (List.getElem?_eq_some_iff.1 h3).2]
/-! ### Put -/
def clash (l : List S42) (s : S42) : Bool := l.any fun x => decide (x.f0 = s.f0) && !decide (x.f1 = s.f1)
theorem clash_iff {l : List S42} {s : S42} : clash l s = true ↔ ∃ x ∈ l, x.f0 = s.f0 ∧ x.f1 ≠ s.f1 := by
  unfold clash
  simp
def chg (g : Int) (a b : Bool × List Int) : List S36 :=
  hc_keep g (hc_sel a.1 b.1 (mns b.2 a.2) (mns a.2 b.2) b.2).1.1 (hc_sel a.1 b.1 (mns b.2 a.2) (mns a.2 b.2) b.2).1.2 ++ hc_keep g (hc_sel a.1 b.1 (mns b.2 a.2) (mns a.2 b.2) b.2).2.1 (hc_sel a.1 b.1 (mns b.2 a.2) (mns a.2 b.2) b.2).2.2
theorem chg_some (g : Int) (a b : Bool × List Int) (ha : a.2.length ≤ 1000000000) (hb : b.2.length ≤ 1000000000) : host_Change.f g a.1 a.2 b.1 b.2 = some (chg g a b) := by
  unfold host_Change.f
  rw [mns_some hb ha, Option.bind_some, mns_some ha hb, Option.bind_some]
  rfl
theorem changed_some {l l2 : List S42} (h1 : l.length ≤ 32) (h2 : ∀ s ∈ l, FOk s) (h3 : l2.length ≤ 32) (h4 : ∀ s ∈ l2, FOk s) (g : Int) (k : Nat) (hk : 200 ≤ k) : host_changed.f k l l2 g = some (l2, chg g (wnt l g) (wnt l2 g), 0) := by
  unfold host_changed.f
  have e1 := wnt_ok h1 h2 g
  have e2 := wnt_ok h3 h4 g
  rw [wants7_some h1 h2 g k hk, Option.bind_some, wants7_some h3 h4 g k hk, Option.bind_some, chg_some g _ _ (by omega) (by omega), Option.bind_some]
def putE (l : List S42) (s : S42) : Int := if rightB s = false ∨ clash l s = true then 1 else if hasS l s.f0 = false ∧ 32 ≤ l.length then 7 else 0
def putL (l : List S42) (s : S42) : List S42 := if putE l s = 0 then insS l s else l
def putR (l : List S42) (s : S42) : List S36 := if putE l s = 0 then chg s.f1 (wnt l s.f1) (wnt (insS l s) s.f1) else []
theorem putE_ok {l : List S42} {s : S42} (h : putE l s = 0) : rightB s = true ∧ clash l s = false ∧ (hasS l s.f0 = false → l.length < 32) := by
  unfold putE at h
  split at h
  · cases h
  · rename_i h1
    split at h
    · cases h
    · rename_i h2
      simp only [not_or] at h1
      refine ⟨by simpa using h1.1, by simpa using h1.2, fun h3 => ?_⟩
      by_cases h4 : 32 ≤ l.length
      · exact absurd ⟨h3, h4⟩ h2
      · omega
theorem ins_ok {l : List S42} {s : S42} (hl : HOk l) (h : putE l s = 0) : HOk (insS l s) := by
  obtain ⟨h1, h2, h3⟩ := putE_ok h
  refine ⟨?_, ins_sorted hl.2.1 s, fun x hx => ?_⟩
  · cases c : hasS l s.f0
    · rw [ins_len_new hl.2.1 c]; exact h3 c
    · rw [ins_len_has hl.2.1 c]; exact hl.1
  · rcases mem_ins.1 hx with rfl | ⟨hx, _⟩
    · exact h1
    · exact hl.2.2 x hx
theorem put_ok {l : List S42} (hl : HOk l) (s : S42) : HOk (putL l s) := by
  unfold putL
  split
  · rename_i h; exact ins_ok hl h
  · exact hl
end Go.Proofs.Ytjncmiclpaodhaa
/-
  host.Put of any socket: the walk and what it computes, joined.
-/
namespace Go.Proofs.Ytjncmiclpaodhaa
open Go.RowKit Go.Lib Go.Proofs.YtjncmiclpaodhaaW.PrintWords Go.Proofs.Ytjncmiclpaodhaa.PHo
set_option linter.unusedVariables false
set_option linter.unusedSimpArgs false
theorem put_calls {l : List S42} {s : S42} (hl : HOk l) (hm : s.f2.f1.length ≤ 1000000) (A_l : Option Addr) (c_l : Nat) (A_s : Option Addr) (c_s : Nat) (w : World) (hr : Kd.C k42 w A_l l.length l) (hc : l.length ≤ c_l) (hs : Kd.C (Kd.int .u32) w A_s s.f2.f1.length s.f2.f1) (hcs : s.f2.f1.length ≤ c_s) (P : Nat → Prop) (hP : ∀ k, P k → k < w.heap.size) (hlF : Kd.F k42 w P A_l l.length l) (hsF : Kd.F (Kd.int .u32) w P A_s s.f2.f1.length s.f2.f1) :
    Calls Try.prog 15 #[.agg #[.slice A_l l.length c_l], .agg #[.int .i64 s.f0, .int .u32 s.f1, .bool s.f2.f0, .slice A_s s.f2.f1.length c_s]] w (PutPost P w (putL l s) (putR l s) (putE l s)) := by
  have hst : Stands l s.f0 (posS l s.f0) := stands hl.2.1 s.f0
  have hat : at_ l (posS l s.f0) s.f0 = hasS l s.f0 := at_has hl.2.1 s.f0
  have hn : l.length ≤ 1000000 := by have := hl.1; omega
  have hright := hright_some s hm 1000001 (by omega)
  cases hrb : rightB s
  · have e : putE l s = 1 := by unfold putE; rw [if_pos (.inl hrb)]
    unfold putL putR
    rw [e, if_neg (by decide), if_neg (by decide)]
    exact put_wrong hst hn (hright.trans (by rw [hrb])) rfl A_l c_l A_s c_s w hr hc hs hcs P hP hlF hsF
  rw [hrb] at hright
  have hch := fun h0 : putE l s = 0 => changed_some hl.1 hl.fok (ins_ok hl h0).1 (ins_ok hl h0).fok s.f1 1000001 (by omega)
  cases hh : hasS l s.f0
  · have hcl : clash l s = false := by
      cases hcl : clash l s
      · rfl
      · obtain ⟨x, hx, h1, _⟩ := clash_iff.1 hcl
        rw [hasS_iff.2 ⟨x, hx, h1⟩] at hh
        cases hh
    by_cases h32 : 32 ≤ l.length
    · have e : putE l s = 7 := by unfold putE; rw [if_neg (by rw [hrb, hcl]; simp), if_pos ⟨hh, h32⟩]
      unfold putL putR
      rw [e, if_neg (by decide), if_neg (by decide)]
      exact put_full hst hn hright (hat.trans hh) (by omega) A_l c_l A_s c_s w hr hc hs hcs P hP hlF hsF
    · have e : putE l s = 0 := by unfold putE; rw [if_neg (by rw [hrb, hcl]; simp), if_neg (fun h => h32 h.2)]
      unfold putL putR
      rw [e, if_pos rfl, if_pos rfl]
      exact put_new hst hn hright (hat.trans hh) (by omega) (ins_new hl.2.1 hh).symm (hch e) A_l c_l A_s c_s w hr hc hs hcs P hP hlF hsF
  · obtain ⟨x, hx, he⟩ := hasS_iff.1 hh
    have hg := at_group hl.2.1 hx
    rw [he] at hg
    by_cases hgr : x.f1 = s.f1
    · have hcl : clash l s = false := by
        cases hcl : clash l s
        · rfl
        · obtain ⟨y, hy, h1, h2⟩ := clash_iff.1 hcl
          have h3 := at_group hl.2.1 hy
          rw [h1, hg] at h3
          rw [← h3] at h2
          exact absurd hgr h2
      have e : putE l s = 0 := by unfold putE; rw [if_neg (by rw [hrb, hcl]; simp), if_neg (by rw [hh]; simp)]
      unfold putL putR
      rw [e, if_pos rfl, if_pos rfl]
      exact put_place hst hn hright (hat.trans hh) (by rw [hg]; exact hgr) (ins_set hl.2.1 hx he).symm (hch e) A_l c_l A_s c_s w hr hc hs hcs P hP hlF hsF
    · have e : putE l s = 1 := by unfold putE; rw [if_pos (.inr (clash_iff.2 ⟨x, hx, he, hgr⟩))]
      unfold putL putR
      rw [e, if_neg (by decide), if_neg (by decide)]
      exact put_other hst hn hright (hat.trans hh) (by rw [hg]; exact beq_eq_false_iff_ne.2 hgr) A_l c_l A_s c_s w hr hc hs hcs P hP hlF hsF
instance (l : List S42) : Decidable (HOk l) := by unfold HOk Sorted; infer_instance
end Go.Proofs.Ytjncmiclpaodhaa
/-
  The document's said and Change.
-/
namespace Go.Proofs.Ytjncmiclpaodhaa
set_option maxHeartbeats 8000000
set_option maxRecDepth 100000
open Go.RowKit Go.Lib Go.Proofs.YtjncmiclpaodhaaW.PrintWords Go.Proofs.YtjncmiclpaodhaaW.PrintLast Go.Proofs.YtjncmiclpaodhaaW.PrintMore Go.Proofs.Ytjncmiclpaodhaa.PHo
set_option linter.unusedVariables false
set_option linter.unusedSimpArgs false
def saidL (xs : List S36) (y g : Int) (s : List Int) : List S36 := if s.length = 0 then xs else xs ++ [⟨y, g, s⟩]
theorem said_w (y g : Int) {xs : List S36} {s : List Int} {ok Q : Nat → Prop} {B : Nat} (v : Value) (A_s : Option Addr) (c_s : Nat) (w : World) (hB0 : B ≤ w.heap.size) (hxs : xs.length ≤ 1000) (hok : ∀ k, B ≤ k → ok k) (hv : Kd.N k36 36 w B ok v xs) (hs : Kd.V (Kd.int .u32) 23 w 0 Q (.slice A_s s.length c_s) s) (hQ : ∀ k, Q k → ok k ∧ some k ≠ v.ownBlock) :
    Calls Try.prog 40 #[v, .int .u8 y, .int .u32 g, .slice A_s s.length c_s] w fun e w' => ∃ v', e = .returned v' ∧ Kd.N k36 36 w' B ok v' (saidL xs y g s) ∧ w.grownBy w' v.ownBlock ∧ (v'.ownBlock = v.ownBlock ∨ ∃ b, v'.ownBlock = some b ∧ w.heap.size ≤ b) := by
  have hu36 := Try.underlying36
  have HN := Aside0.mk hv
  have HVS := Aside0.mk hs
  have XQ := Aside0.mk hQ
  have XB := Aside0.mk hB0
  have XL := Aside0.mk hxs
  have XO := Aside0.mk hok
  clear hv hs hQ hB0 hxs hok
  go_enter Try.func40, Try.ntmps40
  by_cases hz : s.length = 0
  · have c11 : ((s.length : Int) == 0) = true := by rw [hz]; rfl
    have XZ := Aside0.mk hz
    clear hz
    go_wp2
    go_ret
    exact ⟨_, rfl, (by unfold saidL; rw [if_pos XZ.out]; exact HN.out), World.grownBy.refl _ _, .inl rfl⟩
  · have c11 : ((s.length : Int) == 0) = false := beq_eq_false_iff_ne.2 (by omega)
    have XZ := Aside0.mk hz
    clear hz
    obtain ⟨h1_, h2_, h3_⟩ := Kd.V_at HVS.out
    have HAP := Aside0.mk (k36_mkF w Q ⟨y, g, s⟩ h2_ (Kd.V_F HVS.out))
    clear h1_ h2_ h3_
    go_wp2_with (first | ((with_reducible refine gate_builtin (b := .append) (xs := #[.tmp 13, .tmp 18]) rfl ?_); at_builtin; refine Kd.N_append k36 (w0 := w) B rfl (.tmp 13) (.tmp 18) 31 36 (.agg #[.int .u8 0, .int .u32 0, .slice none 0 0]) 32 rfl Try.underlying31 info36_ rfl (by decide) (by decide) v xs ⟨y, g, s⟩ [.int .u8 y, .int .u32 g, .slice A_s s.length c_s] ok Q rfl rfl HAP.out XQ.out (fun k hk => XO.out k (by have := XB.out; omega)) HN.out (Below.refl _ _) XB.out (by have := XL.out; omega) ?_; intro v_m wm hN hB hG hat; have HN2 := Aside0.mk hN; have HG2 := Aside0.mk hG; have HA2 := Aside0.mk hat; clear hN hB hG hat))
    go_ret
    exact ⟨_, rfl, (by unfold saidL; rw [if_neg XZ.out]; exact HN2.out), HG2.out, HA2.out⟩
def stolonref07_Change.f (a0 : Int) (p : Bool) (l1 : List Int) (q : Bool) (l2 : List Int) : Option (List S36) :=
  if p = q then (stolonref06_Minus.f 100000 l2 l1).bind fun s1 => (stolonref06_Minus.f 100000 l1 l2).bind fun s2 => if s1.length ≤ 1000000 ∧ s2.length ≤ 1000000 then some (if q = true then saidL (saidL [] 5 a0 s2) 6 a0 s1 else saidL (saidL [] 5 a0 s1) 6 a0 s2) else none
  else some [⟨if q = true then 4 else 3, a0, l2⟩]
theorem minus6_w {a b r : List Int} (h : stolonref06_Minus.f 100000 a b = some r) (A : Option Addr) (c : Nat) (B : Option Addr) (d : Nat) (w : World) (hr : Kd.C (Kd.int .u32) w A a.length a) (hc : a.length ≤ c) (hs : Kd.C (Kd.int .u32) w B b.length b) (hd : b.length ≤ d) :
    Calls Try.prog 39 #[.slice A a.length c, .slice B b.length d] w fun e w' => ∃ v : Value, e = .returned v ∧ Kd.R (Kd.int .u32) 23 w' w.heap.size (fun _ => True) v r ∧ Below w.heap.size w w' := stolonref06_Minus.calls 100000 A c a B d b r w hr hc hs hd h
theorem rchange_turnt {a0 : Int} {l1 l2 : List Int}  (A1 : Option Addr) (c1 : Nat) (A2 : Option Addr) (c2 : Nat) (w : World) (P2_ : Nat → Prop) (hr1 : Kd.C (Kd.int .u32) w A1 l1.length l1) (hc1 : l1.length ≤ c1) (hs2 : Kd.V (Kd.int .u32) 23 w w.heap.size (fun k_ => P2_ k_) (.slice A2 l2.length c2) l2) :
    Calls Try.prog 23 #[.int .u32 a0, .agg #[.bool false, .slice A1 l1.length c1], .agg #[.bool true, .slice A2 l2.length c2]] w fun e w' => ∃ v0_ : Value, e = .returned v0_ ∧ Kd.V k36 36 w' w.heap.size (fun k_ => (P2_ k_ ∨ w.heap.size ≤ k_)) v0_ [⟨4, a0, l2⟩] ∧ Below w.heap.size w w' := by
  have hu26 := Try.underlying26
  have hu36 := Try.underlying36
  have HB := Aside0.mk (Below.refl w.heap.size w)
  have HC_a := Aside0.mk hr1
  have HK_a := Aside0.mk hc1
  have HC_b := Aside0.mk (Kd.V_reads' hs2).2.2
  have HK_b := Aside0.mk (Kd.V_reads' hs2).2.1
  have HV_b := Aside0.mk (Kd.V_bound hs2)
  clear hr1 hc1 hs2 
  go_enter Try.func23, Try.ntmps23
  go_wp2_with (first | ((with_reducible refine gate_dst (N := 4) rfl ?_); (try (refine gate_guard (by rfl) ?_; dsimp only)); refine bxn (cs := #[.bool false, .slice A1 l1.length c1]) (t := 26) ?_; intro gw hg w1_ hbox hB; have HBo := Aside0.mk HB.out; replace HB := mvH HB hB; have BK_gw := Aside0.mk hbox; have GE_gw := Aside0.mk (show w.heap.size ≤ gw by rw [hg]; exact HBo.out.size); clear hg hbox hB; obtain ⟨hc_gw_0, hc_gw_1, hf_gw_0, hf_gw_1⟩ := cf2 BK_gw.out; clear HBo) | ((with_reducible refine gate_dst (N := 5) rfl ?_); (try (refine gate_guard (by rfl) ?_; dsimp only)); refine bxn (cs := #[.bool true, .slice A2 l2.length c2]) (t := 26) ?_; intro gi hg w2_ hbox hB; have HBo := Aside0.mk HB.out; have BK0_gw := Aside0.mk BK_gw.out; replace HB := mvH HB hB; clear hc_gw_0 hf_gw_0 hc_gw_1 hf_gw_1; replace BK_gw := mvB BK_gw hB; obtain ⟨hc_gw_0, hc_gw_1, hf_gw_0, hf_gw_1⟩ := cf2 BK_gw.out; have BK_gi := Aside0.mk hbox; have GE_gi := Aside0.mk (show w.heap.size ≤ gi by rw [hg]; exact HBo.out.size); have NB_gi_gw := Aside0.mk (show gi ≠ gw by rw [hg]; exact Nat.ne_of_gt (blk_lt (g := gw) (o := .cells #[.bool false, .slice A1 l1.length c1] 26 (0, 0)) BK0_gw.out)); have NB_gw_gi := Aside0.mk (Ne.symm NB_gi_gw.out); clear BK0_gw; clear hg hbox hB; obtain ⟨hc_gi_0, hc_gi_1, hf_gi_0, hf_gi_1⟩ := cf2 BK_gi.out; clear HBo) | ((with_reducible refine gate_dst (N := 22) rfl ?_); refine Kd.N_lit k36 _ 36 ?hg (N' := 22) ?hd (xs := [⟨4, a0, l2⟩]) (inner := [.int .u8 4, .int .u32 a0, .slice A2 l2.length c2]) (ok := fun k => P2_ k ∨ w.heap.size ≤ k) (okp := fun k => P2_ k ∧ k < w.heap.size) ?hr ?hp (fun k hk => .inl hk.1) (.inr HB.out.size) (Below.refl _ _) (Nat.le_refl _) (by simp) ?_; (case hd => rfl); (case hg => rfl); (case hr => first | (go_simp; done) | (go_simp; rfl)); (case hp => exact Reps.c3 (show Kd.FK k36 _ _ _ _ from k36_mkF _ _ ⟨4, a0, l2⟩ HK_b.out (Kd.V_F (Kd.V_below HV_b.out HB.out))) (Reps.none _ _)); intro v_n wn hN hB hg_ hnew_; replace HB := mvH HB hB; have HNN := Aside0.mk hN; clear hg_ hnew_ hN hB))
  go_ret
  exact ⟨_, rfl, Kd.N_V HNN.out, HB.out⟩
theorem rchange_turnf {a0 : Int} {l1 l2 : List Int}  (A1 : Option Addr) (c1 : Nat) (A2 : Option Addr) (c2 : Nat) (w : World) (P2_ : Nat → Prop) (hr1 : Kd.C (Kd.int .u32) w A1 l1.length l1) (hc1 : l1.length ≤ c1) (hs2 : Kd.V (Kd.int .u32) 23 w w.heap.size (fun k_ => P2_ k_) (.slice A2 l2.length c2) l2) :
    Calls Try.prog 23 #[.int .u32 a0, .agg #[.bool true, .slice A1 l1.length c1], .agg #[.bool false, .slice A2 l2.length c2]] w fun e w' => ∃ v0_ : Value, e = .returned v0_ ∧ Kd.V k36 36 w' w.heap.size (fun k_ => (P2_ k_ ∨ w.heap.size ≤ k_)) v0_ [⟨3, a0, l2⟩] ∧ Below w.heap.size w w' := by
  have hu26 := Try.underlying26
  have hu36 := Try.underlying36
  have HB := Aside0.mk (Below.refl w.heap.size w)
  have HC_a := Aside0.mk hr1
  have HK_a := Aside0.mk hc1
  have HC_b := Aside0.mk (Kd.V_reads' hs2).2.2
  have HK_b := Aside0.mk (Kd.V_reads' hs2).2.1
  have HV_b := Aside0.mk (Kd.V_bound hs2)
  clear hr1 hc1 hs2 
  go_enter Try.func23, Try.ntmps23
  go_wp2_with (first | ((with_reducible refine gate_dst (N := 4) rfl ?_); (try (refine gate_guard (by rfl) ?_; dsimp only)); refine bxn (cs := #[.bool true, .slice A1 l1.length c1]) (t := 26) ?_; intro gw hg w1_ hbox hB; have HBo := Aside0.mk HB.out; replace HB := mvH HB hB; have BK_gw := Aside0.mk hbox; have GE_gw := Aside0.mk (show w.heap.size ≤ gw by rw [hg]; exact HBo.out.size); clear hg hbox hB; obtain ⟨hc_gw_0, hc_gw_1, hf_gw_0, hf_gw_1⟩ := cf2 BK_gw.out; clear HBo) | ((with_reducible refine gate_dst (N := 5) rfl ?_); (try (refine gate_guard (by rfl) ?_; dsimp only)); refine bxn (cs := #[.bool false, .slice A2 l2.length c2]) (t := 26) ?_; intro gi hg w2_ hbox hB; have HBo := Aside0.mk HB.out; have BK0_gw := Aside0.mk BK_gw.out; replace HB := mvH HB hB; clear hc_gw_0 hf_gw_0 hc_gw_1 hf_gw_1; replace BK_gw := mvB BK_gw hB; obtain ⟨hc_gw_0, hc_gw_1, hf_gw_0, hf_gw_1⟩ := cf2 BK_gw.out; have BK_gi := Aside0.mk hbox; have GE_gi := Aside0.mk (show w.heap.size ≤ gi by rw [hg]; exact HBo.out.size); have NB_gi_gw := Aside0.mk (show gi ≠ gw by rw [hg]; exact Nat.ne_of_gt (blk_lt (g := gw) (o := .cells #[.bool true, .slice A1 l1.length c1] 26 (0, 0)) BK0_gw.out)); have NB_gw_gi := Aside0.mk (Ne.symm NB_gi_gw.out); clear BK0_gw; clear hg hbox hB; obtain ⟨hc_gi_0, hc_gi_1, hf_gi_0, hf_gi_1⟩ := cf2 BK_gi.out; clear HBo) | ((with_reducible refine gate_dst (N := 22) rfl ?_); refine Kd.N_lit k36 _ 36 ?hg (N' := 22) ?hd (xs := [⟨3, a0, l2⟩]) (inner := [.int .u8 3, .int .u32 a0, .slice A2 l2.length c2]) (ok := fun k => P2_ k ∨ w.heap.size ≤ k) (okp := fun k => P2_ k ∧ k < w.heap.size) ?hr ?hp (fun k hk => .inl hk.1) (.inr HB.out.size) (Below.refl _ _) (Nat.le_refl _) (by simp) ?_; (case hd => rfl); (case hg => rfl); (case hr => first | (go_simp; done) | (go_simp; rfl)); (case hp => exact Reps.c3 (show Kd.FK k36 _ _ _ _ from k36_mkF _ _ ⟨3, a0, l2⟩ HK_b.out (Kd.V_F (Kd.V_below HV_b.out HB.out))) (Reps.none _ _)); intro v_n wn hN hB hg_ hnew_; replace HB := mvH HB hB; have HNN := Aside0.mk hN; clear hg_ hnew_ hN hB))
  go_ret
  exact ⟨_, rfl, Kd.N_V HNN.out, HB.out⟩
theorem rchange_stayt {a0 : Int} {l1 l2 : List Int} {s1 s2 : List Int} (h1 : stolonref06_Minus.f 100000 l2 l1 = some s1) (h2 : stolonref06_Minus.f 100000 l1 l2 = some s2) (hn : s1.length ≤ 1000000 ∧ s2.length ≤ 1000000) (A1 : Option Addr) (c1 : Nat) (A2 : Option Addr) (c2 : Nat) (w : World) (P2_ : Nat → Prop) (hr1 : Kd.C (Kd.int .u32) w A1 l1.length l1) (hc1 : l1.length ≤ c1) (hs2 : Kd.V (Kd.int .u32) 23 w w.heap.size (fun k_ => P2_ k_) (.slice A2 l2.length c2) l2) :
    Calls Try.prog 23 #[.int .u32 a0, .agg #[.bool true, .slice A1 l1.length c1], .agg #[.bool true, .slice A2 l2.length c2]] w fun e w' => ∃ v0_ : Value, e = .returned v0_ ∧ Kd.V k36 36 w' w.heap.size (fun k_ => (P2_ k_ ∨ w.heap.size ≤ k_)) v0_ (saidL (saidL [] 5 a0 s2) 6 a0 s1) ∧ Below w.heap.size w w' := by
  have hu26 := Try.underlying26
  have hu36 := Try.underlying36
  have HB := Aside0.mk (Below.refl w.heap.size w)
  have HC_a := Aside0.mk hr1
  have HK_a := Aside0.mk hc1
  have HC_b := Aside0.mk (Kd.V_reads' hs2).2.2
  have HK_b := Aside0.mk (Kd.V_reads' hs2).2.1
  have HV_b := Aside0.mk (Kd.V_bound hs2)
  have Xh1 := Aside0.mk h1
  have Xh2 := Aside0.mk h2
  clear hr1 hc1 hs2 h1 h2
  go_enter Try.func23, Try.ntmps23
  go_upto_region 8 with (first | ((with_reducible refine gate_dst (N := 4) rfl ?_); (try (refine gate_guard (by rfl) ?_; dsimp only)); refine bxn (cs := #[.bool true, .slice A1 l1.length c1]) (t := 26) ?_; intro gw hg w1_ hbox hB; have HBo := Aside0.mk HB.out; replace HB := mvH HB hB; have BK_gw := Aside0.mk hbox; have GE_gw := Aside0.mk (show w.heap.size ≤ gw by rw [hg]; exact HBo.out.size); clear hg hbox hB; obtain ⟨hc_gw_0, hc_gw_1, hf_gw_0, hf_gw_1⟩ := cf2 BK_gw.out; clear HBo) | ((with_reducible refine gate_dst (N := 5) rfl ?_); (try (refine gate_guard (by rfl) ?_; dsimp only)); refine bxn (cs := #[.bool true, .slice A2 l2.length c2]) (t := 26) ?_; intro gi hg w2_ hbox hB; have HBo := Aside0.mk HB.out; have BK0_gw := Aside0.mk BK_gw.out; replace HB := mvH HB hB; clear hc_gw_0 hf_gw_0 hc_gw_1 hf_gw_1; replace BK_gw := mvB BK_gw hB; obtain ⟨hc_gw_0, hc_gw_1, hf_gw_0, hf_gw_1⟩ := cf2 BK_gw.out; have BK_gi := Aside0.mk hbox; have GE_gi := Aside0.mk (show w.heap.size ≤ gi by rw [hg]; exact HBo.out.size); have NB_gi_gw := Aside0.mk (show gi ≠ gw by rw [hg]; exact Nat.ne_of_gt (blk_lt (g := gw) (o := .cells #[.bool true, .slice A1 l1.length c1] 26 (0, 0)) BK0_gw.out)); have NB_gw_gi := Aside0.mk (Ne.symm NB_gi_gw.out); clear BK0_gw; clear hg hbox hB; obtain ⟨hc_gi_0, hc_gi_1, hf_gi_0, hf_gi_1⟩ := cf2 BK_gi.out; clear HBo) | (go_at_call 39; with_reducible refine (minus6_w Xh1.out _ _ _ _ _ (Kd.C_below HC_b.out HB.out) HK_b.out (Kd.C_below HC_a.out HB.out) HK_a.out).mono ?_; rintro e w3_ ⟨v_f, rfl, hR, hB⟩; obtain ⟨A_f, c_f, rfl⟩ := Kd.R_slice hR; have hsz := HB.out.size; replace HB := mvH HB hB; clear hc_gw_0 hf_gw_0 hc_gw_1 hf_gw_1; replace BK_gw := mvB BK_gw hB; obtain ⟨hc_gw_0, hc_gw_1, hf_gw_0, hf_gw_1⟩ := cf2 BK_gw.out; clear hc_gi_0 hf_gi_0 hc_gi_1 hf_gi_1; replace BK_gi := mvB BK_gi hB; obtain ⟨hc_gi_0, hc_gi_1, hf_gi_0, hf_gi_1⟩ := cf2 BK_gi.out; have HR_f := Aside0.mk (Kd.R_mono (Kd.R_lower hR hsz) (fun _ _ => trivial : ∀ k, _ → (fun _ => True) k)); clear hR hsz; clear hB) | (go_at_call 39; with_reducible refine (minus6_w Xh2.out _ _ _ _ _ (Kd.C_below HC_a.out HB.out) HK_a.out (Kd.C_below HC_b.out HB.out) HK_b.out).mono ?_; rintro e w4_ ⟨v_g, rfl, hR, hB⟩; obtain ⟨A_g, c_g, rfl⟩ := Kd.R_slice hR; have hsz := HB.out.size; replace HB := mvH HB hB; clear hc_gw_0 hf_gw_0 hc_gw_1 hf_gw_1; replace BK_gw := mvB BK_gw hB; obtain ⟨hc_gw_0, hc_gw_1, hf_gw_0, hf_gw_1⟩ := cf2 BK_gw.out; clear hc_gi_0 hf_gi_0 hc_gi_1 hf_gi_1; replace BK_gi := mvB BK_gi hB; obtain ⟨hc_gi_0, hc_gi_1, hf_gi_0, hf_gi_1⟩ := cf2 BK_gi.out; replace HR_f := mvR HR_f hB; have HR_g := Aside0.mk (Kd.R_mono (Kd.R_lower hR hsz) (fun _ _ => trivial : ∀ k, _ → (fun _ => True) k)); clear hR hsz; clear hB))
  have HV_f := Aside0.mk (Kd.V_mono (Kd.R_V (e := 23) (base' := 0) (Kd.R_bound HR_f.out)) (fun k hk => ⟨by first | exact hk.2.1 | (have := hk.2.1; omega), hk.2.2.1⟩ : ∀ k, _ → w.heap.size ≤ k ∧ k < w4_.heap.size))
  clear HR_f
  have HV_g := Aside0.mk (Kd.V_mono (Kd.R_V (e := 23) (base' := 0) (Kd.R_bound HR_g.out)) (fun k hk => ⟨by first | exact hk.2.1 | (have := hk.2.1; omega), hk.2.2.1⟩ : ∀ k, _ → w.heap.size ≤ k ∧ k < w4_.heap.size))
  clear HR_g
  have S1_ := Aside0.mk (said_w 5 a0 (xs := []) (s := s2) (ok := fun k => w.heap.size ≤ k) (Q := fun k => w.heap.size ≤ k ∧ k < w4_.heap.size) (B := w.heap.size) (.slice none 0 0) A_g c_g w4_ HB.out.size (by simp) (fun _ h => h) (Kd.N_nil _ _ _ _ _) HV_g.out (fun k hk => ⟨hk.1, by simp [Value.ownBlock]⟩))
  go_wp2_with (first | (go_at_call 40; (with_reducible refine S1_.out.mono ?_); rintro e wa ⟨v_1, rfl, hN, hG, hat⟩; have HN1 := Aside0.mk hN; have HG1 := Aside0.mk hG; have HA1 := Aside0.mk hat; clear hN hG hat; have S2_ := Aside0.mk (said_w 6 a0 (xs := saidL [] 5 a0 s2) (s := s1) (ok := fun k => w.heap.size ≤ k) (Q := fun k => w.heap.size ≤ k ∧ k < w4_.heap.size) (B := w.heap.size) v_1 A_f c_f wa (Nat.le_trans HB.out.size HG1.out.size) (by unfold saidL; split <;> simp) (fun _ h => h) HN1.out (Kd.V_grown HV_f.out HG1.out (fun _ _ => by simp [Value.ownBlock])) (fun k hk => ⟨hk.1, fun e => by rcases HA1.out with h | ⟨b, h, hb⟩ <;> rw [h] at e <;> simp [Value.ownBlock] at e; omega⟩))) | (go_at_call 40; (with_reducible refine S2_.out.mono ?_); rintro e wb ⟨v_2, rfl, hN, hG, hat⟩; have HN2 := Aside0.mk hN; have HG2 := Aside0.mk hG; clear hN hG hat))
  go_ret
  refine ⟨_, rfl, Kd.V_mono (Kd.N_V HN2.out) (fun k hk => .inr hk), ?_⟩
  have e1 := HB.out.grown HG1.out HB.out.size (fun k hk => by simp [Value.ownBlock] at hk)
  exact e1.grown HG2.out e1.size (fun k hk => by rcases HA1.out with h | ⟨b, h, hb⟩ <;> rw [h] at hk <;> simp [Value.ownBlock] at hk; have := HB.out.size; omega)
theorem rchange_stayf {a0 : Int} {l1 l2 : List Int} {s1 s2 : List Int} (h1 : stolonref06_Minus.f 100000 l2 l1 = some s1) (h2 : stolonref06_Minus.f 100000 l1 l2 = some s2) (hn : s1.length ≤ 1000000 ∧ s2.length ≤ 1000000) (A1 : Option Addr) (c1 : Nat) (A2 : Option Addr) (c2 : Nat) (w : World) (P2_ : Nat → Prop) (hr1 : Kd.C (Kd.int .u32) w A1 l1.length l1) (hc1 : l1.length ≤ c1) (hs2 : Kd.V (Kd.int .u32) 23 w w.heap.size (fun k_ => P2_ k_) (.slice A2 l2.length c2) l2) :
    Calls Try.prog 23 #[.int .u32 a0, .agg #[.bool false, .slice A1 l1.length c1], .agg #[.bool false, .slice A2 l2.length c2]] w fun e w' => ∃ v0_ : Value, e = .returned v0_ ∧ Kd.V k36 36 w' w.heap.size (fun k_ => (P2_ k_ ∨ w.heap.size ≤ k_)) v0_ (saidL (saidL [] 5 a0 s1) 6 a0 s2) ∧ Below w.heap.size w w' := by
  have hu26 := Try.underlying26
  have hu36 := Try.underlying36
  have HB := Aside0.mk (Below.refl w.heap.size w)
  have HC_a := Aside0.mk hr1
  have HK_a := Aside0.mk hc1
  have HC_b := Aside0.mk (Kd.V_reads' hs2).2.2
  have HK_b := Aside0.mk (Kd.V_reads' hs2).2.1
  have HV_b := Aside0.mk (Kd.V_bound hs2)
  have Xh1 := Aside0.mk h1
  have Xh2 := Aside0.mk h2
  clear hr1 hc1 hs2 h1 h2
  go_enter Try.func23, Try.ntmps23
  go_upto_region 8 with (first | ((with_reducible refine gate_dst (N := 4) rfl ?_); (try (refine gate_guard (by rfl) ?_; dsimp only)); refine bxn (cs := #[.bool false, .slice A1 l1.length c1]) (t := 26) ?_; intro gw hg w1_ hbox hB; have HBo := Aside0.mk HB.out; replace HB := mvH HB hB; have BK_gw := Aside0.mk hbox; have GE_gw := Aside0.mk (show w.heap.size ≤ gw by rw [hg]; exact HBo.out.size); clear hg hbox hB; obtain ⟨hc_gw_0, hc_gw_1, hf_gw_0, hf_gw_1⟩ := cf2 BK_gw.out; clear HBo) | ((with_reducible refine gate_dst (N := 5) rfl ?_); (try (refine gate_guard (by rfl) ?_; dsimp only)); refine bxn (cs := #[.bool false, .slice A2 l2.length c2]) (t := 26) ?_; intro gi hg w2_ hbox hB; have HBo := Aside0.mk HB.out; have BK0_gw := Aside0.mk BK_gw.out; replace HB := mvH HB hB; clear hc_gw_0 hf_gw_0 hc_gw_1 hf_gw_1; replace BK_gw := mvB BK_gw hB; obtain ⟨hc_gw_0, hc_gw_1, hf_gw_0, hf_gw_1⟩ := cf2 BK_gw.out; have BK_gi := Aside0.mk hbox; have GE_gi := Aside0.mk (show w.heap.size ≤ gi by rw [hg]; exact HBo.out.size); have NB_gi_gw := Aside0.mk (show gi ≠ gw by rw [hg]; exact Nat.ne_of_gt (blk_lt (g := gw) (o := .cells #[.bool false, .slice A1 l1.length c1] 26 (0, 0)) BK0_gw.out)); have NB_gw_gi := Aside0.mk (Ne.symm NB_gi_gw.out); clear BK0_gw; clear hg hbox hB; obtain ⟨hc_gi_0, hc_gi_1, hf_gi_0, hf_gi_1⟩ := cf2 BK_gi.out; clear HBo) | (go_at_call 39; with_reducible refine (minus6_w Xh1.out _ _ _ _ _ (Kd.C_below HC_b.out HB.out) HK_b.out (Kd.C_below HC_a.out HB.out) HK_a.out).mono ?_; rintro e w3_ ⟨v_f, rfl, hR, hB⟩; obtain ⟨A_f, c_f, rfl⟩ := Kd.R_slice hR; have hsz := HB.out.size; replace HB := mvH HB hB; clear hc_gw_0 hf_gw_0 hc_gw_1 hf_gw_1; replace BK_gw := mvB BK_gw hB; obtain ⟨hc_gw_0, hc_gw_1, hf_gw_0, hf_gw_1⟩ := cf2 BK_gw.out; clear hc_gi_0 hf_gi_0 hc_gi_1 hf_gi_1; replace BK_gi := mvB BK_gi hB; obtain ⟨hc_gi_0, hc_gi_1, hf_gi_0, hf_gi_1⟩ := cf2 BK_gi.out; have HR_f := Aside0.mk (Kd.R_mono (Kd.R_lower hR hsz) (fun _ _ => trivial : ∀ k, _ → (fun _ => True) k)); clear hR hsz; clear hB) | (go_at_call 39; with_reducible refine (minus6_w Xh2.out _ _ _ _ _ (Kd.C_below HC_a.out HB.out) HK_a.out (Kd.C_below HC_b.out HB.out) HK_b.out).mono ?_; rintro e w4_ ⟨v_g, rfl, hR, hB⟩; obtain ⟨A_g, c_g, rfl⟩ := Kd.R_slice hR; have hsz := HB.out.size; replace HB := mvH HB hB; clear hc_gw_0 hf_gw_0 hc_gw_1 hf_gw_1; replace BK_gw := mvB BK_gw hB; obtain ⟨hc_gw_0, hc_gw_1, hf_gw_0, hf_gw_1⟩ := cf2 BK_gw.out; clear hc_gi_0 hf_gi_0 hc_gi_1 hf_gi_1; replace BK_gi := mvB BK_gi hB; obtain ⟨hc_gi_0, hc_gi_1, hf_gi_0, hf_gi_1⟩ := cf2 BK_gi.out; replace HR_f := mvR HR_f hB; have HR_g := Aside0.mk (Kd.R_mono (Kd.R_lower hR hsz) (fun _ _ => trivial : ∀ k, _ → (fun _ => True) k)); clear hR hsz; clear hB))
  have HV_f := Aside0.mk (Kd.V_mono (Kd.R_V (e := 23) (base' := 0) (Kd.R_bound HR_f.out)) (fun k hk => ⟨by first | exact hk.2.1 | (have := hk.2.1; omega), hk.2.2.1⟩ : ∀ k, _ → w.heap.size ≤ k ∧ k < w4_.heap.size))
  clear HR_f
  have HV_g := Aside0.mk (Kd.V_mono (Kd.R_V (e := 23) (base' := 0) (Kd.R_bound HR_g.out)) (fun k hk => ⟨by first | exact hk.2.1 | (have := hk.2.1; omega), hk.2.2.1⟩ : ∀ k, _ → w.heap.size ≤ k ∧ k < w4_.heap.size))
  clear HR_g
  have S1_ := Aside0.mk (said_w 5 a0 (xs := []) (s := s1) (ok := fun k => w.heap.size ≤ k) (Q := fun k => w.heap.size ≤ k ∧ k < w4_.heap.size) (B := w.heap.size) (.slice none 0 0) A_f c_f w4_ HB.out.size (by simp) (fun _ h => h) (Kd.N_nil _ _ _ _ _) HV_f.out (fun k hk => ⟨hk.1, by simp [Value.ownBlock]⟩))
  go_wp2_with (first | (go_at_call 40; (with_reducible refine S1_.out.mono ?_); rintro e wa ⟨v_1, rfl, hN, hG, hat⟩; have HN1 := Aside0.mk hN; have HG1 := Aside0.mk hG; have HA1 := Aside0.mk hat; clear hN hG hat; have S2_ := Aside0.mk (said_w 6 a0 (xs := saidL [] 5 a0 s1) (s := s2) (ok := fun k => w.heap.size ≤ k) (Q := fun k => w.heap.size ≤ k ∧ k < w4_.heap.size) (B := w.heap.size) v_1 A_g c_g wa (Nat.le_trans HB.out.size HG1.out.size) (by unfold saidL; split <;> simp) (fun _ h => h) HN1.out (Kd.V_grown HV_g.out HG1.out (fun _ _ => by simp [Value.ownBlock])) (fun k hk => ⟨hk.1, fun e => by rcases HA1.out with h | ⟨b, h, hb⟩ <;> rw [h] at e <;> simp [Value.ownBlock] at e; omega⟩))) | (go_at_call 40; (with_reducible refine S2_.out.mono ?_); rintro e wb ⟨v_2, rfl, hN, hG, hat⟩; have HN2 := Aside0.mk hN; have HG2 := Aside0.mk hG; clear hN hG hat))
  go_ret
  refine ⟨_, rfl, Kd.V_mono (Kd.N_V HN2.out) (fun k hk => .inr hk), ?_⟩
  have e1 := HB.out.grown HG1.out HB.out.size (fun k hk => by simp [Value.ownBlock] at hk)
  exact e1.grown HG2.out e1.size (fun k hk => by rcases HA1.out with h | ⟨b, h, hb⟩ <;> rw [h] at hk <;> simp [Value.ownBlock] at hk; have := HB.out.size; omega)
theorem stolonref07_Change.calls (a0 : Int) (p : Bool) (A1 : Option Addr) (c1 : Nat) (l1 : List Int) (q : Bool) (P2_ : Nat → Prop) (A2 : Option Addr) (c2 : Nat) (l2 : List Int) (r : List S36) (w : World) (hr1 : Kd.C (Kd.int .u32) w A1 l1.length l1) (hc1 : l1.length ≤ c1) (hs2 : Kd.V (Kd.int .u32) 23 w w.heap.size (fun k_ => P2_ k_) (.slice A2 l2.length c2) l2) (h : stolonref07_Change.f a0 p l1 q l2 = some r) :
    Calls Try.prog 23 #[.int .u32 a0, .agg #[.bool p, .slice A1 l1.length c1], .agg #[.bool q, .slice A2 l2.length c2]] w fun e w' => ∃ v0_ : Value, e = .returned v0_ ∧ Kd.V k36 36 w' w.heap.size (fun k_ => (P2_ k_ ∨ w.heap.size ≤ k_)) v0_ r ∧ Below w.heap.size w w' := by
  unfold stolonref07_Change.f at h
  by_cases hpq : p = q
  · rw [if_pos hpq] at h
    subst hpq
    obtain ⟨s1, h1, h⟩ := Option.bind_eq_some_iff.1 h
    obtain ⟨s2, h2, h⟩ := Option.bind_eq_some_iff.1 h
    by_cases hn : s1.length ≤ 1000000 ∧ s2.length ≤ 1000000
    case neg => rw [if_neg hn] at h; cases h
    rw [if_pos hn] at h
    cases p
    · rw [if_neg (by decide)] at h
      obtain rfl := Option.some.inj h
      exact rchange_stayf h1 h2 hn A1 c1 A2 c2 w P2_ hr1 hc1 hs2
    · rw [if_pos rfl] at h
      obtain rfl := Option.some.inj h
      exact rchange_stayt h1 h2 hn A1 c1 A2 c2 w P2_ hr1 hc1 hs2
  · rw [if_neg hpq] at h
    obtain rfl := Option.some.inj h
    cases p <;> cases q
    · exact absurd rfl hpq
    · exact rchange_turnt A1 c1 A2 c2 w P2_ hr1 hc1 hs2
    · exact rchange_turnf A1 c1 A2 c2 w P2_ hr1 hc1 hs2
    · exact absurd rfl hpq
end Go.Proofs.Ytjncmiclpaodhaa
/-
  host.Answer to a general query.
-/
namespace Go.Proofs.Ytjncmiclpaodhaa
open Go.RowKit Go.Proofs.YtjncmiclpaodhaaW.PrintWords Go.Proofs.YtjncmiclpaodhaaW.PrintLast Go.Proofs.YtjncmiclpaodhaaW.PrintMore Go.Proofs.Ytjncmiclpaodhaa.PHo
set_option linter.unusedVariables false
set_option linter.unusedSimpArgs false
end Go.Proofs.Ytjncmiclpaodhaa
/-
  HostGroups, walked.
-/
namespace Go.Proofs.Ytjncmiclpaodhaa
set_option maxHeartbeats 8000000
set_option maxRecDepth 100000
open Go.RowKit Go.Proofs.YtjncmiclpaodhaaW.PrintWords Go.Proofs.YtjncmiclpaodhaaW.PrintLast Go.Proofs.YtjncmiclpaodhaaW.PrintMore Go.Proofs.Ytjncmiclpaodhaa.PHo
set_option linter.unusedVariables false
set_option linter.unusedSimpArgs false
theorem few7_w {k : Nat} {l : List S42} {b : Bool} (h : stolonref07_Few.f k l = some b) (A : Option Addr) (c : Nat) (w : World) (hr : Kd.C k42 w A l.length l) (hc : l.length ≤ c) :
    Calls Try.prog 13 #[.agg #[.slice A l.length c]] w fun x w' => x = .returned (.bool b) ∧ Below w.heap.size w w' := stolonref07_Few.calls k A c l b w hr hc h
theorem right7_w {k : Nat} {l : List S42} {b : Bool} (h : stolonref07_Right.f k l = some b) (A : Option Addr) (c : Nat) (w : World) (hr : Kd.C k42 w A l.length l) (hc : l.length ≤ c) :
    Calls Try.prog 14 #[.agg #[.slice A l.length c]] w fun x w' => x = .returned (.bool b) ∧ Below w.heap.size w w' := stolonref07_Right.calls k A c l b w hr hc h
theorem dr_below {w w' : World} (h : Drawn0 w w') : Below w.heap.size w w' := by
  obtain ⟨n, rfl⟩ := h
  exact pw_below_drewN (Below.refl _ _) n
theorem right6_w {k : Nat} {l : List Int} {b : Bool} (h : stolonref06_Right.f k l = some b) (A : Option Addr) (c : Nat) (w : World) (hr : Kd.C (Kd.int .u32) w A l.length l) (hc : l.length ≤ c) :
    Calls Try.prog 9 #[.slice A l.length c] w fun x w' => x = .returned (.bool b) ∧ Below w.heap.size w w' := (stolonref06_Right.calls k A c l b w hr hc h).mono fun _ _ h => ⟨h.1, dr_below h.2⟩
theorem recs5_w {k n : Nat} {xs : List S36} {b : Bool} (hn : n = xs.length) (h : stolonref05_Recs.f k xs xs = some b) (A : Option Addr) (c : Nat) (B : Option Addr) (d : Nat) (w : World) (hr : Kd.C k36 w A n xs) (hc : n ≤ c) (hs : Kd.C k36 w B n xs) (hd : n ≤ d) :
    Calls Try.prog 22 #[.slice A n c, .slice B n d] w fun e w' => e = .returned (.bool b) ∧ Below w.heap.size w w' := by
  subst hn
  exact stolonref05_Recs.calls k A c xs B d xs b w hr hc hs hd h
end Go.Proofs.Ytjncmiclpaodhaa
