/- Texts of a claim. -/
import Derived.Test.YtjncmiclpaodhaaHoG
import Derived.Test.YtjncmiclpaodhaaHoK
import Derived.Test.YtjncmiclpaodhaaPHpa
import Derived.Test.YtjncmiclpaodhaaPHoy2
import Derived.Test.YtjncmiclpaodhaaHoW
import Derived.SizedLaws
import Derived.ChangeSlices
import Derived.ChangeArms
import Derived.Test.YtjncmiclpaodhaaVWords
-- written by a program of this session (hprint.py), over the kit's printer
namespace Go.Proofs.Ytjncmiclpaodhaa.PHo
open Go.RowKit Go.Proofs.YtjncmiclpaodhaaW.PrintWords Go.Proofs.YtjncmiclpaodhaaW.PrintLast Go.Proofs.YtjncmiclpaodhaaW.PrintMore
attribute [local go_sem] max2_int min2_int max_two min_two max_three min_three max_four min_four   -- for this text's walks alone
set_option linter.unusedVariables false
set_option linter.unusedSimpArgs false
/-! ### stolonlaw07_HostTwo: function 4 -/
end Go.Proofs.Ytjncmiclpaodhaa.PHo
/-
  HostTwo: two sockets put in any order, in plain words.
-/
namespace Go.Proofs.Ytjncmiclpaodhaa
open Go.RowKit Go.Proofs.YtjncmiclpaodhaaW.PrintWords Go.Proofs.Ytjncmiclpaodhaa.PHo
set_option linter.unusedVariables false
set_option linter.unusedSimpArgs false
theorem same6_some (a b : Bool) (l m : List Int) (hm : l.length ≤ 1000000000) (k : Nat) (hk : l.length < k) : stolonref06_Same.f k a l b m = some (decide (a = b) && decide (l = m)) := by
  unfold stolonref06_Same.f
  by_cases h : a = b
  · rw [if_pos (by simpa using h), rows_some l m hm k hk, decide_eq_true h]; rfl
  · rw [if_neg (by simpa using h), decide_eq_false h]; rfl
theorem same7_loop (l : List S42) (hl : ∀ s ∈ l, s.f2.f1.length ≤ 1000000) (hm : l.length ≤ 1000000) : ∀ n k (j : Nat), l.length ≤ j + n → n + 1000010 < k → stolonref07_Same.l0 k (j : Int) l l = some true := by
  intro n
  induction n with
  | zero =>
    intro k j hj hk
    obtain ⟨k, rfl⟩ : ∃ m, k = m + 1 := ⟨k - 1, by omega⟩
    rw [stolonref07_Same.l0, if_neg (by omega)]
  | succ n ih =>
    intro k j hj hk
    obtain ⟨k, rfl⟩ : ∃ m, k = m + 1 := ⟨k - 1, by omega⟩
    by_cases hlt : j < l.length
    case neg => rw [stolonref07_Same.l0, if_neg (by omega)]
    have e2 : wrap64 ((j : Int) + 1) = ((j + 1 : Nat) : Int) := step64 j (by omega)
    have hs := hl _ (List.getElem_mem hlt)
    rw [stolonref07_Same.l0, if_pos (by omega), if_pos (by omega), if_pos (by omega), rd42 l j hlt, same6_some _ _ _ _ (by omega) k (by omega), Option.bind_some, if_pos (by simp), if_pos rfl, if_pos rfl, e2]
    exact ih k (j + 1) (by omega) (by omega)
theorem same7_same (l : List S42) (hl : HOk l) (k : Nat) (hk : 1000100 ≤ k) : stolonref07_Same.f k l l = some true := by
  have h1 := hl.1
  unfold stolonref07_Same.f
  rw [if_pos rfl]
  exact same7_loop l (fun s hs => by have := (hl.fok s hs).2; omega) (by omega) l.length k 0 (by omega) (by omega)
theorem mem_put {l : List S42} {s x : S42} (hne : x.f0 ≠ s.f0) : x ∈ putL l s ↔ x ∈ l := by
  unfold putL
  split
  · rw [mem_ins]
    exact ⟨fun h => Or.elim h (fun e => absurd (by rw [e]) hne) (fun h => h.1), fun h => .inr ⟨h, hne⟩⟩
  · exact Iff.rfl
theorem has_put {l : List S42} {s : S42} {id : Int} (hne : id ≠ s.f0) : hasS (putL l s) id = hasS l id := by
  rw [Bool.eq_iff_iff, hasS_iff, hasS_iff]
  constructor
  · rintro ⟨x, hx, rfl⟩; exact ⟨x, (mem_put hne).1 hx, rfl⟩
  · rintro ⟨x, hx, rfl⟩; exact ⟨x, (mem_put hne).2 hx, rfl⟩
theorem clash_put {l : List S42} {s t : S42} (hne : t.f0 ≠ s.f0) : clash (putL l s) t = clash l t := by
  rw [Bool.eq_iff_iff, clash_iff, clash_iff]
  constructor
  · rintro ⟨x, hx, h1, h2⟩; exact ⟨x, (mem_put (by rw [h1]; exact hne)).1 hx, h1, h2⟩
  · rintro ⟨x, hx, h1, h2⟩; exact ⟨x, (mem_put (by rw [h1]; exact hne)).2 hx, h1, h2⟩
theorem len_put {l : List S42} (hl : HOk l) (s : S42) : (putL l s).length ≤ l.length + 1 := by
  unfold putL
  split
  · cases h : hasS l s.f0
    · rw [ins_len_new hl.2.1 h]; exact Nat.le_refl _
    · rw [ins_len_has hl.2.1 h]; omega
  · omega
theorem putE_put {l : List S42} (hl : HOk l) (h30 : l.length ≤ 30) {s t : S42} (hne : t.f0 ≠ s.f0) : putE (putL l s) t = putE l t := by
  have := len_put hl s
  unfold putE
  rw [clash_put hne, has_put hne]
  split
  · rfl
  · rw [if_neg (by omega), if_neg (by omega)]
theorem put_yes {l : List S42} {s : S42} (h : putE l s = 0) : putL l s = insS l s := if_pos h
theorem put_no {l : List S42} {s : S42} (h : ¬ putE l s = 0) : putL l s = l := if_neg h
theorem put_comm {l : List S42} (hl : HOk l) (h30 : l.length ≤ 30) {s t : S42} (hne : s.f0 ≠ t.f0) : putL (putL l s) t = putL (putL l t) s := by
  have e1 := putE_put hl h30 (s := s) (t := t) (Ne.symm hne)
  have e2 := putE_put hl h30 (s := t) (t := s) hne
  by_cases hs : putE l s = 0
  · have a1 : putL l s = insS l s := put_yes hs
    by_cases ht : putE l t = 0
    · have a2 : putL l t = insS l t := put_yes ht
      have b1 : putL (putL l s) t = insS (putL l s) t := put_yes (e1.trans ht)
      have b2 : putL (putL l t) s = insS (putL l t) s := put_yes (e2.trans hs)
      rw [b1, b2, a1, a2]
      refine sorted_ext (ins_sorted (ins_sorted hl.2.1 s) t) (ins_sorted (ins_sorted hl.2.1 t) s) fun x => ?_
      rw [mem_ins, mem_ins, mem_ins, mem_ins]
      constructor
      · rintro (rfl | ⟨rfl | ⟨h1, h2⟩, h3⟩)
        · exact .inr ⟨.inl rfl, Ne.symm hne⟩
        · exact .inl rfl
        · exact .inr ⟨.inr ⟨h1, h3⟩, h2⟩
      · rintro (rfl | ⟨rfl | ⟨h1, h2⟩, h3⟩)
        · exact .inr ⟨.inl rfl, hne⟩
        · exact .inl rfl
        · exact .inr ⟨.inr ⟨h1, h3⟩, h2⟩
    · have a2 : putL l t = l := put_no ht
      have b1 : putL (putL l s) t = putL l s := put_no (by rw [e1]; exact ht)
      rw [b1, a2]
  · have a1 : putL l s = l := put_no hs
    have b2 : putL (putL l t) s = putL l t := put_no (by rw [e2]; exact hs)
    rw [b2, a1]
end Go.Proofs.Ytjncmiclpaodhaa
/-
  HostStays, joined: the walk and what it computes.
-/
namespace Go.Proofs.Ytjncmiclpaodhaa
open Go.RowKit Go.Proofs.YtjncmiclpaodhaaW.PrintWords Go.Proofs.Ytjncmiclpaodhaa.PHo
set_option linter.unusedVariables false
set_option linter.unusedSimpArgs false
theorem mns_self {a : List Int} (h : Rise a) : mns a a = [] := by
  rw [List.eq_nil_iff_forall_not_mem]
  intro x hx
  have := (mns_mem h h x).1 hx
  exact this.2 this.1
/-- Of no change nothing is said. -/
theorem chg_self (g : Int) (a : Bool × List Int) (h : Rise a.2) : chg g a a = [] := by
  unfold chg hc_sel
  rw [mns_self h, if_pos rfl]
  cases a.1 <;> rfl
theorem ins_again {l : List S42} (hs : Sorted l) (s : S42) : insS (insS l s) s = insS l s := by
  refine sorted_ext (ins_sorted (ins_sorted hs s) s) (ins_sorted hs s) fun x => ?_
  rw [mem_ins, mem_ins]
  constructor
  · rintro (h | ⟨h | h, h2⟩)
    · exact .inl h
    · exact .inl h
    · exact .inr h
  · rintro (h | h)
    · exact .inl h
    · exact .inr ⟨.inr h, h.2⟩
theorem has_ins (l : List S42) (s : S42) : hasS (insS l s) s.f0 = true := hasS_iff.2 ⟨s, mem_ins.2 (.inl rfl), rfl⟩
theorem put_again {l : List S42} (hl : HOk l) {s : S42} (h : putE l s = 0) : putE (insS l s) s = 0 ∧ putL (insS l s) s = insS l s ∧ putR (insS l s) s = [] := by
  have hla := ins_ok hl h
  have hcl : clash (insS l s) s = false := by
    cases c : clash (insS l s) s
    · rfl
    · obtain ⟨x, hx, h1, h2⟩ := clash_iff.1 c
      rcases mem_ins.1 hx with rfl | ⟨_, h3⟩
      · exact absurd rfl h2
      · exact absurd h1 h3
  have he : putE (insS l s) s = 0 := by
    unfold putE
    rw [if_neg (by rw [(putE_ok h).1, hcl]; simp), if_neg (by rw [has_ins]; simp)]
  refine ⟨he, ?_, ?_⟩
  · unfold putL
    rw [if_pos he, ins_again hl.2.1 s]
  · unfold putR
    rw [if_pos he, ins_again hl.2.1 s, chg_self _ _ (wnt_ok hla.1 hla.fok s.f1).1]
theorem del_ins {l : List S42} (hs : Sorted l) {s : S42} (h : hasS l s.f0 = false) : delS (insS l s) s.f0 = l := by
  refine sorted_ext (del_sorted (ins_sorted hs s) s.f0) hs fun x => ?_
  rw [mem_del, mem_ins]
  constructor
  · rintro ⟨rfl | h1, h2⟩
    · exact absurd rfl h2
    · exact h1.1
  · intro hx
    have hne : x.f0 ≠ s.f0 := fun e => by rw [hasS_iff.2 ⟨x, hx, e⟩] at h; cases h
    exact ⟨.inr ⟨hx, hne⟩, hne⟩
theorem right7_yes {l : List S42} (hl : HOk l) (k : Nat) (hk : 1000 ≤ k) : stolonref07_Right.f k l = some true := by
  obtain ⟨b, h1, h2⟩ := right7_ok l (by have := hl.1; omega) k hk
  rw [h1, h2.2 hl]
theorem hostStays_call {l : List S42} (hm : l.length ≤ 140737488351232) (hs : ∀ s ∈ l, s.f2.f1.length ≤ 140737488351232) (s : S42) (A_l : Option Addr) (c_l : Nat) (A_s : Option Addr) (c_s : Nat) (w : World) (hr : Kd.C k42 w A_l l.length l) (hc : l.length ≤ c_l) (hsr : Kd.C (Kd.int .u32) w A_s s.f2.f1.length s.f2.f1) (hsc : s.f2.f1.length ≤ c_s) :
    Calls Try.prog 6 #[.agg #[.slice A_l l.length c_l], .agg #[.int .i64 s.f0, .int .u32 s.f1, .bool s.f2.f0, .slice A_s s.f2.f1.length c_s]] w fun e w' => e = .returned (.bool true) ∧ Below w.heap.size w w' := by
  obtain ⟨b, hf, hf2⟩ := few_some l hm hs 2000000 (by decide)
  cases b
  · exact stays_few hf A_l c_l A_s c_s w hr hc hsr hsc
  obtain ⟨b, hg, hg2⟩ := right7_ok l (hf2 rfl) 2000000 (by decide)
  cases b
  · exact stays_wrong hf hg A_l c_l A_s c_s w hr hc hsr hsc
  have hl := hg2.1 rfl
  by_cases hL : (100 : Int) < (s.f2.f1.length : Int)
  · exact stays_long hf hg hL A_l c_l A_s c_s w hr hc hsr hsc
  have hm2 : s.f2.f1.length ≤ 1000000 := by omega
  by_cases h3 : putE l s = 0
  · have h1 : putL l s = insS l s := put_yes h3
    have hla := ins_ok hl h3
    obtain ⟨h6, h4, h5⟩ := put_again hl h3
    have hd := has_ins l s
    refine stays_main hf hg hL hl hm2 h1 rfl h3 hla h4 (by rw [h5]; rfl) h6 (lc := delS (insS l s) s.f0) (by unfold dropL; rw [if_pos hd]) rfl (by unfold dropE; rw [if_pos hd]) (right7_yes hla _ (by decide)) (same7_same _ hla _ (by decide)) (right7_yes (del_ok hla s.f0) _ (by decide)) (bw := hasS l s.f0) rfl (fun hb => ?_) (by have := hl.1; omega) A_l c_l A_s c_s w hr hc hsr hsc
    rw [del_ins hl.2.1 hb]
    exact same7_same _ hl _ (by decide)
  · have h1 : putL l s = l := put_no h3
    refine stays_err hf hg hL hl hm2 h1 (n := 0) ?_ (e := putE l s) rfl (same7_same _ hl _ (by decide)) rfl (beq_eq_false_iff_ne.2 h3) A_l c_l A_s c_s w hr hc hsr hsc
    unfold putR
    rw [if_neg h3]; rfl
end Go.Proofs.Ytjncmiclpaodhaa
/-
  What a law's row hands over, read as the printed functions read it: for any kind built of numbers, truths, texts, slices and structs. By a session.
-/
namespace Go.Proofs.Ytjncmiclpaodhaa
open Go.ChangeShapes Go.WideShapes Go.RowKit Go.Proofs.YtjncmiclpaodhaaW.PrintWords

/-- What is trod and is light enough is read, and keeps the bounds WF. -/
def Opens {α : Type} (H : Type) (P : Program) (t : TypeId) (d : Kd α) (WF : α → Prop) : Prop :=
  ∀ {enc : TypeId × Value → H} {w : World} {fuel : Nat} {cs : List Value} {x : DataW H} {ps : List MemPlace},
    DataW.trod enc P w 0 (fun _ => true) true fuel t cs = some (x, ps) → (∀ n ∈ x.weights P t, n ≤ reachBytes) → ∃ a, d.K w a cs ∧ WF a

section
variable {H : Type} {P : Program} {t e : TypeId}
theorem opens_int {k : IntKind} (ht : P.underlying t = some (.int k)) : Opens H P t (Kd.int k) (fun a => (Lit.int k a).wf = true) := by
  intro enc w fuel cs x ps h _
  obtain ⟨n, rfl, _, hw⟩ := DataW.trod_int ht h
  exact ⟨n, rfl, hw⟩
theorem opens_bool (ht : P.underlying t = some .bool) : Opens H P t Kd.bool (fun _ => True) := by
  intro enc w fuel cs x ps h _
  obtain ⟨b, rfl, _⟩ := DataW.trod_bool ht h
  exact ⟨b, rfl, trivial⟩
theorem weights_all {l : List (DataW H)} {y : DataW H} (h : y ∈ l) : ∀ n ∈ y.weights P e, n ∈ DataW.weightsAll P e l := by
  induction l with
  | nil => simp at h
  | cons z l ih =>
    intro n hn
    rw [DataW.weightsAll, List.mem_append]
    rcases List.mem_cons.1 h with rfl | h
    · exact .inl hn
    · exact .inr (ih h n hn)

theorem mapM_get {α β : Type} {f : α → Option β} : ∀ {l : List α} {r : List β}, l.mapM f = some r → ∀ (i : Nat) (x : α), l[i]? = some x → f x = r[i]?
  | [], r, h, i, x, hx => by simp at hx
  | y :: l, r, h, i, x, hx => by
    rw [List.mapM_cons] at h
    simp only [Option.bind_eq_bind, Option.bind_eq_some_iff, Option.pure_def, Option.some.injEq] at h
    obtain ⟨z, hz, r', hr, rfl⟩ := h
    cases i with
    | zero => simp at hx; subst hx; simpa using hz
    | succ i => simp at hx; simpa using mapM_get hr i x hx
theorem mapM_len {α β : Type} {f : α → Option β} : ∀ {l : List α} {r : List β}, l.mapM f = some r → r.length = l.length
  | [], r, h => by simp at h; subst h; rfl
  | y :: l, r, h => by
    rw [List.mapM_cons] at h
    simp only [Option.bind_eq_bind, Option.bind_eq_some_iff, Option.pure_def, Option.some.injEq] at h
    obtain ⟨z, hz, r', hr, rfl⟩ := h
    simp [mapM_len hr]
theorem cells_get {w : World} {base : Nat} {a : Addr} {n : Nat} {cs : List Value} (h : w.cells? base a n = some cs) : cs.length = n ∧ ∀ i u, cs[i]? = some u → w.cell? (a.add i) = some u := by
  unfold World.cells? at h
  split at h
  · have hl := mapM_len h
    rw [List.length_range] at hl
    refine ⟨hl, fun i u hu => ?_⟩
    have hi : i < n := by rw [← hl]; exact (List.getElem?_eq_some_iff.1 hu).1
    rw [mapM_get h i i (by simp [hi]), hu]
  · cases h
theorem opens_slice {α : Type} {d : Kd α} {WF : α → Prop} (ht : P.underlying t = some (.slice e)) (hd : P.cellsOf e = d.sz) (he : Opens H P e d WF) :
    Opens H P t (Kd.slice e d) (fun xs => xs.length ≤ maxLen ∧ xs.length * P.bytesOf e ≤ reachBytes ∧ ∀ a ∈ xs, WF a) := by
  intro enc w fuel cs x ps h hw
  rcases DataW.trod_slice ht h with ⟨rfl, hx⟩ | ⟨a, len, cap, elems, rest, n, _, rfl, hx, _, hl, hm, hlen, hel, hsp, _⟩
  · exact ⟨[], ⟨none, 0, rfl, Nat.le_refl _, rfl, by simp, by simp⟩, by simp, by simp, by simp⟩
  · cases hx
    have hwt := hw ((elems.length + rest.length) * P.bytesOf e) (by simp [DataW.weights, ht])
    have each : ∀ i (hi : i < len), ∃ y : α, ∃ c : List Value, c.length = d.sz ∧ d.K w y c ∧ WF y ∧ ∀ j u, c[j]? = some u → w.cell? (a.add (i * d.sz + j)) = some u := by
      intro i hi
      have h1 := hel i hi
      rw [List.getElem?_eq_getElem (by omega), Option.bind_eq_some_iff] at h1
      obtain ⟨c, hc, hy⟩ := h1
      obtain ⟨hcl, hcc⟩ := cells_get hc
      obtain ⟨y, hk, hwf⟩ := he hy (fun n hn => hw n (by
        simp only [DataW.weights, ht, List.mem_cons, List.mem_append]
        exact .inr (.inl (weights_all (List.mem_map.2 ⟨elems[i], List.getElem_mem _, rfl⟩) n hn))))
      refine ⟨y, c, by rw [hcl, hd], hk, hwf, fun j u hu => ?_⟩
      have := hcc j u hu
      rwa [hd, add_add] at this
    have pick : ∃ ys : List α, ys.length = len ∧ ∀ i (y : α), ys[i]? = some y → ∃ c : List Value, c.length = d.sz ∧ d.K w y c ∧ WF y ∧ ∀ j u, c[j]? = some u → w.cell? (a.add (i * d.sz + j)) = some u := by
      clear hel hsp hw hwt hl hlen h
      induction len with
      | zero => exact ⟨[], rfl, fun i y h => by simp at h⟩
      | succ m ih =>
        obtain ⟨ys, hys, hyc⟩ := ih (fun i hi => each i (by omega))
        obtain ⟨y, hy⟩ := each m (by omega)
        refine ⟨ys ++ [y], by simp [hys], fun i z hz => ?_⟩
        rcases Nat.lt_or_ge i ys.length with h | h
        · rw [List.getElem?_append_left h] at hz
          exact hyc i z hz
        · rw [List.getElem?_append_right h] at hz
          have : i = m := by
            have := (List.getElem?_eq_some_iff.1 hz).1
            simp at this; omega
          subst this
          rw [hys, Nat.sub_self] at hz
          simp at hz
          subst hz
          exact hy
    obtain ⟨ys, hys, hyc⟩ := pick
    subst hys
    refine ⟨ys, ⟨some a, cap, rfl, hl, rfl, Nat.le_trans (Nat.le_trans hl hm) (by simp [maxLen]), fun _ => ⟨a, rfl, fun j p hp => ?_⟩⟩, Nat.le_trans hl hm, ?_, ?_⟩
    · obtain ⟨c, h1, h2, _, h3⟩ := hyc j p hp
      exact ⟨c, h1, h2, h3⟩
    · exact Nat.le_trans (Nat.mul_le_mul_right _ (by omega)) hwt
    · intro y hy
      obtain ⟨i, hi⟩ := List.getElem?_of_mem hy
      obtain ⟨c, _, _, hwf, _⟩ := hyc i y hi
      exact hwf

/-- A struct's fields from one on. -/
def OpensFs {α : Type} (H : Type) (P : Program) (fs : List Field) (off : Nat) (d : Kd α) (WF : α → Prop) : Prop :=
  ∀ {enc : TypeId × Value → H} {w : World} {fuel : Nat} {cs : List Value} {xs : List (DataW H × List MemPlace)},
    xs.length = fs.length → (∀ (i : Nat) (f : Field), fs[i]? = some f → DataW.trod enc P w 0 (fun _ => true) true fuel f.type ((cs.drop f.offset).take (P.cellsOf f.type)) = xs[i]?) →
    cs.length = off + d.sz → (∀ n ∈ DataW.weightsEach P (fs.map (·.type)) (xs.map (·.1)), n ≤ reachBytes) → ∃ a, d.K w a (cs.drop off) ∧ WF a

theorem opens_last {α : Type} {d : Kd α} {WF : α → Prop} {f : Field} {off : Nat} (ho : f.offset = off) (hc : P.cellsOf f.type = d.sz) (hf : Opens H P f.type d WF) : OpensFs H P [f] off d WF := by
  intro enc w fuel cs xs hl hx hcs hw
  obtain ⟨x, rfl⟩ : ∃ x, xs = [x] := by
    match xs, hl with
    | [x], _ => exact ⟨x, rfl⟩
  have h := hx 0 f rfl
  rw [ho, hc, List.take_of_length_le (by simp; omega)] at h
  exact hf (x := x.1) (ps := x.2) h (fun n hn => hw n (by simp [DataW.weightsEach]; exact hn))
theorem opens_cons {α β : Type} {d : Kd α} {d' : Kd β} {WF : α → Prop} {WF' : β → Prop} {f : Field} {fs : List Field} {off : Nat} (ho : f.offset = off) (hc : P.cellsOf f.type = d.sz) (hf : Opens H P f.type d WF)
    (hfs : OpensFs H P fs (off + d.sz) d' WF') : OpensFs H P (f :: fs) off (Kd.pair d d') (fun x => WF x.1 ∧ WF' x.2) := by
  intro enc w fuel cs xs hl hx hcs hw
  obtain ⟨x, xs, rfl⟩ : ∃ x r, xs = x :: r := by
    match xs, hl with
    | x :: r, _ => exact ⟨x, r, rfl⟩
  have h := hx 0 f rfl
  rw [ho, hc] at h
  obtain ⟨a, ha, hwa⟩ := hf (x := x.1) (ps := x.2) h (fun n hn => hw n (by simp only [List.map_cons, DataW.weightsEach, List.mem_append]; exact .inl hn))
  obtain ⟨b, hb, hwb⟩ := hfs (cs := cs) (xs := xs) (fuel := fuel) (enc := enc) (w := w) (by simpa using hl) (fun i g hg => by have := hx (i + 1) g (by simpa using hg); simpa using this) (by rw [hcs]; exact (Nat.add_assoc _ _ _).symm)
    (fun n hn => hw n (by simp only [List.map_cons, DataW.weightsEach, List.mem_append]; exact .inr hn))
  refine ⟨(a, b), ⟨(cs.drop off).take d.sz, cs.drop (off + d.sz), ?_, ha, hb⟩, hwa, hwb⟩
  rw [← List.drop_drop, List.take_append_drop]
theorem opens_struct {α : Type} {d : Kd α} {WF : α → Prop} {fs : Array Field} (ht : P.underlying t = some (.struct fs)) (hc : P.cellsOf t = d.sz) (hfs : OpensFs H P fs.toList 0 d WF) : Opens H P t d WF := by
  intro enc w fuel cs x ps h hw
  obtain ⟨xs, n, _, hx, hl, hlx, hf⟩ := DataW.trod_struct ht h
  cases hx
  obtain ⟨a, ha, hwa⟩ := hfs (cs := cs) (xs := xs) (fuel := n) (enc := enc) (w := w) (by simpa using hlx) (fun i f hi => hf i f (by simpa using hi)) (by rw [hl, hc]; simp) (fun m hm => hw m (by simpa [DataW.weights, ht] using hm))
  exact ⟨a, by simpa using ha, hwa⟩
theorem opens_iso {α β : Type} {d : Kd α} {WF : α → Prop} {f : β → α} (g : α → β) (hg : ∀ a, f (g a) = a) (h : Opens H P t d WF) : Opens H P t (Kd.iso d f) (fun b => WF (f b)) := by
  intro enc w fuel cs x ps hx hw
  obtain ⟨a, ha, hwa⟩ := h hx hw
  exact ⟨g a, by show d.K w (f (g a)) cs; rw [hg]; exact ha, by show WF (f (g a)); rw [hg]; exact hwa⟩
/-- For a row's j-th argument. -/
theorem Opens.row {α : Type} {d : Kd α} {WF : α → Prop} (h : Opens H P t d WF) {enc : TypeId × Value → H} {W : World} {ts : List TypeId} {ds : List (DataW H)} {j : Nat} {v : Value} {x : DataW H} {ps : List MemPlace}
    (hsz : (DataW.weightsEach P ts ds).all (· ≤ reachBytes) = true) (ht : ts[j]? = some t) (hd : ds[j]? = some x) (hv : DataW.Trod enc P W 0 (fun _ => true) true t v x ps) : ∃ a, d.K W a v.cells.toList ∧ WF a := by
  obtain ⟨fuel, hf⟩ := hv
  refine h hf fun n hn => ?_
  have := List.all_eq_true.1 hsz _ (DataW.weights_mem_each ht hd n hn)
  simpa using this
end
end Go.Proofs.Ytjncmiclpaodhaa
