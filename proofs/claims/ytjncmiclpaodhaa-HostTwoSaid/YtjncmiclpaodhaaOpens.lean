/-
  HostTwo: two sockets put in any order, in plain words.
-/
import Derived.Test.YtjncmiclpaodhaaPHpb
import Derived.SizedLaws
import Derived.ChangeSlices
import Derived.ChangeArms
import Derived.Test.YtjncmiclpaodhaaVWords
namespace Go.Proofs.Ytjncmiclpaodhaa
open Go.RowKit Go.Proofs.YtjncmiclpaodhaaW.PrintWords Go.Proofs.Ytjncmiclpaodhaa.PHo
set_option linter.unusedVariables false
set_option linter.unusedSimpArgs false
theorem same6_some (a b : Bool) (l m : List Int) (hm : l.length ≤ 1000000000) (k : Nat) (hk : l.length < k) : stolonref06_Same.f k a l b m = some (decide (a = b) && decide (l = m)) := by
  unfold stolonref06_Same.f
  by_cases h : a = b
  · rw [if_pos (by simpa using h), rows_some l m hm k hk, decide_eq_true h]; rfl
  · rw [if_neg (by simpa using h), decide_eq_false h]; rfl
theorem same7_loop (l : List S42) (hl : ∀ s ∈ l, s.f2.f1.length ≤ 1000000) (hm : l.length ≤ 1000000) : ∀ n k (j : Nat), l.length ≤ j + n → n + 1000010 < k → stolonref07_Same.l0 k (j : Int) l l = some true := by
  intro n
  induction n with
  | zero =>
    intro k j hj hk
    obtain ⟨k, rfl⟩ : ∃ m, k = m + 1 := ⟨k - 1, by omega⟩
    rw [stolonref07_Same.l0, if_neg (by omega)]
  | succ n ih =>
    intro k j hj hk
    obtain ⟨k, rfl⟩ : ∃ m, k = m + 1 := ⟨k - 1, by omega⟩
    by_cases hlt : j < l.length
    case neg => rw [stolonref07_Same.l0, if_neg (by omega)]
    have e2 : wrap64 ((j : Int) + 1) = ((j + 1 : Nat) : Int) := step64 j (by omega)
    have hs := hl _ (List.getElem_mem hlt)
    rw [stolonref07_Same.l0, if_pos (by omega), if_pos (by omega), if_pos (by omega), rd42 l j hlt, same6_some _ _ _ _ (by omega) k (by omega), Option.bind_some, if_pos (by simp), if_pos rfl, if_pos rfl, e2]
    exact ih k (j + 1) (by omega) (by omega)
theorem same7_same (l : List S42) (hl : HOk l) (k : Nat) (hk : 1000100 ≤ k) : stolonref07_Same.f k l l = some true := by
  have h1 := hl.1
  unfold stolonref07_Same.f
  rw [if_pos rfl]
  exact same7_loop l (fun s hs => by have := (hl.fok s hs).2; omega) (by omega) l.length k 0 (by omega) (by omega)
theorem mem_put {l : List S42} {s x : S42} (hne : x.f0 ≠ s.f0) : x ∈ putL l s ↔ x ∈ l := by
  unfold putL
  split
  · rw [mem_ins]
    exact ⟨fun h => Or.elim h (fun e => absurd (by rw [e]) hne) (fun h => h.1), fun h => .inr ⟨h, hne⟩⟩
  · exact Iff.rfl
theorem has_put {l : List S42} {s : S42} {id : Int} (hne : id ≠ s.f0) : hasS (putL l s) id = hasS l id := by
  rw [Bool.eq_iff_iff, hasS_iff, hasS_iff]
  constructor
  · rintro ⟨x, hx, rfl⟩; exact ⟨x, (mem_put hne).1 hx, rfl⟩
  · rintro ⟨x, hx, rfl⟩; exact ⟨x, (mem_put hne).2 hx, rfl⟩
theorem clash_put {l : List S42} {s t : S42} (hne : t.f0 ≠ s.f0) : clash (putL l s) t = clash l t := by
  rw [Bool.eq_iff_iff, clash_iff, clash_iff]
  constructor
  · rintro ⟨x, hx, h1, h2⟩; exact ⟨x, (mem_put (by rw [h1]; exact hne)).1 hx, h1, h2⟩
  · rintro ⟨x, hx, h1, h2⟩; exact ⟨x, (mem_put (by rw [h1]; exact hne)).2 hx, h1, h2⟩
theorem len_put {l : List S42} (hl : HOk l) (s : S42) : (putL l s).length ≤ l.length + 1 := by
  unfold putL
  split
  · cases h : hasS l s.f0
    · rw [ins_len_new hl.2.1 h]; exact Nat.le_refl _
    · rw [ins_len_has hl.2.1 h]; omega
  · omega
theorem putE_put {l : List S42} (hl : HOk l) (h30 : l.length ≤ 30) {s t : S42} (hne : t.f0 ≠ s.f0) : putE (putL l s) t = putE l t := by
  have := len_put hl s
  unfold putE
  rw [clash_put hne, has_put hne]
  split
  · rfl
  · rw [if_neg (by omega), if_neg (by omega)]
theorem put_yes {l : List S42} {s : S42} (h : putE l s = 0) : putL l s = insS l s := if_pos h
theorem put_no {l : List S42} {s : S42} (h : ¬ putE l s = 0) : putL l s = l := if_neg h
theorem put_comm {l : List S42} (hl : HOk l) (h30 : l.length ≤ 30) {s t : S42} (hne : s.f0 ≠ t.f0) : putL (putL l s) t = putL (putL l t) s := by
  have e1 := putE_put hl h30 (s := s) (t := t) (Ne.symm hne)
  have e2 := putE_put hl h30 (s := t) (t := s) hne
  by_cases hs : putE l s = 0
  · have a1 : putL l s = insS l s := put_yes hs
    by_cases ht : putE l t = 0
    · have a2 : putL l t = insS l t := put_yes ht
      have b1 : putL (putL l s) t = insS (putL l s) t := put_yes (e1.trans ht)
      have b2 : putL (putL l t) s = insS (putL l t) s := put_yes (e2.trans hs)
      rw [b1, b2, a1, a2]
      refine sorted_ext (ins_sorted (ins_sorted hl.2.1 s) t) (ins_sorted (ins_sorted hl.2.1 t) s) fun x => ?_
      rw [mem_ins, mem_ins, mem_ins, mem_ins]
      constructor
      · rintro (rfl | ⟨rfl | ⟨h1, h2⟩, h3⟩)
        · exact .inr ⟨.inl rfl, Ne.symm hne⟩
        · exact .inl rfl
        · exact .inr ⟨.inr ⟨h1, h3⟩, h2⟩
      · rintro (rfl | ⟨rfl | ⟨h1, h2⟩, h3⟩)
        · exact .inr ⟨.inl rfl, hne⟩
        · exact .inl rfl
        · exact .inr ⟨.inr ⟨h1, h3⟩, h2⟩
    · have a2 : putL l t = l := put_no ht
      have b1 : putL (putL l s) t = putL l s := put_no (by rw [e1]; exact ht)
      rw [b1, a2]
  · have a1 : putL l s = l := put_no hs
    have b2 : putL (putL l t) s = putL l t := put_no (by rw [e2]; exact hs)
    rw [b2, a1]
/-- A socket of another group changes nothing. -/
theorem fil_ins {l : List S42} (hl : Sorted l) {s : S42} (hc : clash l s = false) {g : Int} (hg : s.f1 ≠ g) : fil (insS l s) g = fil l g := by
  have e1 : (insS l s).filter (fun x => decide (x.f1 = g)) = (ltS l s.f0).filter (fun x => decide (x.f1 = g)) ++ (gtS l s.f0).filter (fun x => decide (x.f1 = g)) := by
    unfold insS
    rw [List.filter_append, List.filter_append, List.filter_cons_of_neg (by simpa using hg), List.filter_nil, List.append_nil]
  have e2 : l.filter (fun x => decide (x.f1 = g)) = (ltS l s.f0).filter (fun x => decide (x.f1 = g)) ++ (gtS l s.f0).filter (fun x => decide (x.f1 = g)) := by
    cases h : hasS l s.f0
    · have h2 := split_no hl (id := s.f0) (fun x hx e => by rw [hasS_iff.2 ⟨x, hx, e⟩] at h; cases h)
      conv => lhs; rw [h2]
      rw [List.filter_append]
    · obtain ⟨x, hx, he⟩ := hasS_iff.1 h
      have h2 := split_at hl hx
      rw [he] at h2
      have hxg : x.f1 ≠ g := fun e => by
        by_cases h3 : x.f1 = s.f1
        · exact hg (h3.symm.trans e)
        · rw [clash_iff.2 ⟨x, hx, he, h3⟩] at hc; cases hc
      conv => lhs; rw [h2]
      rw [List.filter_append, List.filter_append, List.filter_cons_of_neg (by simpa using hxg), List.filter_nil, List.append_nil]
  unfold fil
  rw [e1, e2]
theorem wnt_put {l : List S42} (hl : Sorted l) (s : S42) {g : Int} (hg : s.f1 ≠ g) : wnt (putL l s) g = wnt l g := by
  unfold putL
  split
  · rename_i h
    unfold wnt
    rw [fil_ins hl (putE_ok h).2.1 hg]
  · rfl
theorem hput_some {l : List S42} (hl : HOk l) (s : S42) (hm : s.f2.f1.length ≤ 1000000) : host_Put.f l s.f0 s.f1 s.f2.f0 s.f2.f1 = some (putL l s, putR l s, putE l s) := by
  unfold host_Put.f
  rw [if_pos ⟨hl, hm⟩]
theorem hostTwo_pure (l : List S42) (hm : l.length ≤ 140737488351232) (hs : ∀ s ∈ l, s.f2.f1.length ≤ 140737488351232) (s t : S42) (h1 : s.f2.f1.length ≤ 140737488351232) (h2 : t.f2.f1.length ≤ 140737488351232) : ∃ k, stolonlaw07_HostTwo.f k l s.f0 s.f1 s.f2.f0 s.f2.f1 t.f0 t.f1 t.f2.f0 t.f2.f1 = some true := by
  refine ⟨2000000, ?_⟩
  unfold stolonlaw07_HostTwo.f
  rw [show stolonlaw07_shown.f = some true from rfl, Option.bind_some, w64 (by omega) (by omega)]
  have jt : stolonlaw07_HostTwo.j0 2000000 true true l s.f0 s.f1 s.f2.f0 s.f2.f1 t.f0 t.f1 t.f2.f0 t.f2.f1 = some true := by rw [stolonlaw07_HostTwo.j0, if_pos rfl]
  obtain ⟨b, hf, hf2⟩ := few_some l hm hs 2000000 (by decide)
  rw [hf, Option.bind_some]
  cases b
  · rw [if_neg (by decide), jt]
  rw [if_pos rfl]
  obtain ⟨b, hg, hg2⟩ := right7_ok l (hf2 rfl) 2000000 (by decide)
  rw [hg, Option.bind_some]
  cases b
  · rw [if_neg (by decide), jt]
  rw [if_pos rfl]
  have hl := hg2.1 rfl
  by_cases c1 : (l.length : Int) > 30
  · rw [if_pos c1, jt]
  rw [if_neg c1]
  by_cases c2 : s.f0 = t.f0
  · rw [if_pos c2, jt]
  rw [if_neg c2]
  by_cases c3 : (s.f2.f1.length : Int) + (t.f2.f1.length : Int) > 100
  · rw [decide_eq_true c3, jt]
  rw [decide_eq_false c3, stolonlaw07_HostTwo.j0, if_neg (by decide)]
  have h30 : l.length ≤ 30 := by omega
  have ha := put_ok hl s
  have hb := put_ok hl t
  have e1 := putE_put hl h30 (s := s) (t := t) (Ne.symm c2)
  have e2 := putE_put hl h30 (s := t) (t := s) c2
  have e3 := put_comm hl h30 c2
  rw [hput_some hl s (by omega), Option.bind_some, hput_some ha t (by omega), Option.bind_some, hput_some hl t (by omega), Option.bind_some, hput_some hb s (by omega), Option.bind_some]
  simp only
  rw [e1, e2, if_pos rfl, if_pos rfl, e3, same7_same _ (put_ok hb s) _ (by decide), Option.bind_some, stolonlaw07_HostTwo.j1, if_neg (by decide), if_pos rfl]
  by_cases c4 : s.f1 = t.f1
  · rw [if_pos c4]
  rw [if_neg c4, wants7_some ha.1 ha.fok _ _ (by decide), Option.bind_some, wants7_some hl.1 hl.fok _ _ (by decide), Option.bind_some, wnt_put hl.2.1 s c4, same6_some _ _ _ _ (by have := (wnt_ok hl.1 hl.fok t.f1).2; omega) _ (by have := (wnt_ok hl.1 hl.fok t.f1).2; omega), Option.bind_some]
  simp
end Go.Proofs.Ytjncmiclpaodhaa
/-
  What a law's row hands over, read as the printed functions read it: for any kind built of numbers, truths, texts, slices and structs. By a session.
-/
namespace Go.Proofs.Ytjncmiclpaodhaa
open Go.ChangeShapes Go.WideShapes Go.RowKit Go.Proofs.YtjncmiclpaodhaaW.PrintWords

/-- What is trod and is light enough is read, and keeps the bounds WF. -/
def Opens {α : Type} (H : Type) (P : Program) (t : TypeId) (d : Kd α) (WF : α → Prop) : Prop :=
  ∀ {enc : TypeId × Value → H} {w : World} {fuel : Nat} {cs : List Value} {x : DataW H} {ps : List MemPlace},
    DataW.trod enc P w 0 (fun _ => true) true fuel t cs = some (x, ps) → (∀ n ∈ x.weights P t, n ≤ reachBytes) → ∃ a, d.K w a cs ∧ WF a

section
variable {H : Type} {P : Program} {t e : TypeId}
theorem opens_int {k : IntKind} (ht : P.underlying t = some (.int k)) : Opens H P t (Kd.int k) (fun a => (Lit.int k a).wf = true) := by
  intro enc w fuel cs x ps h _
  obtain ⟨n, rfl, _, hw⟩ := DataW.trod_int ht h
  exact ⟨n, rfl, hw⟩
theorem opens_bool (ht : P.underlying t = some .bool) : Opens H P t Kd.bool (fun _ => True) := by
  intro enc w fuel cs x ps h _
  obtain ⟨b, rfl, _⟩ := DataW.trod_bool ht h
  exact ⟨b, rfl, trivial⟩
theorem weights_all {l : List (DataW H)} {y : DataW H} (h : y ∈ l) : ∀ n ∈ y.weights P e, n ∈ DataW.weightsAll P e l := by
  induction l with
  | nil => simp at h
  | cons z l ih =>
    intro n hn
    rw [DataW.weightsAll, List.mem_append]
    rcases List.mem_cons.1 h with rfl | h
    · exact .inl hn
    · exact .inr (ih h n hn)

theorem mapM_get {α β : Type} {f : α → Option β} : ∀ {l : List α} {r : List β}, l.mapM f = some r → ∀ (i : Nat) (x : α), l[i]? = some x → f x = r[i]?
  | [], r, h, i, x, hx => by simp at hx
  | y :: l, r, h, i, x, hx => by
    rw [List.mapM_cons] at h
    simp only [Option.bind_eq_bind, Option.bind_eq_some_iff, Option.pure_def, Option.some.injEq] at h
    obtain ⟨z, hz, r', hr, rfl⟩ := h
    cases i with
    | zero => simp at hx; subst hx; simpa using hz
    | succ i => simp at hx; simpa using mapM_get hr i x hx
theorem mapM_len {α β : Type} {f : α → Option β} : ∀ {l : List α} {r : List β}, l.mapM f = some r → r.length = l.length
  | [], r, h => by simp at h; subst h; rfl
  | y :: l, r, h => by
    rw [List.mapM_cons] at h
    simp only [Option.bind_eq_bind, Option.bind_eq_some_iff, Option.pure_def, Option.some.injEq] at h
    obtain ⟨z, hz, r', hr, rfl⟩ := h
    simp [mapM_len hr]
theorem cells_get {w : World} {base : Nat} {a : Addr} {n : Nat} {cs : List Value} (h : w.cells? base a n = some cs) : cs.length = n ∧ ∀ i u, cs[i]? = some u → w.cell? (a.add i) = some u := by
  unfold World.cells? at h
  split at h
  · have hl := mapM_len h
    rw [List.length_range] at hl
    refine ⟨hl, fun i u hu => ?_⟩
    have hi : i < n := by rw [← hl]; exact (List.getElem?_eq_some_iff.1 hu).1
    rw [mapM_get h i i (by simp [hi]), hu]
  · cases h
theorem opens_slice {α : Type} {d : Kd α} {WF : α → Prop} (ht : P.underlying t = some (.slice e)) (hd : P.cellsOf e = d.sz) (he : Opens H P e d WF) :
    Opens H P t (Kd.slice e d) (fun xs => xs.length ≤ maxLen ∧ xs.length * P.bytesOf e ≤ reachBytes ∧ ∀ a ∈ xs, WF a) := by
  intro enc w fuel cs x ps h hw
  rcases DataW.trod_slice ht h with ⟨rfl, hx⟩ | ⟨a, len, cap, elems, rest, n, _, rfl, hx, _, hl, hm, hlen, hel, hsp, _⟩
  · exact ⟨[], ⟨none, 0, rfl, Nat.le_refl _, rfl, by simp, by simp⟩, by simp, by simp, by simp⟩
  · cases hx
    have hwt := hw ((elems.length + rest.length) * P.bytesOf e) (by simp [DataW.weights, ht])
    have each : ∀ i (hi : i < len), ∃ y : α, ∃ c : List Value, c.length = d.sz ∧ d.K w y c ∧ WF y ∧ ∀ j u, c[j]? = some u → w.cell? (a.add (i * d.sz + j)) = some u := by
      intro i hi
      have h1 := hel i hi
      rw [List.getElem?_eq_getElem (by omega), Option.bind_eq_some_iff] at h1
      obtain ⟨c, hc, hy⟩ := h1
      obtain ⟨hcl, hcc⟩ := cells_get hc
      obtain ⟨y, hk, hwf⟩ := he hy (fun n hn => hw n (by
        simp only [DataW.weights, ht, List.mem_cons, List.mem_append]
        exact .inr (.inl (weights_all (List.mem_map.2 ⟨elems[i], List.getElem_mem _, rfl⟩) n hn))))
      refine ⟨y, c, by rw [hcl, hd], hk, hwf, fun j u hu => ?_⟩
      have := hcc j u hu
      rwa [hd, add_add] at this
    have pick : ∃ ys : List α, ys.length = len ∧ ∀ i (y : α), ys[i]? = some y → ∃ c : List Value, c.length = d.sz ∧ d.K w y c ∧ WF y ∧ ∀ j u, c[j]? = some u → w.cell? (a.add (i * d.sz + j)) = some u := by
      clear hel hsp hw hwt hl hlen h
      induction len with
      | zero => exact ⟨[], rfl, fun i y h => by simp at h⟩
      | succ m ih =>
        obtain ⟨ys, hys, hyc⟩ := ih (fun i hi => each i (by omega))
        obtain ⟨y, hy⟩ := each m (by omega)
        refine ⟨ys ++ [y], by simp [hys], fun i z hz => ?_⟩
        rcases Nat.lt_or_ge i ys.length with h | h
        · rw [List.getElem?_append_left h] at hz
          exact hyc i z hz
        · rw [List.getElem?_append_right h] at hz
          have : i = m := by
            have := (List.getElem?_eq_some_iff.1 hz).1
            simp at this; omega
          subst this
          rw [hys, Nat.sub_self] at hz
          simp at hz
          subst hz
          exact hy
    obtain ⟨ys, hys, hyc⟩ := pick
    subst hys
    refine ⟨ys, ⟨some a, cap, rfl, hl, rfl, Nat.le_trans (Nat.le_trans hl hm) (by simp [maxLen]), fun _ => ⟨a, rfl, fun j p hp => ?_⟩⟩, Nat.le_trans hl hm, ?_, ?_⟩
    · obtain ⟨c, h1, h2, _, h3⟩ := hyc j p hp
      exact ⟨c, h1, h2, h3⟩
    · exact Nat.le_trans (Nat.mul_le_mul_right _ (by omega)) hwt
    · intro y hy
      obtain ⟨i, hi⟩ := List.getElem?_of_mem hy
      obtain ⟨c, _, _, hwf, _⟩ := hyc i y hi
      exact hwf

/-- A struct's fields from one on. -/
def OpensFs {α : Type} (H : Type) (P : Program) (fs : List Field) (off : Nat) (d : Kd α) (WF : α → Prop) : Prop :=
  ∀ {enc : TypeId × Value → H} {w : World} {fuel : Nat} {cs : List Value} {xs : List (DataW H × List MemPlace)},
    xs.length = fs.length → (∀ (i : Nat) (f : Field), fs[i]? = some f → DataW.trod enc P w 0 (fun _ => true) true fuel f.type ((cs.drop f.offset).take (P.cellsOf f.type)) = xs[i]?) →
    cs.length = off + d.sz → (∀ n ∈ DataW.weightsEach P (fs.map (·.type)) (xs.map (·.1)), n ≤ reachBytes) → ∃ a, d.K w a (cs.drop off) ∧ WF a

theorem opens_last {α : Type} {d : Kd α} {WF : α → Prop} {f : Field} {off : Nat} (ho : f.offset = off) (hc : P.cellsOf f.type = d.sz) (hf : Opens H P f.type d WF) : OpensFs H P [f] off d WF := by
  intro enc w fuel cs xs hl hx hcs hw
  obtain ⟨x, rfl⟩ : ∃ x, xs = [x] := by
    match xs, hl with
    | [x], _ => exact ⟨x, rfl⟩
  have h := hx 0 f rfl
  rw [ho, hc, List.take_of_length_le (by simp; omega)] at h
  exact hf (x := x.1) (ps := x.2) h (fun n hn => hw n (by simp [DataW.weightsEach]; exact hn))
theorem opens_cons {α β : Type} {d : Kd α} {d' : Kd β} {WF : α → Prop} {WF' : β → Prop} {f : Field} {fs : List Field} {off : Nat} (ho : f.offset = off) (hc : P.cellsOf f.type = d.sz) (hf : Opens H P f.type d WF)
    (hfs : OpensFs H P fs (off + d.sz) d' WF') : OpensFs H P (f :: fs) off (Kd.pair d d') (fun x => WF x.1 ∧ WF' x.2) := by
  intro enc w fuel cs xs hl hx hcs hw
  obtain ⟨x, xs, rfl⟩ : ∃ x r, xs = x :: r := by
    match xs, hl with
    | x :: r, _ => exact ⟨x, r, rfl⟩
  have h := hx 0 f rfl
  rw [ho, hc] at h
  obtain ⟨a, ha, hwa⟩ := hf (x := x.1) (ps := x.2) h (fun n hn => hw n (by simp only [List.map_cons, DataW.weightsEach, List.mem_append]; exact .inl hn))
  obtain ⟨b, hb, hwb⟩ := hfs (cs := cs) (xs := xs) (fuel := fuel) (enc := enc) (w := w) (by simpa using hl) (fun i g hg => by have := hx (i + 1) g (by simpa using hg); simpa using this) (by rw [hcs]; exact (Nat.add_assoc _ _ _).symm)
    (fun n hn => hw n (by simp only [List.map_cons, DataW.weightsEach, List.mem_append]; exact .inr hn))
  refine ⟨(a, b), ⟨(cs.drop off).take d.sz, cs.drop (off + d.sz), ?_, ha, hb⟩, hwa, hwb⟩
  rw [← List.drop_drop, List.take_append_drop]
theorem opens_struct {α : Type} {d : Kd α} {WF : α → Prop} {fs : Array Field} (ht : P.underlying t = some (.struct fs)) (hc : P.cellsOf t = d.sz) (hfs : OpensFs H P fs.toList 0 d WF) : Opens H P t d WF := by
  intro enc w fuel cs x ps h hw
  obtain ⟨xs, n, _, hx, hl, hlx, hf⟩ := DataW.trod_struct ht h
  cases hx
  obtain ⟨a, ha, hwa⟩ := hfs (cs := cs) (xs := xs) (fuel := n) (enc := enc) (w := w) (by simpa using hlx) (fun i f hi => hf i f (by simpa using hi)) (by rw [hl, hc]; simp) (fun m hm => hw m (by simpa [DataW.weights, ht] using hm))
  exact ⟨a, by simpa using ha, hwa⟩
theorem opens_iso {α β : Type} {d : Kd α} {WF : α → Prop} {f : β → α} (g : α → β) (hg : ∀ a, f (g a) = a) (h : Opens H P t d WF) : Opens H P t (Kd.iso d f) (fun b => WF (f b)) := by
  intro enc w fuel cs x ps hx hw
  obtain ⟨a, ha, hwa⟩ := h hx hw
  exact ⟨g a, by show d.K w (f (g a)) cs; rw [hg]; exact ha, by show WF (f (g a)); rw [hg]; exact hwa⟩
/-- For a row's j-th argument. -/
theorem Opens.row {α : Type} {d : Kd α} {WF : α → Prop} (h : Opens H P t d WF) {enc : TypeId × Value → H} {W : World} {ts : List TypeId} {ds : List (DataW H)} {j : Nat} {v : Value} {x : DataW H} {ps : List MemPlace}
    (hsz : (DataW.weightsEach P ts ds).all (· ≤ reachBytes) = true) (ht : ts[j]? = some t) (hd : ds[j]? = some x) (hv : DataW.Trod enc P W 0 (fun _ => true) true t v x ps) : ∃ a, d.K W a v.cells.toList ∧ WF a := by
  obtain ⟨fuel, hf⟩ := hv
  refine h hf fun n hn => ?_
  have := List.all_eq_true.1 hsz _ (DataW.weights_mem_each ht hd n hn)
  simpa using this
end
end Go.Proofs.Ytjncmiclpaodhaa
