/-
  What a law's row hands over, read as the printed functions read it: for any kind built of numbers, truths, texts, slices and structs. By a session.
-/
import Derived.SizedLaws
import Derived.ChangeSlices
import Derived.ChangeArms
import Derived.Test.YtbllchfgjginoaaVWords
import Derived.Test.YtbllchfgjginoaaPMf4
namespace Go.Proofs.Ytbllchfgjginoaa
open Go.ChangeShapes Go.WideShapes Go.RowKit Go.Proofs.YtbllchfgjginoaaW.PrintWords

/-- What is trod and is light enough is read, and keeps the bounds WF. -/
def Opens {α : Type} (H : Type) (P : Program) (t : TypeId) (d : Kd α) (WF : α → Prop) : Prop :=
  ∀ {enc : TypeId × Value → H} {w : World} {fuel : Nat} {cs : List Value} {x : DataW H} {ps : List MemPlace},
    DataW.trod enc P w 0 (fun _ => true) true fuel t cs = some (x, ps) → (∀ n ∈ x.weights P t, n ≤ reachBytes) → ∃ a, d.K w a cs ∧ WF a

section
variable {H : Type} {P : Program} {t e : TypeId}
theorem opens_int {k : IntKind} (ht : P.underlying t = some (.int k)) : Opens H P t (Kd.int k) (fun a => (Lit.int k a).wf = true) := by
  intro enc w fuel cs x ps h _
  obtain ⟨n, rfl, _, hw⟩ := DataW.trod_int ht h
  exact ⟨n, rfl, hw⟩
theorem opens_bool (ht : P.underlying t = some .bool) : Opens H P t Kd.bool (fun _ => True) := by
  intro enc w fuel cs x ps h _
  obtain ⟨b, rfl, _⟩ := DataW.trod_bool ht h
  exact ⟨b, rfl, trivial⟩
theorem weights_all {l : List (DataW H)} {y : DataW H} (h : y ∈ l) : ∀ n ∈ y.weights P e, n ∈ DataW.weightsAll P e l := by
  induction l with
  | nil => simp at h
  | cons z l ih =>
    intro n hn
    rw [DataW.weightsAll, List.mem_append]
    rcases List.mem_cons.1 h with rfl | h
    · exact .inl hn
    · exact .inr (ih h n hn)

theorem mapM_get {α β : Type} {f : α → Option β} : ∀ {l : List α} {r : List β}, l.mapM f = some r → ∀ (i : Nat) (x : α), l[i]? = some x → f x = r[i]?
  | [], r, h, i, x, hx => by simp at hx
  | y :: l, r, h, i, x, hx => by
    rw [List.mapM_cons] at h
    simp only [Option.bind_eq_bind, Option.bind_eq_some_iff, Option.pure_def, Option.some.injEq] at h
    obtain ⟨z, hz, r', hr, rfl⟩ := h
    cases i with
    | zero => simp at hx; subst hx; simpa using hz
    | succ i => simp at hx; simpa using mapM_get hr i x hx
theorem mapM_len {α β : Type} {f : α → Option β} : ∀ {l : List α} {r : List β}, l.mapM f = some r → r.length = l.length
  | [], r, h => by simp at h; subst h; rfl
  | y :: l, r, h => by
    rw [List.mapM_cons] at h
    simp only [Option.bind_eq_bind, Option.bind_eq_some_iff, Option.pure_def, Option.some.injEq] at h
    obtain ⟨z, hz, r', hr, rfl⟩ := h
    simp [mapM_len hr]
theorem cells_get {w : World} {base : Nat} {a : Addr} {n : Nat} {cs : List Value} (h : w.cells? base a n = some cs) : cs.length = n ∧ ∀ i u, cs[i]? = some u → w.cell? (a.add i) = some u := by
  unfold World.cells? at h
  split at h
  · have hl := mapM_len h
    rw [List.length_range] at hl
    refine ⟨hl, fun i u hu => ?_⟩
    have hi : i < n := by rw [← hl]; exact (List.getElem?_eq_some_iff.1 hu).1
    rw [mapM_get h i i (by simp [hi]), hu]
  · cases h
theorem opens_slice {α : Type} {d : Kd α} {WF : α → Prop} (ht : P.underlying t = some (.slice e)) (hd : P.cellsOf e = d.sz) (he : Opens H P e d WF) :
    Opens H P t (Kd.slice e d) (fun xs => xs.length ≤ maxLen ∧ xs.length * P.bytesOf e ≤ reachBytes ∧ ∀ a ∈ xs, WF a) := by
  intro enc w fuel cs x ps h hw
  rcases DataW.trod_slice ht h with ⟨rfl, hx⟩ | ⟨a, len, cap, elems, rest, n, _, rfl, hx, _, hl, hm, hlen, hel, hsp, _⟩
  · exact ⟨[], ⟨none, 0, rfl, Nat.le_refl _, rfl, by simp, by simp⟩, by simp, by simp, by simp⟩
  · cases hx
    have hwt := hw ((elems.length + rest.length) * P.bytesOf e) (by simp [DataW.weights, ht])
    have each : ∀ i (hi : i < len), ∃ y : α, ∃ c : List Value, c.length = d.sz ∧ d.K w y c ∧ WF y ∧ ∀ j u, c[j]? = some u → w.cell? (a.add (i * d.sz + j)) = some u := by
      intro i hi
      have h1 := hel i hi
      rw [List.getElem?_eq_getElem (by omega), Option.bind_eq_some_iff] at h1
      obtain ⟨c, hc, hy⟩ := h1
      obtain ⟨hcl, hcc⟩ := cells_get hc
      obtain ⟨y, hk, hwf⟩ := he hy (fun n hn => hw n (by
        simp only [DataW.weights, ht, List.mem_cons, List.mem_append]
        exact .inr (.inl (weights_all (List.mem_map.2 ⟨elems[i], List.getElem_mem _, rfl⟩) n hn))))
      refine ⟨y, c, by rw [hcl, hd], hk, hwf, fun j u hu => ?_⟩
      have := hcc j u hu
      rwa [hd, add_add] at this
    have pick : ∃ ys : List α, ys.length = len ∧ ∀ i (y : α), ys[i]? = some y → ∃ c : List Value, c.length = d.sz ∧ d.K w y c ∧ WF y ∧ ∀ j u, c[j]? = some u → w.cell? (a.add (i * d.sz + j)) = some u := by
      clear hel hsp hw hwt hl hlen h
      induction len with
      | zero => exact ⟨[], rfl, fun i y h => by simp at h⟩
      | succ m ih =>
        obtain ⟨ys, hys, hyc⟩ := ih (fun i hi => each i (by omega))
        obtain ⟨y, hy⟩ := each m (by omega)
        refine ⟨ys ++ [y], by simp [hys], fun i z hz => ?_⟩
        rcases Nat.lt_or_ge i ys.length with h | h
        · rw [List.getElem?_append_left h] at hz
          exact hyc i z hz
        · rw [List.getElem?_append_right h] at hz
          have : i = m := by
            have := (List.getElem?_eq_some_iff.1 hz).1
            simp at this; omega
          subst this
          rw [hys, Nat.sub_self] at hz
          simp at hz
          subst hz
          exact hy
    obtain ⟨ys, hys, hyc⟩ := pick
    subst hys
    refine ⟨ys, ⟨some a, cap, rfl, hl, rfl, Nat.le_trans (Nat.le_trans hl hm) (by simp [maxLen]), fun _ => ⟨a, rfl, fun j p hp => ?_⟩⟩, Nat.le_trans hl hm, ?_, ?_⟩
    · obtain ⟨c, h1, h2, _, h3⟩ := hyc j p hp
      exact ⟨c, h1, h2, h3⟩
    · exact Nat.le_trans (Nat.mul_le_mul_right _ (by omega)) hwt
    · intro y hy
      obtain ⟨i, hi⟩ := List.getElem?_of_mem hy
      obtain ⟨c, _, _, hwf, _⟩ := hyc i y hi
      exact hwf

/-- A struct's fields from one on. -/
def OpensFs {α : Type} (H : Type) (P : Program) (fs : List Field) (off : Nat) (d : Kd α) (WF : α → Prop) : Prop :=
  ∀ {enc : TypeId × Value → H} {w : World} {fuel : Nat} {cs : List Value} {xs : List (DataW H × List MemPlace)},
    xs.length = fs.length → (∀ (i : Nat) (f : Field), fs[i]? = some f → DataW.trod enc P w 0 (fun _ => true) true fuel f.type ((cs.drop f.offset).take (P.cellsOf f.type)) = xs[i]?) →
    cs.length = off + d.sz → (∀ n ∈ DataW.weightsEach P (fs.map (·.type)) (xs.map (·.1)), n ≤ reachBytes) → ∃ a, d.K w a (cs.drop off) ∧ WF a

theorem opens_last {α : Type} {d : Kd α} {WF : α → Prop} {f : Field} {off : Nat} (ho : f.offset = off) (hc : P.cellsOf f.type = d.sz) (hf : Opens H P f.type d WF) : OpensFs H P [f] off d WF := by
  intro enc w fuel cs xs hl hx hcs hw
  obtain ⟨x, rfl⟩ : ∃ x, xs = [x] := by
    match xs, hl with
    | [x], _ => exact ⟨x, rfl⟩
  have h := hx 0 f rfl
  rw [ho, hc, List.take_of_length_le (by simp; omega)] at h
  exact hf (x := x.1) (ps := x.2) h (fun n hn => hw n (by simp [DataW.weightsEach]; exact hn))
theorem opens_cons {α β : Type} {d : Kd α} {d' : Kd β} {WF : α → Prop} {WF' : β → Prop} {f : Field} {fs : List Field} {off : Nat} (ho : f.offset = off) (hc : P.cellsOf f.type = d.sz) (hf : Opens H P f.type d WF)
    (hfs : OpensFs H P fs (off + d.sz) d' WF') : OpensFs H P (f :: fs) off (Kd.pair d d') (fun x => WF x.1 ∧ WF' x.2) := by
  intro enc w fuel cs xs hl hx hcs hw
  obtain ⟨x, xs, rfl⟩ : ∃ x r, xs = x :: r := by
    match xs, hl with
    | x :: r, _ => exact ⟨x, r, rfl⟩
  have h := hx 0 f rfl
  rw [ho, hc] at h
  obtain ⟨a, ha, hwa⟩ := hf (x := x.1) (ps := x.2) h (fun n hn => hw n (by simp only [List.map_cons, DataW.weightsEach, List.mem_append]; exact .inl hn))
  obtain ⟨b, hb, hwb⟩ := hfs (cs := cs) (xs := xs) (fuel := fuel) (enc := enc) (w := w) (by simpa using hl) (fun i g hg => by have := hx (i + 1) g (by simpa using hg); simpa using this) (by rw [hcs]; exact (Nat.add_assoc _ _ _).symm)
    (fun n hn => hw n (by simp only [List.map_cons, DataW.weightsEach, List.mem_append]; exact .inr hn))
  refine ⟨(a, b), ⟨(cs.drop off).take d.sz, cs.drop (off + d.sz), ?_, ha, hb⟩, hwa, hwb⟩
  rw [← List.drop_drop, List.take_append_drop]
theorem opens_struct {α : Type} {d : Kd α} {WF : α → Prop} {fs : Array Field} (ht : P.underlying t = some (.struct fs)) (hc : P.cellsOf t = d.sz) (hfs : OpensFs H P fs.toList 0 d WF) : Opens H P t d WF := by
  intro enc w fuel cs x ps h hw
  obtain ⟨xs, n, _, hx, hl, hlx, hf⟩ := DataW.trod_struct ht h
  cases hx
  obtain ⟨a, ha, hwa⟩ := hfs (cs := cs) (xs := xs) (fuel := n) (enc := enc) (w := w) (by simpa using hlx) (fun i f hi => hf i f (by simpa using hi)) (by rw [hl, hc]; simp) (fun m hm => hw m (by simpa [DataW.weights, ht] using hm))
  exact ⟨a, by simpa using ha, hwa⟩
theorem opens_iso {α β : Type} {d : Kd α} {WF : α → Prop} {f : β → α} (g : α → β) (hg : ∀ a, f (g a) = a) (h : Opens H P t d WF) : Opens H P t (Kd.iso d f) (fun b => WF (f b)) := by
  intro enc w fuel cs x ps hx hw
  obtain ⟨a, ha, hwa⟩ := h hx hw
  exact ⟨g a, by show d.K w (f (g a)) cs; rw [hg]; exact ha, by show WF (f (g a)); rw [hg]; exact hwa⟩
theorem opens_mono {α : Type} {d : Kd α} {WF WF' : α → Prop} (h : Opens H P t d WF) (hw : ∀ a, WF a → WF' a) : Opens H P t d WF' := by
  intro enc w fuel cs x ps hx hn
  obtain ⟨a, ha, hwa⟩ := h hx hn
  exact ⟨a, ha, hw a hwa⟩
/-- For a row's j-th argument. -/
theorem Opens.row {α : Type} {d : Kd α} {WF : α → Prop} (h : Opens H P t d WF) {enc : TypeId × Value → H} {W : World} {ts : List TypeId} {ds : List (DataW H)} {j : Nat} {v : Value} {x : DataW H} {ps : List MemPlace}
    (hsz : (DataW.weightsEach P ts ds).all (· ≤ reachBytes) = true) (ht : ts[j]? = some t) (hd : ds[j]? = some x) (hv : DataW.Trod enc P W 0 (fun _ => true) true t v x ps) : ∃ a, d.K W a v.cells.toList ∧ WF a := by
  obtain ⟨fuel, hf⟩ := hv
  refine h hf fun n hn => ?_
  have := List.all_eq_true.1 hsz _ (DataW.weights_mem_each ht hd n hn)
  simpa using this
end
end Go.Proofs.Ytbllchfgjginoaa
/-
  The laws' parameters, opened (chapter 08).
-/
namespace Go.Proofs.Ytbllchfgjginoaa
open Go.ChangeShapes Go.WideShapes Go.RowKit Go.Proofs.YtbllchfgjginoaaW.PrintWords Go.Proofs.Ytbllchfgjginoaa.PMe
theorem o23 (H : Type) : Opens H Try.prog 23 k23 (fun _ => True) := opens_mono (opens_iso (fun x => ⟨x.1, x.2⟩) (fun _ => rfl) (opens_struct Try.underlying23 (by kernel_rfl) (opens_cons rfl (by kernel_rfl) (opens_int Try.underlying3) (opens_last rfl (by kernel_rfl) (opens_int Try.underlying3))))) (fun _ _ => trivial)
theorem o49 (H : Type) : Opens H Try.prog 49 k49 (fun _ => True) := opens_mono (opens_iso (fun x => ⟨x.1, x.2⟩) (fun _ => rfl) (opens_struct Try.underlying49 (by kernel_rfl) (opens_cons rfl (by kernel_rfl) (opens_int Try.underlying25) (opens_last rfl (by kernel_rfl) (opens_int Try.underlying3))))) (fun _ _ => trivial)
theorem o28 (H : Type) : Opens H Try.prog 28 k28 (fun _ => True) := opens_mono (opens_iso (fun x => ⟨x.1, x.2.1, x.2.2.1, x.2.2.2⟩) (fun _ => rfl) (opens_struct Try.underlying28 (by kernel_rfl) (opens_cons rfl (by kernel_rfl) (opens_int Try.underlying25) (opens_cons rfl (by kernel_rfl) (opens_bool Try.underlying4) (opens_cons rfl (by kernel_rfl) (opens_int Try.underlying3) (opens_last rfl (by kernel_rfl) (opens_slice Try.underlying26 (by kernel_rfl) (o49 H)))))))) (fun _ _ => trivial)
theorem o29 (H : Type) : Opens H Try.prog 29 (Kd.slice 25 (Kd.int .u32)) (fun _ => True) := opens_mono (opens_slice Try.underlying29 (by kernel_rfl) (opens_int Try.underlying25)) (fun _ _ => trivial)
end Go.Proofs.Ytbllchfgjginoaa
