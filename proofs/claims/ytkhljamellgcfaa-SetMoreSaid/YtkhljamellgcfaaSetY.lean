/-
  SetMore: a filter more, ahead or behind, in plain lists.
-/
import Derived.Test.YtkhljamellgcfaaSetX
namespace Go.Proofs.Ytkhljamellgcfaa
open Go.RowKit Go.Proofs.YtkhljamellgcfaaW.PrintWords Go.Proofs.Ytkhljamellgcfaa.PSet
theorem filter_loop2 (l : List S29) (hm : l.length ≤ 300) (hl : ∀ f ∈ l, Rise f.f1 ∧ f.f1.length ≤ 200) : ∀ n k (j : Nat) (s : List Int × List Int × Bool), j ≤ l.length → l.length = j + n → n < k → s.1.length ≤ 200 * j → s.2.1.length ≤ 200 * j →
    set_Filter.l0 k s.1 s.2.1 s.2.2 l l.length j = some (finS ((l.drop j).foldl stepS s)) := by
  intro n
  induction n with
  | zero =>
    intro k j s hj h2 hk h3 h4
    obtain ⟨k, rfl⟩ : ∃ k', k = k' + 1 := ⟨k - 1, by omega⟩
    rw [set_Filter.l0, if_neg (by omega), List.drop_of_length_le (by omega), List.foldl_nil]
    unfold finS
    split
    · rw [mns_some (by omega) (by omega)]; rfl
    · rfl
  | succ n ih =>
    intro k j s hj h2 hk h3 h4
    obtain ⟨k, rfl⟩ : ∃ k', k = k' + 1 := ⟨k - 1, by omega⟩
    have hlt : j < l.length := by omega
    have hf := hl l[j] (List.getElem_mem _)
    have e2 : wrap64 ((j : Int) + 1) = ((j + 1 : Nat) : Int) := by rw [w64 (by omega) (by omega)]; omega
    have hlen := step_len (s := s) hf.2
    have := ih k (j + 1) (stepS s l[j]) (by omega) (by omega) (by omega) (by omega) (by omega)
    rw [set_Filter.l0, if_pos (by omega), if_pos (by omega), if_pos (by omega), rdT l j hlt, e2, List.drop_eq_getElem_cons hlt, List.foldl_cons, ← this]
    unfold stepS
    split
    · split
      · rename_i he
        rw [int_some (by omega) (by omega), Option.bind_some]
      · rfl
    · rw [uni_some (by omega) (by omega), Option.bind_some]
theorem filter_some2 (l : List S29) (hm : l.length ≤ 300) (hl : ∀ f ∈ l, Rise f.f1 ∧ f.f1.length ≤ 200) (k : Nat) (hk : l.length < k) : set_Filter.f k l = some (finS (l.foldl stepS ([], [], false))) := by
  unfold set_Filter.f
  have := filter_loop2 l hm hl l.length k 0 ([], [], false) (by omega) (by omega) hk (by simp) (by simp)
  rw [List.drop_zero] at this
  exact this
theorem fold_ex : ∀ (l : List S29) (s : List Int × List Int × Bool), (l.foldl stepS s).2.2 = (s.2.2 || l.any (·.f0))
  | [], s => by simp
  | f :: l, s => by
    rw [List.foldl_cons, fold_ex l, List.any_cons]
    unfold stepS
    obtain ⟨f0, f1⟩ := f
    obtain ⟨s1, s2, s3⟩ := s
    cases f0 <;> cases s3 <;> simp
theorem fin_ex (s : List Int × List Int × Bool) : (finS s).1 = s.2.2 := by
  unfold finS
  split
  · rename_i h; exact h.symm
  · rename_i h; simp only [Bool.not_eq_true] at h; exact h.symm
theorem more_call (l : List S29) (f0 : Bool) (f1 : List Int) (x : Int) (hm : l.length ≤ 1000000000000000) (hl : ∀ f ∈ l, f.f1.length ≤ 1000000000000000) (hf : f1.length ≤ 1000000000000000) (A_l : Option Addr) (c_l : Nat) (A_f : Option Addr) (c_f : Nat) (w : World) (hr : Kd.C k29 w A_l l.length l) (hc : l.length ≤ c_l) (hr2 : Kd.C (Kd.int .u32) w A_f f1.length f1) (hc2 : f1.length ≤ c_f) :
    Calls Try.prog 7 #[.slice A_l l.length c_l, .agg #[.bool f0, .slice A_f f1.length c_f], .int .u32 x] w fun e w' => e = .returned (.bool true) ∧ Below w.heap.size w w' := by
  obtain ⟨K, hK⟩ : ∃ K : Nat, K = l.length + 200000 := ⟨_, rfl⟩
  obtain ⟨b, hb, hbt⟩ := filters_some l hm hl K (by omega)
  cases b
  · exact more_few0 l f0 f1 x hb A_l c_l A_f c_f w hr hc hr2 hc2
  obtain ⟨h1, h2⟩ := hbt rfl
  obtain ⟨d, hd, hdt⟩ := filters_some [⟨f0, f1⟩] (by simp) (by simpa using hf) K (by simp; omega)
  cases d
  · exact more_few1 l f0 f1 x hb hd A_l c_l A_f c_f w hr hc hr2 hc2
  obtain ⟨_, g2⟩ := hdt rfl
  have g3 := g2 ⟨f0, f1⟩ (by simp)
  have h4 : ∀ f ∈ l ++ [(⟨f0, f1⟩ : S29)], Rise f.f1 ∧ f.f1.length ≤ 200 := fun f hf => by
    rcases List.mem_append.1 hf with hf | hf
    · exact h2 f hf
    · exact g2 f hf
  have h5 : ∀ f ∈ [(⟨f0, f1⟩ : S29)] ++ l, Rise f.f1 ∧ f.f1.length ≤ 200 := fun f hf => by
    rcases List.mem_append.1 hf with hf | hf
    · exact g2 f hf
    · exact h2 f hf
  have n4 : (l ++ [(⟨f0, f1⟩ : S29)]).length = l.length + 1 := by simp
  have n5 : ([(⟨f0, f1⟩ : S29)] ++ l).length = l.length + 1 := by simp
  obtain ⟨p1, p2, p3, p4, p5⟩ := fold_keeps l ([], [], false) h2 List.Pairwise.nil List.Pairwise.nil
  obtain ⟨q1, q2, q3, q4, q5⟩ := fold_keeps (l ++ [(⟨f0, f1⟩ : S29)]) ([], [], false) h4 List.Pairwise.nil List.Pairwise.nil
  obtain ⟨r1, r2, r3, r4, r5⟩ := fold_keeps ([(⟨f0, f1⟩ : S29)] ++ l) ([], [], false) h5 List.Pairwise.nil List.Pairwise.nil
  have w0 : ∀ a, wants (finS (([], [], false) : List Int × List Int × Bool)) a = false := fun a => rfl
  have sp := fin_len (l.foldl stepS ([], [], false))
  have sq := fin_len ((l ++ [(⟨f0, f1⟩ : S29)]).foldl stepS ([], [], false))
  have tp := fin_rise p1 p2
  have tq := fin_rise q1 q2
  have tr := fin_rise r1 r2
  have e12 : (finS ((l ++ [(⟨f0, f1⟩ : S29)]).foldl stepS ([], [], false))).1 = (finS (([(⟨f0, f1⟩ : S29)] ++ l).foldl stepS ([], [], false))).1 := by
    rw [fin_ex, fin_ex, fold_ex, fold_ex, List.any_append, List.any_append, Bool.or_comm (l.any _)]
  have wq : ∀ a, wants (finS ((l ++ [(⟨f0, f1⟩ : S29)]).foldl stepS ([], [], false))) a = (wants (finS (l.foldl stepS ([], [], false))) a || wants (f0, f1) a) := fun a => by
    rw [q5, p5, w0, List.any_append, Bool.false_or, Bool.false_or]; simp
  have wr : ∀ a, wants (finS (([(⟨f0, f1⟩ : S29)] ++ l).foldl stepS ([], [], false))) a = (wants (finS (l.foldl stepS ([], [], false))) a || wants (f0, f1) a) := fun a => by
    rw [r5, p5, w0, List.any_append, Bool.false_or, Bool.false_or, Bool.or_comm]; simp
  have s12 : (finS ((l ++ [(⟨f0, f1⟩ : S29)]).foldl stepS ([], [], false))).2 = (finS (([(⟨f0, f1⟩ : S29)] ++ l).foldl stepS ([], [], false))).2 := by
    refine rise_ext tq tr fun a => ?_
    have := (wq a).trans (wr a).symm
    unfold wants at this
    rw [e12] at this
    have h9 : ∀ p q r : Bool, (p != r) = (q != r) → p = q := by decide
    exact decide_eq_decide.1 (h9 _ _ _ this)
  simp only [List.length_nil] at p3 p4 q3 q4
  rw [n4] at q3 q4
  exact more_main l f0 f1 x h1 hb hd (e0 := (finS (l.foldl stepS ([], [], false))).1) (e1 := (finS ((l ++ [(⟨f0, f1⟩ : S29)]).foldl stepS ([], [], false))).1) (e2 := (finS (([(⟨f0, f1⟩ : S29)] ++ l).foldl stepS ([], [], false))).1)
    (s0 := (finS (l.foldl stepS ([], [], false))).2) (s1 := (finS ((l ++ [(⟨f0, f1⟩ : S29)]).foldl stepS ([], [], false))).2) (s2 := (finS (([(⟨f0, f1⟩ : S29)] ++ l).foldl stepS ([], [], false))).2)
    (filter_some2 l (by omega) h2 K (by omega)) (filter_some2 _ (by omega) h4 K (by omega)) (filter_some2 _ (by omega) h5 K (by omega))
    (b0 := wants (finS (l.foldl stepS ([], [], false))) x) (b1 := wants (finS ((l ++ [(⟨f0, f1⟩ : S29)]).foldl stepS ([], [], false))) x) (b2 := wants (f0, f1) x)
    (wants_some _ _ x (by omega) tp K (by omega)) (wants_some _ _ x (by omega) tq K (by omega)) (wants_some _ _ x (by omega) g3.1 K (by omega))
    (wq x) e12 (by rw [rows_some _ _ (by omega) K (by omega), s12]; simp) A_l c_l A_f c_f w hr hc hr2 hc2
end Go.Proofs.Ytkhljamellgcfaa
