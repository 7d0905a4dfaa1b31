/-
  Package slices, at bytes: Concat.
-/
import Derived.Test.YtlaanmkangikbaaIpA
import Derived.Lib.Hide
namespace Go.Proofs.Ytlaanmkangikbaa
open Go.RowKit Go.Shelf Go.Proofs.YtlaanmkangikbaaW.PrintWords
attribute [local go_sem] Oper.semAt_some

theorem w64 {i : Int} (h0 : -9223372036854775808 ≤ i) (h1 : i ≤ 9223372036854775807) : wrap64 i = i := by unfold wrap64; omega

theorem w64s (m li : Nat) (h : m + li ≤ 1000000) : wrap64 ((m : Int) + li) = ((m + li : Nat) : Int) := by rw [w64 (by omega) (by omega)]; omega
theorem rows_at {w : World} {A : Option Addr} {n : Nat} {ls : List (List Int)} (h : Kd.C (Kd.slice 5 (Kd.int .u8)) w A n ls) (i : Nat) (hi : i < ls.length) :
    ∃ ad B d, A = some ad ∧ w.cell? (ad.add i) = some (.slice B (ls[i]).length d) ∧ (ls[i]).length ≤ d ∧ ReadsInt w .u8 B (ls[i]).length ls[i] := by
  obtain ⟨hl, _, h3⟩ := h
  obtain ⟨ad, e, hc⟩ := h3 (by omega)
  obtain ⟨c, hcl, hK, hcc⟩ := hc i _ (List.getElem?_eq_getElem hi)
  obtain ⟨B, d, rfl, hd, hr⟩ := hK
  refine ⟨ad, B, d, e, ?_, hd, Kd.reads_of_C (enc := Value.int .u8) (d := (0 : Int)) (h1 := fun _ => rfl) hr⟩
  have := hcc 0 _ rfl
  simpa [Kd.slice] using this

theorem flat_take (ls : List (List Int)) (i : Nat) (hi : i < ls.length) : (ls.take (i + 1)).flatten = (ls.take i).flatten ++ ls[i] := by
  rw [List.take_succ_eq_append_getElem hi, List.flatten_append]; simp
theorem flat_le (ls : List (List Int)) (i : Nat) : (ls.take i).flatten.length ≤ ls.flatten.length := by
  conv => rhs; rw [← List.take_append_drop i ls, List.flatten_append, List.length_append]
  omega

set_option maxRecDepth 100000 in
set_option maxHeartbeats 4000000 in
theorem concat_calls (A : Option Addr) (c : Nat) (ls : List (List Int)) (w : World) (hr : Kd.C (Kd.slice 5 (Kd.int .u8)) w A ls.length ls) (_hc : ls.length ≤ c) (hn : ls.length ≤ 1000) (hl : ls.flatten.length ≤ 1000000) :
    Calls Try.prog 30 #[.slice A ls.length c] w fun e w' => ∃ v, e = .returned v ∧ w'.ownsRow w.heap.size 5 1 v ls.flatten.length (nums .u8 ls.flatten) ∧ Below w.heap.size w w' := by
  go_enter Try.func30, Try.ntmps30
  go_wp2
  go_loopw [3, 11] (fun p3 p11 wr => ∃ i : Nat, i ≤ ls.length ∧ p3 = .int .i64 ((ls.take i).flatten.length : Int) ∧ p11 = .int .i64 i ∧ Below w.heap.size w wr)
    (fun p3 p11 wr => match p11 with | .int _ i => ls.length - i.toNat | _ => 0)
  case atStart => exact ⟨0, Nat.zero_le _, by simp, rfl, Below.refl _ _⟩
  case round =>
    obtain ⟨i, hi, rfl, rfl, hB⟩ := hrel
    by_cases hlt : i < ls.length
    · obtain ⟨ad, B, d, rfl, hcell, hd, hrd⟩ := rows_at (Kd.C_below hr hB) i hlt
      have hf := flat_take ls i hlt
      have hle := flat_le ls (i + 1)
      have hlen : (ls.take (i + 1)).flatten.length = (ls.take i).flatten.length + (ls[i]).length := by rw [hf, List.length_append]
      obtain ⟨m, hm⟩ : ∃ m, (ls.take i).flatten.length = m := ⟨_, rfl⟩
      obtain ⟨li, hli⟩ : ∃ l, (ls[i]).length = l := ⟨_, rfl⟩
      rw [hm, hli] at hlen
      rw [hli] at hcell
      rw [hm]
      have HF := Lib.hid (show (ls.take (i + 1)).flatten.length = m + li from hlen)
      have HM : m + li ≤ 1000000 := by omega
      have w1 := w64s m li HM
      have HI : (i : Int) < (ls.length : Int) := by omega
      have HI2 : i + 1 ≤ 1000 := by omega
      clear hf hle hlen hm hli hrd hd hn hl hr hi hlt HM
      go_wp2
      go_roundw
      case rel => exact ⟨i + 1, by omega, by rw [w1, HF.out], by simp, hB⟩
      case measure => simp; omega
    · have hm : (ls.take i).flatten.length = ls.flatten.length := by rw [List.take_of_length_le (by omega)]
      rw [hm]
      obtain ⟨N, hN⟩ : ∃ N, ls.flatten.length = N := ⟨_, rfl⟩
      rw [hN]
      have hN1 : N ≤ 1000000000 := by omega
      have hg := fun W : World => grow_calls N hN1 W
      have HR := Lib.hid hr
      have HL := Lib.hid hl
      have HN := Lib.hid hn
      have HE := Lib.hid hN
      have HI : ¬ ((i : Int) < (ls.length : Int)) := by omega
      clear hm hN hN1 hr hl hn hi hlt
      go_wp2_with (go_at_call 37; refine (hg _).mono ?_; rintro e w2 ⟨B, d, rfl, hown, hB2⟩)
      go_loopw [6, 27] (fun p6 p27 w3 => ∃ j : Nat, j ≤ ls.length ∧ p27 = .int .i64 j ∧ (∃ B6 n6 c6, p6 = .slice B6 n6 c6) ∧ Below w.heap.size w w3 ∧ w3.ownsRow w.heap.size 5 1 p6 (ls.take j).flatten.length (nums .u8 (ls.take j).flatten))
        (fun p6 p27 w3 => match p27 with | .int _ i => ls.length - i.toNat | _ => 0)
      case atStart => exact ⟨0, Nat.zero_le _, rfl, ⟨_, _, _, rfl⟩, hB.trans (hB2.mono hB.size), own_weaken (by simpa [nums] using hown) hB.size⟩
      case round =>
        obtain ⟨j, hj, rfl, ⟨B6, n6, c6, rfl⟩, hB3, ho⟩ := hrel
        by_cases hlt : j < ls.length
        · obtain ⟨ad, B', d', rfl, hcell, hd', hrd⟩ := rows_at (Kd.C_below HR.out hB3) j hlt
          have hf := flat_take ls j hlt
          have hle := flat_le ls (j + 1)
          have hlen : (ls.take (j + 1)).flatten.length = (ls.take j).flatten.length + (ls[j]).length := by rw [hf, List.length_append]
          have hbd : ((ls.take j).flatten.length + (ls[j]).length) * 1 ≤ 140737488355328 := by have := HL.out; omega
          obtain ⟨x, hx⟩ : ∃ x, ls[j] = x := ⟨_, rfl⟩
          rw [hx] at hcell hrd hf hbd
          have HI2 : (j : Int) < (ls.length : Int) := by omega
          have HJ : j + 1 ≤ 1000 := by have := HN.out; omega
          have HO := Lib.hid ho
          have HF := Lib.hid hf
          have HD := Lib.hid hrd
          have HBD := Lib.hid hbd
          clear ho hf hle hlen hrd hbd hd' hx hlt hj
          go_wp2_with (refine print_append_row (w0 := w) w.heap.size rfl (.tmp 31) (.tmp 32) 27 5 .u8 1 rfl rfl Try.info5 (by decide) _ (ls.take j).flatten x B' _ d' rfl rfl HO.out HD.out hB3 hB3.size HBD.out ?_; intro v1 w4 hown4 hB4 _ _; obtain ⟨B7, c7, rfl⟩ := own_slice hown4)
          go_roundw
          case rel =>
            refine ⟨j + 1, by omega, by simp, ⟨_, _, _, rfl⟩, hB4, ?_⟩
            rw [HF.out]
            simpa using hown4
          case measure => simp; omega
        · have he : ls.take j = ls := List.take_of_length_le (by omega)
          rw [he] at ho
          have HO := Lib.hid ho
          have HI2 : ¬ ((j : Int) < (ls.length : Int)) := by omega
          clear ho he hlt hj
          go_wp2
          go_ret
          exact ⟨_, rfl, by have := HO.out; rw [List.length_flatten] at this; exact this, hB3⟩
end Go.Proofs.Ytlaanmkangikbaa
