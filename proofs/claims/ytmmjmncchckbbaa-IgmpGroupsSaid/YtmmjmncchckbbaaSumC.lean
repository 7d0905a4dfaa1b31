/-
  Package sum: Put, by a contract.
-/
import Derived.Test.YtmmjmncchckbbaaSumB
namespace Go.Proofs.Ytmmjmncchckbbaa
open Go.RowKit Go.Shelf Go.Proofs.YtmmjmncchckbbaaW.PrintWords
attribute [local go_sem] Oper.semAt_some

theorem Try.info5 : (Try.prog.info? 5).map (fun i => (i.zero, i.size, i.bytes)) = some (some (.int .u8 0), 1, 1) := by kernel_rfl

/-- The bytes with their sum put at m. -/
def zeroed (zs : List Int) (m : Nat) : List Int := (zs.set m 0).set (m + 1) 0
def putOf (zs : List Int) (m : Nat) : List Int := ((zeroed zs m).set m (sumOf (zeroed zs m) / 256)).set (m + 1) (sumOf (zeroed zs m) % 256)

theorem zeroed_len (zs : List Int) (m : Nat) : (zeroed zs m).length = zs.length := by simp [zeroed]
theorem zeroed_byte (zs : List Int) (m : Nat) (hz : ∀ z ∈ zs, 0 ≤ z ∧ z < 256) : ∀ z ∈ zeroed zs m, 0 ≤ z ∧ z < 256 := by
  intro z h
  unfold zeroed at h
  rcases List.mem_or_eq_of_mem_set h with h | rfl
  · rcases List.mem_or_eq_of_mem_set h with h | rfl
    · exact hz z h
    · omega
  · omega
theorem sumOf_range (zs : List Int) (hz : ∀ z ∈ zs, 0 ≤ z ∧ z < 256) : 0 ≤ sumOf zs ∧ sumOf zs < 65536 := by
  have := fold_range zs hz (List.range ((zs.length + 1) / 2)) 0 (by omega) (by omega)
  unfold sumOf
  omega

set_option maxRecDepth 100000 in
set_option maxHeartbeats 2000000 in
theorem put_yes (A : Option Addr) (c : Nat) (zs : List Int) (m : Nat) (w : World) (hl : zs.length ≤ 140737488351232) (hcap : zs.length ≤ c) (hz : ∀ z ∈ zs, 0 ≤ z ∧ z < 256) (hr : (Kd.int .u8).C w A zs.length zs)
    (hm : m % 2 = 0) (hm2 : m + 2 ≤ zs.length) :
    Calls Try.prog 26 #[.slice A zs.length c, .int .i64 m] w fun e w' => ∃ v, e = .returned (.tuple #[v, .int .i64 0]) ∧ (Kd.int .u8).R 5 w' w.heap.size (fun _ => True) v (putOf zs m) ∧ Below w.heap.size w w' := by
  have hmk := print_make (P := Try.prog) 30 5 .u8 1 rfl Try.info5 (by decide) zs.length (by omega)
  have hd0 : decide ((m : Int) < 0) = false := by simp
  have hd1 : ((m : Int) % 2 != 0) = false := by simp; omega
  have hd2 : decide (((zs.length : Int) - 2) < (m : Int)) = false := by simp; omega
  go_enter Try.func26, Try.ntmps26
  go_wp2_with (with_reducible refine Kd.R_copy (o := ⟨some 27, _, _, _, _, _⟩) (enc := Value.int .u8) (h1 := fun _ => rfl) (d := (0 : Int)) (w0 := w) w.heap.size rfl (.tmp 25) (.tmp 26) 30 30 5 rfl rfl (by kernel_rfl) (.slice (some ⟨w.heap.size, 0, none⟩) zs.length zs.length) (List.replicate zs.length 0) zs A zs.length c (fun _ => True) rfl rfl ?c1 ?c2 ?c3 ?c4 ?_)
  case c1 => exact Kd.R_of_own (by rw [List.length_replicate]; exact own_made w w.heap.size 5 .u8 zs.length (Nat.le_refl _) (by omega)) (fun _ _ => trivial)
  case c2 => exact Kd.C_alloc hr _
  case c3 => exact (Below.refl _ _).alloc (Nat.le_refl _) _
  case c4 => simp
  intro w1 HR HB1 hg1
  clear hg1 hmk hd0 hd1 hd2
  replace HR : (Kd.int .u8).R 5 w1 w.heap.size (fun _ => True) (.slice (some ⟨w.heap.size, 0, none⟩) zs.length zs.length) zs := HR
  obtain ⟨k0, k1⟩ := Kd.R_celln (0 : Int) HR (m : Int) (by omega) (by omega)
  have HR2 := Kd.R_putn HR (m : Int) 0
  simp only [Int.toNat_natCast] at k0 k1 HR2
  obtain ⟨k2, k3⟩ := Kd.R_celln (0 : Int) HR2 ((m + 1 : Nat) : Int) (by omega) (by omega)
  have HR3 := Kd.R_putn HR2 ((m + 1 : Nat) : Int) 0
  simp only [Int.toNat_natCast] at k2 k3 HR3
  have HB3 : Below w.heap.size w ((w1.setCell ⟨w.heap.size, m, none⟩ (.int .u8 0)).setCell ⟨w.heap.size, m + 1, none⟩ (.int .u8 0)) := (HB1.setCell (p := ⟨w.heap.size, m, none⟩) (Nat.le_refl _) _).setCell (p := ⟨w.heap.size, m + 1, none⟩) (Nat.le_refl _) _
  go_wp2_with fail
  obtain ⟨w3, hw3⟩ : ∃ w3, ((w1.setCell ⟨w.heap.size, m, none⟩ (.int .u8 0)).setCell ⟨w.heap.size, m + 1, none⟩ (.int .u8 0)) = w3 := ⟨_, rfl⟩
  rw [hw3] at HB3 ⊢
  replace HR3 : (Kd.int .u8).R 5 w3 w.heap.size (fun _ => True) (.slice (some ⟨w.heap.size, 0, none⟩) zs.length zs.length) (zeroed zs m) := by rw [← hw3]; exact HR3
  clear k0 k1 k2 k3 HR2 HR HB1 hw3
  have hrd := Kd.reads_of_C (enc := Value.int .u8) (d := (0 : Int)) (h1 := fun _ => rfl) (Kd.R_reads' HR3).2.2
  have hof := of_calls (some ⟨w.heap.size, 0, none⟩) (zeroed zs m).length (zeroed zs m) w3 (by rw [zeroed_len]; exact hl) (Nat.le_refl _) (zeroed_byte zs m hz) hrd
  have hs := sumOf_range (zeroed zs m) (zeroed_byte zs m hz)
  have HP : Hid (putOf zs m = ((zeroed zs m).set m (sumOf (zeroed zs m) / 256)).set (m + 1) (sumOf (zeroed zs m) % 256)) := rfl
  rw [zeroed_len] at hof
  clear hrd
  generalize zeroed zs m = zz at *
  generalize sumOf zz = s at *
  obtain ⟨s0, s1⟩ := hs
  refine hof.mono ?_
  rintro e w4 ⟨rfl, HB4⟩
  have HR4 := Kd.R_below HR3 HB4
  have HB5 := HB3.trans (HB4.mono HB3.size)
  clear HB3 HB4 HR3 hof
  obtain ⟨k0, k1⟩ := Kd.R_celln (0 : Int) HR4 (m : Int) (by omega) (by omega)
  have HR5 := Kd.R_putn HR4 (m : Int) (s / 256)
  simp only [Int.toNat_natCast] at k0 k1 HR5
  obtain ⟨k2, k3⟩ := Kd.R_celln (0 : Int) HR5 ((m + 1 : Nat) : Int) (by omega) (by omega)
  have HR6 := Kd.R_putn HR5 ((m + 1 : Nat) : Int) (s % 256)
  simp only [Int.toNat_natCast] at k2 k3 HR6
  have HB6 : Below w.heap.size w ((w4.setCell ⟨w.heap.size, m, none⟩ (.int .u8 (s / 256))).setCell ⟨w.heap.size, m + 1, none⟩ (.int .u8 (s % 256))) := (HB5.setCell (p := ⟨w.heap.size, m, none⟩) (Nat.le_refl _) _).setCell (p := ⟨w.heap.size, m + 1, none⟩) (Nat.le_refl _) _
  go_wp2
  go_ret2
  exact ⟨_, rfl, by rw [HP.out]; exact HR6, HB6⟩

set_option maxRecDepth 100000 in
set_option maxHeartbeats 2000000 in
theorem put_no (A : Option Addr) (c : Nat) (zs : List Int) (n : Int) (w : World) (hl : zs.length ≤ 140737488351232) (hn : -9223372036854775808 ≤ n ∧ n ≤ 9223372036854775807)
    (h : n < 0 ∨ (0 ≤ n ∧ n % 2 ≠ 0) ∨ (0 ≤ n ∧ n % 2 = 0 ∧ (zs.length : Int) - 2 < n)) :
    Calls Try.prog 26 #[.slice A zs.length c, .int .i64 n] w fun e w' => e = .returned (.tuple #[.slice none 0 0, .int .i64 1]) ∧ w' = w := by
  rcases h with h | ⟨h0, h⟩ | ⟨h0, h, h1⟩
  · have hd0 : decide (n < 0) = true := by simpa using h
    go_enter Try.func26, Try.ntmps26
    go_wp2
    go_ret2
    exact ⟨rfl, rfl⟩
  · have hd0 : decide (n < 0) = false := by simpa using h0
    have hd1 : (n % 2 != 0) = true := by simpa using h
    go_enter Try.func26, Try.ntmps26
    go_wp2
    go_ret2
    exact ⟨rfl, rfl⟩
  · have hd0 : decide (n < 0) = false := by simpa using h0
    have hd1 : (n % 2 != 0) = false := by simpa using h
    have hd2 : decide (((zs.length : Int) - 2) < n) = true := by simpa using h1
    clear h
    go_enter Try.func26, Try.ntmps26
    go_wp2
    go_ret2
    exact ⟨rfl, rfl⟩
end Go.Proofs.Ytmmjmncchckbbaa
