/-
  The example at the head of all statements is so.
-/
import Derived.Test.YtlaanmkangikbaaPIpx8
import Derived.Test.YtlaanmkangikbaaIpP
import Derived.Test.YtlaanmkangikbaaPIpx9
namespace Go.Proofs.Ytlaanmkangikbaa
open Go.RowKit Go.Proofs.YtlaanmkangikbaaW.PrintWords Go.Proofs.YtlaanmkangikbaaW.PrintLast Go.Proofs.YtlaanmkangikbaaW.PrintMore Go.Proofs.Ytlaanmkangikbaa.PIp
/-- The document's example, as bytes. -/
def bs0 : List Int := [69, 0, 0, 20, 0, 0, 0, 0, 0, 0, 186, 235, 0, 0, 0, 0, 0, 0, 0, 0]
theorem enc0 : ip_Encode.f 6 0 0 0 0 0 false [] = some (bs0, 0) := by
  rw [show (6 : Nat) = 0 + 6 from rfl, encode_some (by unfold HOk; omega) false [] (by simp)]
  exact congrArg some (by decide)
theorem dec0 : ip_Decode.f 9 bs0 = some (0, 0, 0, 0, 0, false, [], 0) := by
  rw [show (9 : Nat) = 0 + 9 from rfl, decode_some (by intro z hz; simp only [bs0, List.mem_cons, List.not_mem_nil, or_false] at hz; omega) (by decide)]
  exact congrArg some (by kernel_rfl)

set_option maxHeartbeats 8000000 in
set_option maxRecDepth 100000 in
theorem shown_calls (w : World) : Calls Try.prog 9 #[] w fun e w' => e = .returned (.bool true) ∧ Below w.heap.size w w' := by
  have hu26 := Try.underlying26
  have HB := Aside0.mk (Below.refl w.heap.size w)
  obtain ⟨t281, ht⟩ : ∃ t, t = bs0 := ⟨_, rfl⟩
  have A1 := Aside0.mk enc0
  have A2 := Aside0.mk dec0
  rw [← ht] at A1 A2
  have hl : t281.length = 20 := by rw [ht]; rfl
  have hl' : (t281.length : Int) = 20 := by rw [hl]; rfl
  have r0 : rd t281 0 = 69 := by rw [ht]; rfl
  have r3 : rd t281 3 = 20 := by rw [ht]; rfl
  have r10 : rd t281 10 = 186 := by rw [ht]; rfl
  have r11 : rd t281 11 = 235 := by rw [ht]; rfl
  clear ht
  have HL := Aside0.mk hl
  have HL' := Aside0.mk hl'
  clear hl hl'
  go_enter Try.func9, Try.ntmps9
  go_upto_region 3 with (first | (go_at_call 10; refine (ip_Encode.calls 6 0 0 0 0 0 false (fun _ => False) _ _ ([] : List Int) t281 0 _ (Kd.V_nil _ _ _ _ _) A1.out).mono ?_; rintro e w1 ⟨v, rfl, hR, hB1⟩; obtain ⟨Ao, co, rfl⟩ := Kd.R_slice hR) | (go_at_call 11; refine (ip_Decode.calls 9 _ _ t281 0 0 0 0 0 false [] 0 _ (Kd.R_reads' hR).2.2 (Kd.R_reads' hR).2.1 A2.out).mono ?_; rintro e w2 ⟨v2, rfl, hR2, hB2⟩; obtain ⟨Ao2, co2, rfl⟩ := Kd.R_slice hR2; have HC := Aside0.mk (Kd.C_below (Kd.R_reads' hR).2.2 hB2); have HB12 := Aside0.mk (hB1.trans (hB2.mono hB1.size)); clear hR hR2 hB1 hB2) | ((with_reducible refine gate_dst (N := 3) rfl ?_); refine box_event ?hg (N := 3) ?hd (cs := #[.int .u32 0, .int .u32 0, .int .u8 0, .int .u8 0, .int .u16 0, .bool false]) (t := 26) ?hr ?_; (case hd => rfl); (case hg => rfl); (case hr => first | (go_simp; done) | (go_simp; rfl)); intro gb hg w3 hbox hb3; have hc0 : w3.cell? ⟨gb, 0, none⟩ = some (.int .u32 0) := (blk_cell hbox 0).trans rfl; have hc1 : w3.cell? ⟨gb, 1, none⟩ = some (.int .u32 0) := (blk_cell hbox 1).trans rfl; have hc2 : w3.cell? ⟨gb, 2, none⟩ = some (.int .u8 0) := (blk_cell hbox 2).trans rfl; have hc3 : w3.cell? ⟨gb, 3, none⟩ = some (.int .u8 0) := (blk_cell hbox 3).trans rfl; have hc4 : w3.cell? ⟨gb, 4, none⟩ = some (.int .u16 0) := (blk_cell hbox 4).trans rfl; have hc5 : w3.cell? ⟨gb, 5, none⟩ = some (.bool false) := (blk_cell hbox 5).trans rfl; have hf0 := blk_frozen hbox 0; have hf1 := blk_frozen hbox 1; have hf2 := blk_frozen hbox 2; have hf3 := blk_frozen hbox 3; have hf4 := blk_frozen hbox 4; have hf5 := blk_frozen hbox 5; have GE := Aside0.mk (show w.heap.size ≤ gb by rw [hg]; exact HB12.out.size); have HB3 := Aside0.mk (HB12.out.trans (hb3.mono HB12.out.size)); have TR := Aside0.mk (show ∀ (a : Addr) (v : Value), a.block < gb → w2.cell? a = some v → ((((((w3.setCell ⟨gb, 0, none⟩ (.int .u32 0)).setCell ⟨gb, 1, none⟩ (.int .u32 0)).setCell ⟨gb, 2, none⟩ (.int .u8 0)).setCell ⟨gb, 3, none⟩ (.int .u8 0)).setCell ⟨gb, 4, none⟩ (.int .u16 0)).setCell ⟨gb, 5, none⟩ (.bool false)).cell? a = some v from fun a v hn h => have hne : a.block ≠ gb := Nat.ne_of_lt hn; (cell_far (p := ⟨gb, 5, none⟩) hne _).trans ((cell_far (p := ⟨gb, 4, none⟩) hne _).trans ((cell_far (p := ⟨gb, 3, none⟩) hne _).trans ((cell_far (p := ⟨gb, 2, none⟩) hne _).trans ((cell_far (p := ⟨gb, 1, none⟩) hne _).trans ((cell_far (p := ⟨gb, 0, none⟩) hne _).trans ((hb3.cell (hg ▸ hn)).trans h))))))); have HG := Aside0.mk hg; clear hg hbox hb3))
  have hl := HL.out
  obtain ⟨ad, rfl, x0⟩ := Kd.at_int HC.out 0 (by omega) (by omega)
  obtain ⟨ad3, e3, x3⟩ := Kd.at_int HC.out 3 (by omega) (by omega)
  cases e3
  obtain ⟨ad10, e10, x10⟩ := Kd.at_int HC.out 10 (by omega) (by omega)
  cases e10
  obtain ⟨ad11, e11, x11⟩ := Kd.at_int HC.out 11 (by omega) (by omega)
  cases e11
  have bl : ad.block < gb := by rw [HG.out]; exact World.block_lt_of_cell? w2 _ x0
  simp only [show (0 : Int).toNat = 0 from rfl, show (3 : Int).toNat = 3 from rfl, show (10 : Int).toNat = 10 from rfl, show (11 : Int).toNat = 11 from rfl, Nat.reduceEqDiff, Go.Addr.add, ↓reduceIte, r0, r3, r10, r11] at x0 x3 x10 x11
  have y0 := TR.out _ _ bl x0
  have y3 := TR.out _ _ (by exact bl) x3
  have y10 := TR.out _ _ (by exact bl) x10
  have y11 := TR.out _ _ (by exact bl) x11
  have GE2 := GE.out
  have HB4 := HB3.out
  have hb20 : ((t281.length : Int) == 20) = true := by rw [HL'.out]; rfl
  clear x0 x3 x10 x11 HC TR bl HG GE HB3 HB12 A1 A2 r0 r3 r10 r11 HL HL' HB
  go_wp2
  go_ret
  exact ⟨rfl, by repeat (first | (with_reducible first | exact HB4 | refine below_set ?_ GE2) | exact HB4)⟩
end Go.Proofs.Ytlaanmkangikbaa
