/-
  The calls of the package ip, told by the plain laws.
-/
import Derived.Test.YtlaanmkangikbaaIpT
namespace Go.Proofs.Ytlaanmkangikbaa
open Go.RowKit Go.Proofs.YtlaanmkangikbaaW.PrintWords Go.Proofs.YtlaanmkangikbaaW.PrintLast Go.Proofs.YtlaanmkangikbaaW.PrintMore Go.Proofs.Ytlaanmkangikbaa.PIp

theorem encode_calls {s d p t i : Int} {al : Bool} {b x : List Int} {e0 : Int} (h : HOk s d p t i) (hb : b.length ≤ 140737488355328) (he : enc s d p t i al b = (x, e0)) (A : Option Addr) (c : Nat) (w : World) (hr : Kd.C (Kd.int .u8) w A b.length b) (hc : b.length ≤ c) :
    Calls Try.prog 10 #[.agg #[.int .u32 s, .int .u32 d, .int .u8 p, .int .u8 t, .int .u16 i, .bool al], .slice A b.length c] w fun e w' => ∃ v : Value, e = .returned (.tuple #[v, .int .i64 e0]) ∧ Kd.R (Kd.int .u8) 5 w' w.heap.size (fun k => w.heap.size ≤ k) v x ∧ Below w.heap.size w w' :=
  ip_Encode.calls (0 + 6) s d p t i al (fun _ => True) A c b x e0 w (Kd.V_mk hc (Kd.F_mono (Kd.C_F (Kd.heap_int .u8) hr) (fun _ _ => trivial))) (by rw [encode_some h al b (by omega), he])
theorem decode_calls {f : List Int} (hb : Byt f) (hl : f.length ≤ 1000000) {s d p t i : Int} {al : Bool} {b : List Int} {e0 : Int} (hd : dec f = (s, d, p, t, i, al, b, e0)) (A : Option Addr) (c : Nat) (w : World) (hr : Kd.C (Kd.int .u8) w A f.length f) (hc : f.length ≤ c) :
    Calls Try.prog 11 #[.slice A f.length c] w fun e w' => ∃ v : Value, e = .returned (.tuple #[.agg #[.int .u32 s, .int .u32 d, .int .u8 p, .int .u8 t, .int .u16 i, .bool al], v, .int .i64 e0]) ∧ Kd.R (Kd.int .u8) 5 w' w.heap.size (fun _ => True) v b ∧ Below w.heap.size w w' :=
  ip_Decode.calls (0 + 9) A c f s d p t i al b e0 w hr hc (by rw [decode_some hb hl, hd])
/-- What is passed on. -/
def pass (f : List Int) : List Int × Int :=
  if (dec f).2.2.2.2.2.2.2 = 0 then
    (if (dec f).2.2.2.1 < 2 then ([], 6) else enc (dec f).1 (dec f).2.1 (dec f).2.2.1 ((dec f).2.2.2.1 - 1) (dec f).2.2.2.2.1 (dec f).2.2.2.2.2.1 (dec f).2.2.2.2.2.2.1)
  else ([], (dec f).2.2.2.2.2.2.2)
theorem passed_some {f : List Int} (hb : Byt f) (hl : f.length ≤ 1000000) (k : Nat) : ip_Passed.f (k + 9) f = some (pass f) := by
  unfold ip_Passed.f pass
  rw [decode_some hb hl, Option.bind_some]
  by_cases c : (dec f).2.2.2.2.2.2.2 = 0
  · rw [if_pos c, if_pos c]
    by_cases c2 : (dec f).2.2.2.1 < 2
    · rw [if_pos c2, if_pos c2]
    · obtain ⟨e, _, _, h20, _⟩ := dec_right c
      have ho := fields_ok hb
      rw [if_neg c2, if_neg c2]
      have e4 : (dec f).2.2.2.1 = rd f 8 := by rw [e]
      rw [e4] at c2 ⊢
      have hr := hb.rd 8
      rw [show (rd f 8 - 1) % 256 = rd f 8 - 1 from by omega, e]
      simp only
      rw [show k + 9 = (k + 3) + 6 from rfl, encode_some ⟨ho.1, ho.2.1, ho.2.2.1, by omega, ho.2.2.2.2⟩ _ _ (by rw [List.length_drop, List.length_take]; omega)]
      rfl
  · rw [if_neg c, if_neg c]
theorem passed_calls {f : List Int} (hb : Byt f) (hl : f.length ≤ 1000000) {x : List Int} {e0 : Int} (hp : pass f = (x, e0)) (A : Option Addr) (c : Nat) (w : World) (hr : Kd.C (Kd.int .u8) w A f.length f) (hc : f.length ≤ c) :
    Calls Try.prog 15 #[.slice A f.length c] w fun e w' => ∃ v : Value, e = .returned (.tuple #[v, .int .i64 e0]) ∧ Kd.R (Kd.int .u8) 5 w' w.heap.size (fun _ => True) v x ∧ Below w.heap.size w w' :=
  ip_Passed.calls (0 + 9) A c f x e0 w hr hc (by rw [passed_some hb hl, hp])
theorem same_calls {a b : List Int} {r : Bool} (hl : a.length ≤ 1000000) (h : (a == b) = r) (A : Option Addr) (c : Nat) (B : Option Addr) (d : Nat) (w : World) (hr : Kd.C (Kd.int .u8) w A a.length a) (hc : a.length ≤ c) (hr2 : Kd.C (Kd.int .u8) w B b.length b) (hc2 : b.length ≤ d) :
    Calls Try.prog 12 #[.slice A a.length c, .slice B b.length d] w fun e w' => e = .returned (.bool r) ∧ Below w.heap.size w w' :=
  (stolonref01_Same.calls (a.length + 1) A c a B d b r w hr hc hr2 hc2 (by rw [same_some a b (by omega) _ (by omega), h])).mono (fun e w' hh => ⟨hh.1, by obtain ⟨_, nd, rfl⟩ := hh; exact pw_below_drewN (Below.refl _ _) _⟩)
theorem wf_u32 {x : Int} (h : (Lit.int .u32 x).wf = true) : 0 ≤ x ∧ x < 4294967296 := by
  simp [Lit.wf, IntKind.min, IntKind.max, IntKind.bits, IntKind.signed] at h
  omega
theorem hok_wf {s d p t i : Int} (h1 : (Lit.int .u32 s).wf = true) (h2 : (Lit.int .u32 d).wf = true) (h3 : (Lit.int .u8 p).wf = true) (h4 : (Lit.int .u8 t).wf = true) (h5 : (Lit.int .u16 i).wf = true) : HOk s d p t i := ⟨wf_u32 h1, wf_u32 h2, wf_u8 h3, wf_u8 h4, wf_u16 h5⟩
end Go.Proofs.Ytlaanmkangikbaa
