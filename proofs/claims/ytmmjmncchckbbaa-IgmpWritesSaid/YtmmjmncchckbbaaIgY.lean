/-
  Contracts over the document's Encode and over igmp.Same.
-/
import Derived.Test.YtmmjmncchckbbaaIgCs
import Derived.Test.YtmmjmncchckbbaaIgC
import Derived.Test.YtmmjmncchckbbaaIgX
namespace Go.Proofs.Ytmmjmncchckbbaa
open Go.RowKit Go.Proofs.YtmmjmncchckbbaaW.PrintWords Go.Proofs.YtmmjmncchckbbaaW.PrintLast Go.Proofs.YtmmjmncchckbbaaW.PrintMore Go.Proofs.Ytmmjmncchckbbaa.PIg
set_option linter.unusedVariables false
set_option linter.unusedSimpArgs false
theorem renc_no {m : Msg} (hb : rightB m = false) (hl : m.recs.length ≤ 1000000) (A_s : Option Addr) (c_s : Nat) (A_r : Option Addr) (c_r : Nat) (w : World) (hss : Kd.C (Kd.int .u32) w A_s m.srcs.length m.srcs) (hscs : m.srcs.length ≤ c_s) (hrr : Kd.C k44 w A_r m.recs.length m.recs) (hrcr : m.recs.length ≤ c_r) : Calls Try.prog 14 #[.agg #[.int .u8 m.k, .int .i64 m.ver, .int .u8 m.code, .int .u32 m.grp, .bool m.quiet, .int .u8 m.rob, .int .u8 m.every, .slice A_s m.srcs.length c_s, .slice A_r m.recs.length c_r]] w fun e w' => e = .returned (.tuple #[.slice none 0 0, .int .i64 1]) ∧ Below w.heap.size w w' :=
  rencno_w A_s c_s A_r c_r w hss hscs hrr hrcr hb hl
theorem renc_ok {m : Msg} (ho : m.Ok) (hb : rightB m = true) {x : List Int} (hx : enc m = x) (A_s : Option Addr) (c_s : Nat) (A_r : Option Addr) (c_r : Nat) (w : World) (hss : Kd.C (Kd.int .u32) w A_s m.srcs.length m.srcs) (hscs : m.srcs.length ≤ c_s) (hrr : Kd.C k44 w A_r m.recs.length m.recs) (hrcr : m.recs.length ≤ c_r) : Calls Try.prog 14 #[.agg #[.int .u8 m.k, .int .i64 m.ver, .int .u8 m.code, .int .u32 m.grp, .bool m.quiet, .int .u8 m.rob, .int .u8 m.every, .slice A_s m.srcs.length c_s, .slice A_r m.recs.length c_r]] w fun e w' => ∃ v, e = .returned (.tuple #[v, .int .i64 0]) ∧ Kd.R (Kd.int .u8) 5 w' w.heap.size (fun _ => True) v x ∧ Below w.heap.size w w' := by
  subst hx
  have hv := right_view hb
  by_cases hk : m.k = 34
  · have hver : m.ver ≠ 3 := by cases hv <;> simp_all
    exact renc_a A_s c_s A_r c_r w hss hscs hrr hrcr hv ho hb hk hver
  · by_cases hver : m.ver = 3
    · by_cases hq : m.quiet = true
      · exact renc_ct A_s c_s A_r c_r w hss hscs hrr hrcr hv ho hb hk hver hq
      · exact renc_cf A_s c_s A_r c_r w hss hscs hrr hrcr hv ho hb hk hver (Bool.eq_false_iff.2 hq)
    · exact renc_b A_s c_s A_r c_r w hss hscs hrr hrcr hv ho hb hk hver
theorem gsame_w {m n : Msg} {b : Bool} (hb : decide (m = n) = b) (hl : m.size ≤ 1000000) (A_s : Option Addr) (c_s : Nat) (A_r : Option Addr) (c_r : Nat) (B_s : Option Addr) (d_s : Nat) (B_r : Option Addr) (d_r : Nat) (w : World) (hss : Kd.C (Kd.int .u32) w A_s m.srcs.length m.srcs) (hscs : m.srcs.length ≤ c_s) (hrr : Kd.C k44 w A_r m.recs.length m.recs) (hrcr : m.recs.length ≤ c_r) (hss2 : Kd.C (Kd.int .u32) w B_s n.srcs.length n.srcs) (hscs2 : n.srcs.length ≤ d_s) (hrr2 : Kd.C k44 w B_r n.recs.length n.recs) (hrcr2 : n.recs.length ≤ d_r) : Calls Try.prog 18 #[.agg #[.int .u8 m.k, .int .i64 m.ver, .int .u8 m.code, .int .u32 m.grp, .bool m.quiet, .int .u8 m.rob, .int .u8 m.every, .slice A_s m.srcs.length c_s, .slice A_r m.recs.length c_r], .agg #[.int .u8 n.k, .int .i64 n.ver, .int .u8 n.code, .int .u32 n.grp, .bool n.quiet, .int .u8 n.rob, .int .u8 n.every, .slice B_s n.srcs.length d_s, .slice B_r n.recs.length d_r]] w fun e w' => e = .returned (.bool b) ∧ Below w.heap.size w w' :=
  igmp_Same.calls (m.size + 1) m.k m.ver m.code m.grp m.quiet m.rob m.every A_s c_s m.srcs A_r c_r m.recs n.k n.ver n.code n.grp n.quiet n.rob n.every B_s d_s n.srcs B_r d_r n.recs b w hss hscs hrr hrcr hss2 hscs2 hrr2 hrcr2 (by rw [same_some m n hl (Nat.lt_succ_self _), hb])
theorem same0_w (w : World) : Calls Try.prog 17 #[.slice none 0 0, .slice none 0 0] w fun e w' => e = .returned (.bool true) ∧ Below w.heap.size w w' :=
  same1_w (k := 1) (a := []) (b := []) (by rfl) none 0 none 0 w (Kd.C_nil _ _) (Nat.le_refl _) (Kd.C_nil _ _) (Nat.le_refl _)
theorem same2_w {x : List Int} (hl : x.length ≤ 1000000) (A : Option Addr) (c : Nat) (B : Option Addr) (d : Nat) (w : World) (hr : Kd.C (Kd.int .u8) w A x.length x) (hc : x.length ≤ c) (hs : Kd.C (Kd.int .u8) w B x.length x) (hd : x.length ≤ d) : Calls Try.prog 17 #[.slice A x.length c, .slice B x.length d] w fun e w' => e = .returned (.bool true) ∧ Below w.heap.size w w' :=
  same1_w (k := x.length + 1) (a := x) (b := x) (by rw [bsame_some x x (by omega) _ (by omega)]; simp) A c B d w hr hc hs hd
end Go.Proofs.Ytmmjmncchckbbaa
