/-
  The document's frame, told by the plain law.
-/
import Derived.Test.YtlaanmkangikbaaIpUa
import Derived.Test.YtlaanmkangikbaaIpW
namespace Go.Proofs.Ytlaanmkangikbaa
open Go.RowKit Go.Proofs.YtlaanmkangikbaaW.PrintWords Go.Proofs.YtlaanmkangikbaaW.PrintLast Go.Proofs.YtlaanmkangikbaaW.PrintMore Go.Proofs.Ytlaanmkangikbaa.PIp
set_option linter.unusedVariables false
theorem refenc_calls {s d p t i : Int} {al : Bool} {b x : List Int} {e0 : Int} (h : HOk s d p t i) (hb : b.length ≤ 1000000) (he : enc s d p t i al b = (x, e0)) (A : Option Addr) (c : Nat) (w : World) (hr : Kd.C (Kd.int .u8) w A b.length b) (hc : b.length ≤ c) :
    Calls Try.prog 13 #[.agg #[.int .u32 s, .int .u32 d, .int .u8 p, .int .u8 t, .int .u16 i, .bool al], .slice A b.length c] w fun e w' => ∃ v : Value, e = .returned (.tuple #[v, .int .i64 e0]) ∧ Kd.R (Kd.int .u8) 5 w' w.heap.size (fun _ => True) v x ∧ Below w.heap.size w w' := by
  obtain ⟨K, hK⟩ : ∃ K : Nat, 6000 < K := ⟨6001, by omega⟩
  exact stolonref04_Encode.calls (K + 1) s d p t i al A c b x e0 w hr hc (by rw [Ref.refenc_some h al b hb K hK, he])
end Go.Proofs.Ytlaanmkangikbaa
