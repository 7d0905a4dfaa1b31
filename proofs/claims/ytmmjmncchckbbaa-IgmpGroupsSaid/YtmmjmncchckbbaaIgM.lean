/-
  A small map of function values: filled, looked up; a call of a method value.
-/
import Derived.Test.YtmmjmncchckbbaaIgRp
import Derived.MapFrom
import Derived.ChangeMaps4
namespace Go.Proofs.Ytmmjmncchckbbaa
open Go.RowKit Go.Proofs.YtmmjmncchckbbaaW.PrintWords Go.Proofs.YtmmjmncchckbbaaW.PrintLast Go.Proofs.YtmmjmncchckbbaaW.PrintMore Go.Proofs.Ytmmjmncchckbbaa.PIg
set_option linter.unusedVariables false
set_option linter.unusedSimpArgs false
theorem ud67 : Try.prog.underlying 67 = some (.map 5 1) := by kernel_rfl
theorem ud5 : Try.prog.underlying 5 = some (.int .u8) := by kernel_rfl
theorem zv1 (w : World) : (zeroValue 1).run Try.prog w = .ok .nilFunc w := by rfl
section
variable {w : World} {b clock : Nat} {es : Array MapEntry} {kv : Int} {val : Value}
theorem run_ins (hb : w.heap[b]? = some (.map es clock)) (h1 : Instr.findNow (.int .u8) (.int .u8 kv) es.toList 0 = some none) :
    (Instr.mapUpdate 67 (.map (some b)) (.int .u8 kv) val).run Try.prog w = .ok () { w with heap := w.heap.setIfInBounds b (.map (es.push ⟨.int .u8 kv, val, clock⟩) (clock + 1)) } := by
  simp [Instr.mapUpdate, run_underlying ud67, MapKept.run_getObj_map hb, MapKept.run_checkKey ud5 (show MapKept.IsKey (.int .u8) (.int .u8 kv) from rfl), MapKept.run_findKey ud5 h1, MapKept.run_setObj_map _ hb, Result.andThen]
theorem run_look {z : Option (Nat × Value)} (hb : w.heap[b]? = some (.map es clock)) (h1 : Instr.findNow (.int .u8) (.int .u8 kv) es.toList 0 = some z) :
    (Instr.lookup 67 (.map (some b)) (.int .u8 kv) true).run Try.prog w = .ok (match z with | some (_, v) => .tuple #[v, .bool true] | none => .tuple #[.nilFunc, .bool false]) w := by
  cases z <;> simp [Instr.lookup, run_underlying ud67, MapKept.run_getObj_map hb, MapKept.run_checkKey ud5 (show MapKept.IsKey (.int .u8) (.int .u8 kv) from rfl), MapKept.run_findKey ud5 h1, zv1, Result.andThen]
end
section
variable {P : Program} {ops : Array Oper} {Q : Exit → Act → World → Prop}
theorem mk_ {W : World} {rest : List Oper} {o : Oper} {a : Act} (hg : o.guard = none) (t : TypeId) (hop : o.op = .makeMap t none)
    (h : ∀ b w1, b = W.heap.size → w1.heap[b]? = some (.map #[] 0) → Below W.heap.size W w1 → wpList P ops Q rest (a.put o.dst (.map (some b))) w1) : wpList P ops Q (o :: rest) a W := by
  refine wpList_plain hg fun K hK => ?_
  unfold Oper.wp
  simp only [execOp, hop, Option.map_none, Sem.run_bind, run_makeMap, Result.andThen]
  exact hK _ _ (h _ _ rfl (by show (W.heap.push (Obj.map #[] 0))[W.heap.size]? = _; simp) (below_alloc (Below.refl _ _) _))
theorem ins_ {w : World} {rest : List Oper} {o : Oper} {a : Act} (hg : o.guard = none) (m v : Operand) (kv : Int) (hop : o.op = .insert 67 m (.const (.int .u8 kv)) v)
    (b clock : Nat) (es : Array MapEntry) (hm : a.eval m = .map (some b)) (val : Value) (hv : a.eval v = val) (hb : w.heap[b]? = some (.map es clock)) (h1 : Instr.findNow (.int .u8) (.int .u8 kv) es.toList 0 = some none)
    (h : ∀ w1, w1.heap[b]? = some (.map (es.push ⟨.int .u8 kv, val, clock⟩) (clock + 1)) → RM w w1 b → wpList Try.prog ops Q rest (a.put o.dst undef) w1) : wpList Try.prog ops Q (o :: rest) a w := by
  refine wpList_plain hg fun K hK => ?_
  unfold Oper.wp
  have he : a.eval (.const (.int .u8 kv)) = .int .u8 kv := rfl
  simp only [execOp, hop, hm, hv, he, Sem.run_bind, run_ins hb h1, Result.andThen]
  refine hK _ _ (h _ (MapKept.heap_set hb).1 ⟨⟨?_, fun q hq hq1 _ => (MapKept.heap_set hb).2 q hq1⟩, ⟨rfl, rfl, rfl, ?_, fun q hq => absurd hq (Nat.not_lt_zero _)⟩⟩)
  · simp
  · simp
theorem goesB_ {rest : List Oper} {oi : Oper} {a : Act} {w : World} (N : Option Tmp) (hd : oi.dst = N) (hg : oi.guard = none) {f : FuncId} {fn : Func} {xs : Array Operand} {ts : Array TypeId} {cv : Operand} (hf : P.funcs[f]? = some fn) (hname : (fn.name == "runtime.NumGoroutine") = false) (hb : fn.body.isSome = true) (first args : Array Value)
    (hop : oi.op = .call { callee := .value cv, args := xs, argTypes := ts }) (hv : a.eval cv = .func (.func f) first #[]) (hargs : first ++ xs.map a.eval = args)
    (h : Calls P f args w fun e w' => ∃ v, e = .returned v ∧ wpList P ops Q rest (a.put N v) w') : wpList P ops Q (oi :: rest) a w := by
  refine wpList_plain hg fun K hK => ?_
  have he := enters_ hf hname hb args w
  have hrun : (execOp a.eval oi).run P w = .ok (.enter f args) w := by
    unfold execOp
    rw [hop]
    simp only [resolve, hv]
    simp [Deferred.ofValue, invoke, hargs, he]
  unfold Oper.wp
  rw [hrun, Oper.upon_enter]
  refine h.mono fun e w'' hh => ?_
  obtain ⟨v, rfl, hk⟩ := hh
  subst hd
  exact hK _ _ hk
end
end Go.Proofs.Ytmmjmncchckbbaa
