/-
  A small map of function values: filled, looked up; a call of one of them (chapter 08).
-/
import Derived.Test.YtbllchfgjginoaaMeX
import Derived.MapFrom
import Derived.ChangeMaps4
namespace Go.Proofs.Ytbllchfgjginoaa
open Go.RowKit Go.Lib Go.Proofs.YtbllchfgjginoaaW.PrintWords Go.Proofs.YtbllchfgjginoaaW.PrintLast Go.Proofs.YtbllchfgjginoaaW.PrintMore Go.Proofs.Ytbllchfgjginoaa.PMe
set_option linter.unusedVariables false
set_option linter.unusedSimpArgs false
theorem ud69 : Try.prog.underlying 69 = some (.map 5 67) := by kernel_rfl
theorem ud5 : Try.prog.underlying 5 = some (.int .u8) := by kernel_rfl
theorem zv67 (w : World) : (zeroValue 67).run Try.prog w = .ok .nilFunc w := by kernel_rfl
section
variable {w : World} {b clock : Nat} {es : Array MapEntry} {kv : Int} {val : Value}
theorem run_ins (hb : w.heap[b]? = some (.map es clock)) (h1 : Instr.findNow (.int .u8) (.int .u8 kv) es.toList 0 = some none) :
    (Instr.mapUpdate 69 (.map (some b)) (.int .u8 kv) val).run Try.prog w = .ok () { w with heap := w.heap.setIfInBounds b (.map (es.push ⟨.int .u8 kv, val, clock⟩) (clock + 1)) } := by
  simp [Instr.mapUpdate, run_underlying ud69, MapKept.run_getObj_map hb, MapKept.run_checkKey ud5 (show MapKept.IsKey (.int .u8) (.int .u8 kv) from rfl), MapKept.run_findKey ud5 h1, MapKept.run_setObj_map _ hb, Result.andThen]
theorem run_look {z : Option (Nat × Value)} (hb : w.heap[b]? = some (.map es clock)) (h1 : Instr.findNow (.int .u8) (.int .u8 kv) es.toList 0 = some z) :
    (Instr.lookup 69 (.map (some b)) (.int .u8 kv) true).run Try.prog w = .ok (match z with | some (_, v) => .tuple #[v, .bool true] | none => .tuple #[.nilFunc, .bool false]) w := by
  cases z <;> simp [Instr.lookup, run_underlying ud69, MapKept.run_getObj_map hb, MapKept.run_checkKey ud5 (show MapKept.IsKey (.int .u8) (.int .u8 kv) from rfl), MapKept.run_findKey ud5 h1, zv67, Result.andThen]
end
section
variable {P : Program} {ops : Array Oper} {Q : Exit → Act → World → Prop}
theorem mk_ {W : World} {rest : List Oper} {o : Oper} {a : Act} (hg : o.guard = none) (t : TypeId) (hop : o.op = .makeMap t none)
    (h : ∀ b w1, b = W.heap.size → w1.heap[b]? = some (.map #[] 0) → Below W.heap.size W w1 → wpList P ops Q rest (a.put o.dst (.map (some b))) w1) : wpList P ops Q (o :: rest) a W := by
  refine wpList_plain hg fun K hK => ?_
  unfold Oper.wp
  simp only [execOp, hop, Option.map_none, Sem.run_bind, run_makeMap, Result.andThen]
  exact hK _ _ (h _ _ rfl (by show (W.heap.push (Obj.map #[] 0))[W.heap.size]? = _; simp) (below_alloc (Below.refl _ _) _))
theorem ins_ {w : World} {rest : List Oper} {o : Oper} {a : Act} (hg : o.guard = none) (m v : Operand) (kv : Int) (hop : o.op = .insert 69 m (.const (.int .u8 kv)) v)
    (b clock : Nat) (es : Array MapEntry) (hm : a.eval m = .map (some b)) (val : Value) (hv : a.eval v = val) (hb : w.heap[b]? = some (.map es clock)) (h1 : Instr.findNow (.int .u8) (.int .u8 kv) es.toList 0 = some none)
    (h : ∀ w1, w1.heap[b]? = some (.map (es.push ⟨.int .u8 kv, val, clock⟩) (clock + 1)) → (∀ n VV, Below n VV w → n ≤ b → Below n VV w1) → wpList Try.prog ops Q rest (a.put o.dst undef) w1) : wpList Try.prog ops Q (o :: rest) a w := by
  refine wpList_plain hg fun K hK => ?_
  unfold Oper.wp
  have he : a.eval (.const (.int .u8 kv)) = .int .u8 kv := rfl
  simp only [execOp, hop, hm, hv, he, Sem.run_bind, run_ins hb h1, Result.andThen]
  exact hK _ _ (h _ (MapKept.heap_set hb).1 (fun n VV h hn => ⟨h.os, h.tape, h.output, by simpa using h.size, fun k hk => ((MapKept.heap_set hb).2 k (by omega)).trans (h.block k hk)⟩))
theorem goesB_ {rest : List Oper} {oi : Oper} {a : Act} {w : World} (N : Option Tmp) (hd : oi.dst = N) (hg : oi.guard = none) {f : FuncId} {fn : Func} {xs : Array Operand} {ts : Array TypeId} {cv : Operand} (hf : P.funcs[f]? = some fn) (hname : (fn.name == "runtime.NumGoroutine") = false) (hb : fn.body.isSome = true) (first args : Array Value)
    (hop : oi.op = .call { callee := .value cv, args := xs, argTypes := ts }) (hv : a.eval cv = .func (.func f) first #[]) (hargs : first ++ xs.map a.eval = args)
    (h : Calls P f args w fun e w' => ∃ v, e = .returned v ∧ wpList P ops Q rest (a.put N v) w') : wpList P ops Q (oi :: rest) a w := by
  refine wpList_plain hg fun K hK => ?_
  have he := enters_ hf hname hb args w
  have hrun : (execOp a.eval oi).run P w = .ok (.enter f args) w := by
    unfold execOp
    rw [hop]
    simp only [resolve, hv]
    simp [Deferred.ofValue, invoke, hargs, he]
  unfold Oper.wp
  rw [hrun, Oper.upon_enter]
  refine h.mono fun e w'' hh => ?_
  obtain ⟨v, rfl, hk⟩ := hh
  subst hd
  exact hK _ _ hk
end
def es6 : Array MapEntry := ((((((#[] : Array MapEntry).push ⟨.int .u8 1, .func (.func 23) #[] #[], 0⟩).push ⟨.int .u8 5, .func (.func 23) #[] #[], 0 + 1⟩).push ⟨.int .u8 2, .func (.func 24) #[] #[], 0 + 1 + 1⟩).push ⟨.int .u8 6, .func (.func 25) #[] #[], 0 + 1 + 1 + 1⟩).push ⟨.int .u8 4, .func (.func 26) #[] #[], 0 + 1 + 1 + 1 + 1⟩).push ⟨.int .u8 3, .func (.func 27) #[] #[], 0 + 1 + 1 + 1 + 1 + 1⟩
/-- A row of held sources, cloned. -/
theorem cloneH_w (A : Option Addr) (c : Nat) (l : List S49) (w : World) (hn : l.length ≤ 1000000) (hr : Kd.C k49 w A l.length l) :
    Calls Try.prog 29 #[.slice A l.length c] w fun e w' => ∃ v, e = .returned v ∧ Kd.R k49 49 w' w.heap.size (fun _ => True) v l ∧ Below w.heap.size w w' := by
  have hrr : ReadsRow (fun (x : S49) c => c = [.int .u32 x.f0, .int .i64 x.f1]) 2 w A l.length l := ReadsRow.imp_ (w := w) (w1 := w) hr (Below.refl _ _) (fun p c hp => k49_open hp)
  refine (clone_w (R := fun (x : S49) c => c = [.int .u32 x.f0, .int .i64 x.f1]) (fun p c hp => by rw [hp]; intro u hu; simp only [List.mem_cons] at hu; rcases hu with rfl | rfl | hu <;> first | rfl | cases hu) A c l w hn hrr).mono ?_
  rintro e w' ⟨v, rfl, inner, ho, hR, h1, hg⟩
  exact ⟨v, rfl, ⟨fun _ _ => trivial, inner, ho, Reps.imp_ hR (fun p c hp => by rw [hp]; exact k49_mkM _ _ _ _)⟩, ⟨hg.os, hg.tape, hg.output, hg.size, fun k hk => hg.block k hk (by simp)⟩⟩
end Go.Proofs.Ytbllchfgjginoaa
