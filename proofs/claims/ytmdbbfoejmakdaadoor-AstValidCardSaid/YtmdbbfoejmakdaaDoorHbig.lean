/-
  The law's measure Big, and two words on regions that draw. By this session, out of its own program (wip/gen).
-/
import Derived.Test.YtmdbbfoejmakdaaDoorHev
import Derived.Test.YtmdbbfoejmakdaaDoorHfun
namespace Go.Proofs.YtmdbbfoejmakdaaDoor.Ha
open Go.RowKit Go.Proofs.YtmdbbfoejmakdaaDoorW.PrintWords Go.Proofs.YtmdbbfoejmakdaaDoorW.PrintLast Go.Proofs.YtmdbbfoejmakdaaDoorW.PrintMore Go.Proofs.YtmdbbfoejmakdaaDoor.P
set_option linter.unusedVariables false
theorem quiet_val {P : Program} {o : Oper} {a : Act} {C : World → Prop} {K : Act → Prop} {v : Value} (hrun : ∀ w, C w → (execOp a.eval o).run P w = .ok (.value v) w) (hk : K (a.put o.dst v)) : o.quiet P a C K :=
  ⟨v, fun w hw => by unfold Oper.quietAt; rw [hrun w hw]; exact ⟨rfl, rfl⟩, hk⟩
theorem quiet_call {P : Program} {o : Oper} {a : Act} {C : World → Prop} {K : Act → Prop} {v : Value} {f : FuncId} {args : Array Value} (hrun : ∀ w, C w → (execOp a.eval o).run P w = .ok (.enter f args) w)
    (hc : ∀ w, C w → Calls P f args w fun e w'' => e = .returned v ∧ C w'') (hk : K (a.put o.dst v)) : o.quiet P a C K :=
  ⟨v, fun w hw => by unfold Oper.quietAt; rw [hrun w hw]; exact ⟨rfl, hc w hw⟩, hk⟩
theorem big1 {x : Nd} (h : Ev fun k => ontimelaw12_Big.f k x.f0 x.f1 x.f2 x.f3 = some 1) {A : Option Addr} {c : Nat} {w : World} (hA : At w x A c) : Calls Tryd.prog 22 #[nodeV x A c] w fun e w' => e = .returned (.int .i64 1) ∧ Below w.heap.size w w' := by
  obtain ⟨k, hk⟩ := h.ex
  exact ontimelaw12_Big.calls k x.f0 x.f1 x.f2 A c x.f3 1 w hA.1 hA.2 hk
theorem big0 {x : Nd} (h : Ev fun k => ontimelaw12_Big.f k x.f0 x.f1 x.f2 x.f3 = some 0) {A : Option Addr} {c : Nat} {w : World} (hA : At w x A c) : Calls Tryd.prog 22 #[nodeV x A c] w fun e w' => e = .returned (.int .i64 0) ∧ Below w.heap.size w w' := by
  obtain ⟨k, hk⟩ := h.ex
  exact ontimelaw12_Big.calls k x.f0 x.f1 x.f2 A c x.f3 0 w hA.1 hA.2 hk
end Go.Proofs.YtmdbbfoejmakdaaDoor.Ha
