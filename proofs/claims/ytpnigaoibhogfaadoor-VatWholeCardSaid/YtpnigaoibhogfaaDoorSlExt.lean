/- YtpnigaoibhogfaaDoorSlExt: a part of the proof: walks over the translated code, and plain facts on lists beside. -/
import Derived.Test.YtpnigaoibhogfaaDoorSlStr
import Derived.Laws.Externs
set_option linter.all false
namespace Go.Sl
open Go Go.RowKit
section
variable {P : Program} {w w0 : World} {f : Fr} {p : Par} {K : Fr → World → Prop} {r : Plan} {h : Hist} {l : Lds} {i : Nat} {v : Value} {ty : TypeId} {pos : String} {after : Array Edge} {dst : Option Nat} {g : Option (Nat × Bool)}
/-- A call of what lies outside, where it only reckons. -/
theorem O_callx {k : Nat} {fn : Func} {e : Array Value → Sem Value} {as_ : Array Operand} {ts : Array TypeId} {vs : List Value} (ho : p.ops[i]? = some ⟨dst, .call ⟨.value (.func k), as_, ts⟩, ty, pos, after, g⟩) (hk : p.kind i = 2)
    (hw : wantF f p.ops ⟨dst, .call ⟨.value (.func k), as_, ts⟩, ty, pos, after, g⟩ = some true) (hn : dstOk f dst = true)
    (hf : P.funcs[k]? = some fn) (hname : (fn.name == "runtime.NumGoroutine") = false) (hb : fn.body.isNone = true) (hnx : Extern.findNext fn = none) (he : Extern.find fn = some e)
    (hvs : f.evs as_.toList = some vs) (hrun : (e vs.toArray).run P w = .ok v w) (hl : ldsOk p i l w)
    (H : wpR P p K r (pushH p i w h) l (putd f dst v) w) : wpR P p K (.one i r) h l f w :=
  R_actU (Rr := fun v' w' => v' = v ∧ w' = w) ho rfl hk hw hn (fun ρ hρ => by
    have e1 : as_.map ρ = vs.toArray := map_toArray (evs_map hρ hvs)
    have e2 : ρ (.func k) = .func (.func k) #[] #[] := hρ _ _ rfl
    simp only [execOp, resolve, e1, e2, Deferred.ofValue]
    simp only [Sem.run_bind, Sem.run_pure, Result.andThen, invoke, Array.empty_append, Array.append_empty, run_callFunc_extern hf hname hb hnx he, hrun]
    exact ⟨rfl, rfl⟩) (fun v' w' ⟨_, e⟩ => e ▸ hl) (fun v' w' ⟨e1, e2⟩ => by subst e1; subst e2; exact H)
end
end Go.Sl
