/- YtpnigaoibhogfaaDoorSlEq: a part of the proof: walks over the translated code, and plain facts on lists beside. -/
import Derived.Test.YtpnigaoibhogfaaDoorSlVat
import Derived.DeepKeys
import Derived.Laws.StructEq
set_option linter.all false
namespace Go.Sl
open Go Go.RowKit
/-! ### Two structs, compared part by part -/
section
variable {P : Program} {w : World} {d : Nat} {t e : TypeId} {xs ys : Array Value} {a b : Value} {r r' : Bool}
theorem eq_int {k : IntKind} {a b : Int} (hu : P.underlying t = some (.int k)) : (Op.equalIn (d + 1) t (.int k a) (.int k b)).run P w = .ok (a == b) w := by
  rw [Op.equalIn]; simp [Sem.run_bind, run_underlying hu, Result.andThen_ok, Sem.run_pure]
theorem eq_bool {a b : Bool} (hu : P.underlying t = some .bool) : (Op.equalIn (d + 1) t (.bool a) (.bool b)).run P w = .ok (a == b) w := by
  rw [Op.equalIn]; simp [Sem.run_bind, run_underlying hu, Result.andThen_ok, Sem.run_pure]
theorem eqF_nil : (Op.eqFields d xs ys []).run P w = .ok true w := by simp [Op.eqFields, Sem.run_pure]
theorem eqF_cons {f : Field} {fs : List Field} (hn : f.name ≠ "_") (pa : (part f.type xs f.offset).run P w = .ok a w) (pb : (part f.type ys f.offset).run P w = .ok b w) (he : (Op.equalIn d f.type a b).run P w = .ok r w) (hr : (Op.eqFields d xs ys fs).run P w = .ok r' w) :
    (Op.eqFields d xs ys (f :: fs)).run P w = .ok (r && r') w := by
  simp only [Op.eqFields, hn, ne_eq, not_false_eq_true, if_true, Sem.run_bind, pa, pb, he, Result.andThen_ok]
  cases r
  · simp [Sem.run_pure]
  · simpa using hr
theorem eqI_nil {c : Nat} : (Op.eqItems d e c xs ys []).run P w = .ok true w := by simp [Op.eqItems, Sem.run_pure]
theorem eqI_cons {c i : Nat} {is : List Nat} (pa : (part e xs (i * c)).run P w = .ok a w) (pb : (part e ys (i * c)).run P w = .ok b w) (he : (Op.equalIn d e a b).run P w = .ok r w) (hr : (Op.eqItems d e c xs ys is).run P w = .ok r' w) :
    (Op.eqItems d e c xs ys (i :: is)).run P w = .ok (r && r') w := by
  simp only [Op.eqItems, Sem.run_bind, pa, pb, he, Result.andThen_ok]
  cases r
  · simp [Sem.run_pure]
  · simpa using hr
end
section
variable {P : Program} {w w0 : World} {f : Fr} {p : Par} {K : Fr → World → Prop} {r : Plan} {h : Hist} {l : Lds} {i : Nat} {v : Value} {ty : TypeId} {pos : String} {after : Array Edge} {dst : Option Nat} {g : Option (Nat × Bool)}
theorem O_eqAgg {x y : Operand} {t yt : TypeId} {a b : Array Value} {c : Bool} (ho : p.ops[i]? = some ⟨dst, .binOp .eql t x y yt, ty, pos, after, g⟩) (hk : p.kind i = 0) (hw : wantF f p.ops ⟨dst, .binOp .eql t x y yt, ty, pos, after, g⟩ = some true) (hn : dstOk f dst = true)
    (hx : f.ev x = some (.agg a)) (hy : f.ev y = some (.agg b)) (heg : P.eqGuardType P.depth t = false) (he : ∀ w, (Op.equal t (.agg a) (.agg b)).run P w = .ok c w) (H : wpR P p K r h l (putd f dst (.bool c)) w) : wpR P p K (.one i r) h l f w :=
  R_soft ho rfl hk hw hn (fun ρ w' hρ => by
    simp only [rd, execOp, hρ x _ hx, hρ y _ hy]
    have hg : (eqGuard .eql t x y (.agg a) (.agg b)).run P w' = .ok () w' := run_eqGuard_agg _ _ _ _ _ _ _ heg
    simp [Sem.run_bind, hg, Result.andThen, binOp, he]) H
end
end Go.Sl
