/- YtpnigaoibhogfaaDoorSlRes: a part of the proof: walks over the translated code, and plain facts on lists beside. -/
import Derived.Test.YtpnigaoibhogfaaDoorSlRef
set_option linter.all false
namespace Go.Sl
open Go Go.RowKit
/-! ### Results that are variables -/
section
variable {P : Program} {f : Fr} {w w0 : World} {R : Value → World → Prop} {fn : Func}
theorem loadVar_one {t : TypeId} {ad : Addr} {v : Value} (h2 : ∀ w, (isAgg t).run P w = .ok false w) (h3 : w.cell? ad = some v) : (loadVar t ad).run P w = .ok v w := by
  simp [loadVar, Sem.run_bind, h2, Result.andThen, load, Sem.run, h3]
theorem loadVar_agg {t : TypeId} {b o n : Nat} (cs : List Value) (ha : ∀ w, (isAgg t).run P w = .ok true w) (hsz : ∀ w, (sizeOf t).run P w = .ok n w) (hl : cs.length = n) (hc : RdW w (some ⟨b, o, none⟩) cs) : (loadVar t ⟨b, o, none⟩).run P w = .ok (.agg cs.toArray) w := by
  have hr := run_loadCellsFrom (P := P) (a := ⟨b, o, none⟩) (w := w) cs 0 #[] (fun j u hu => by
    obtain ⟨b', o', e, hc'⟩ := hc j u hu
    cases e
    rw [add_at]; simpa using hc')
  rw [hl] at hr
  simp [Sem.run_bind, Sem.run_pure, Result.andThen, loadVar, ha, hsz, loadCells, hr]
def ResIn (P : Program) (f : Fr) : List ResultVar → List Value → World → Prop
  | [], [], _ => True
  | .tmp t :: r, v :: vs, w => look f.l t = some v ∧ ResIn P f r vs w
  | .cell b t :: r, v :: vs, w => ∃ ad, look f.l b = some (.pointer (some ad)) ∧ (loadVar t ad).run P w = .ok v w ∧ ResIn P f r vs w
  | _, _, _ => False
theorem results_in {a : Act} (ha : Ok f a) {vs : List Value} {rs : List ResultVar} (hr : fn.results.toList = rs) (h : ResIn P f rs vs w) : (results fn a.tmps).run P w = .ok (oneRes vs) w := by
  have key : ∀ (rs : List ResultVar) (vs : List Value), ResIn P f rs vs w →
      (rs.mapM (m := Sem) fun | .tmp t => pure (a.tmps.getD t undef) | .cell b t => do loadVar t (← asAddr (a.tmps.getD b undef))).run P w = .ok vs w := by
    intro rs
    induction rs with
    | nil =>
      intro vs h
      cases vs with
      | nil => simp
      | cons _ _ => exact h.elim
    | cons x rs ih =>
      intro vs h
      cases vs with
      | nil => cases x <;> exact h.elim
      | cons v us =>
        cases x with
        | tmp t =>
          have e : a.tmps.getD t undef = v := ha.ev (x := .tmp t) h.1
          rw [List.mapM_cons]
          simp only [Sem.run_bind, Sem.run_pure, Result.andThen, e, ih us h.2]
        | cell b t =>
          obtain ⟨ad, h1, hl, h4⟩ := h
          have e : a.tmps.getD b undef = .pointer (some ad) := ha.ev (x := .tmp b) h1
          have ea : (asAddr (a.tmps.getD b undef) : Sem Addr) = pure ad := by rw [e]; rfl
          rw [List.mapM_cons]
          simp only [ea, Sem.run_bind, Sem.run_pure, Result.andThen, hl, ih us h4]
  have hk := key rs vs h
  have e : (fn.results.mapM (m := Sem) fun | .tmp t => pure (a.tmps.getD t undef) | .cell b t => do loadVar t (← asAddr (a.tmps.getD b undef))).run P w = .ok vs.toArray w := by
    rw [Array.mapM_eq_mapM_toList, hr]
    rw [Sem.run_map, hk]
    rfl
  unfold results
  rw [Sem.run_bind]
  refine (congrArg (fun r => Result.andThen r _) e).trans ?_
  show Sem.run P (pure (if h : vs.toArray.size = 1 then vs.toArray[0] else .tuple vs.toArray)) w = _
  rw [Sem.run_pure]
  congr 1
  unfold oneRes
  match vs with
  | [] => rfl
  | [v] => rfl
  | v :: u :: r => rfl
theorem end_in {A : HProp} {vs : List Value} {rs : List ResultVar} {e : Exit} (he : (match e with | .normal => True | .ret => True | _ => False)) (hr : fn.results.toList = rs) (hS : Sat w0 (marks f.ds * A) w)
    (h : ∀ w', Sat w0 A w' → ResIn P f rs vs w' ∧ R (oneRes vs) w') : endF P fn R e f w :=
  ⟨he, oneRes vs, w0, A, hS, fun a w' ha hs => ⟨results_in ha hr (h w' hs).1, (h w' hs).2⟩⟩
theorem run_buildA {t e : TypeId} {len size : Nat} {vs : List (Nat × Value)} {z : Value} (cs : Array Value) (hz : ∀ w, (zeroValue t).run P w = .ok z w) (hu : ∀ w, (underlying t).run P w = .ok (.array len e) w) (hs : ∀ w, (sizeOf e).run P w = .ok size w)
    (hf : Instr.fill (fun i => some (i * size, size)) z.cells vs = some cs) (w : World) : (Instr.build t vs.toArray).run P w = .ok (.agg cs) w := by
  unfold Instr.build
  simp only [Sem.run_bind, hz, hu, hs, Result.andThen]
  have hf' : Instr.fill (fun i => some (i * size, size)) z.cells vs.toArray.toList = some cs := by simpa using hf
  simp only [hf', Result.andThen, Sem.run_pure]
theorem F_loop3 {ro : Option Nat} {Q : Exit → Fr → World → Prop} {c : Code} {α β γ : Type} (L : α → β → γ → List (Nat × Value)) (A : α → β → γ → World → Prop) (μ : α → β → γ → Nat) (x0 : α) (y0 : β) (z0 : γ) (hL : Sup f (L x0 y0 z0)) (h0 : A x0 y0 z0 w)
    (round : ∀ x y z w, A x y z w → wpF P ro c (thenF (fun g w' => g.n = f.n ∧ g.ds = f.ds ∧ ∃ q : α × β × γ, Sup g (L q.1 q.2.1 q.2.2) ∧ A q.1 q.2.1 q.2.2 w' ∧ μ q.1 q.2.1 q.2.2 < μ x y z) Q) ⟨f.n, f.ds, L x y z⟩ w) : wpF P ro (.loop c) Q f w :=
  F_loop (α := α × β × γ) (fun q => L q.1 q.2.1 q.2.2) (fun q => A q.1 q.2.1 q.2.2) (fun q => μ q.1 q.2.1 q.2.2) (x0, y0, z0) hL h0 (fun q w h => round q.1 q.2.1 q.2.2 w h)
/-- The first of the things that reaches so far. -/
def nearE {κ : Type} (num den T : Int) : Int → List (κ × Int) → Option κ
  | _, [] => none
  | acc, x :: r => if num * T ≤ (acc + x.2) * den then some x.1 else nearE num den T (acc + x.2) r
theorem nearE_app {κ : Type} {num den T : Int} {l m : List (κ × Int)} : ∀ {acc : Int}, nearE num den T acc l = none → nearE num den T acc (l ++ m) = nearE num den T (acc + tot l) m := by
  induction l with
  | nil => intro acc _; simp [tot]
  | cons x r ih =>
    intro acc h
    simp only [nearE] at h
    split at h
    · cases h
    · rename_i hn
      simp only [List.cons_append, nearE, if_neg hn, ih h, tot]
      congr 1; omega
theorem nearE_pre {κ : Type} {num den T : Int} {k : κ} {l m : List (κ × Int)} : ∀ {acc : Int}, nearE num den T acc l = some k → nearE num den T acc (l ++ m) = some k := by
  induction l with
  | nil => intro acc h; cases h
  | cons x r ih =>
    intro acc h
    simp only [List.cons_append, nearE] at h ⊢
    split at h
    · rename_i hn; rw [if_pos hn]; exact h
    · rename_i hn; rw [if_neg hn]; exact ih h
theorem mul_bd {a b : Int} (h1 : 0 ≤ a ∧ a ≤ 1000000) (h2 : 0 ≤ b ∧ b ≤ 1000000) : 0 ≤ a * b ∧ a * b ≤ 1000000000000 :=
  ⟨Int.mul_nonneg h1.1 h2.1, Int.le_trans (Int.mul_le_mul h1.2 h2.2 h2.1 (by omega)) (by omega)⟩
theorem tot_app {κ : Type} {l m : List (κ × Int)} : tot (l ++ m) = tot l + tot m := by
  induction l with
  | nil => simp [tot]
  | cons x r ih => simp only [List.cons_append, tot, ih]; omega
end
end Go.Sl
