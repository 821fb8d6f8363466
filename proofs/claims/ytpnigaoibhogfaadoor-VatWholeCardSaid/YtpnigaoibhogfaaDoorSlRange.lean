/- YtpnigaoibhogfaaDoorSlRange: a part of the proof: walks over the translated code, and plain facts on lists beside. -/
import Derived.Test.YtpnigaoibhogfaaDoorSlSlice
set_option linter.all false
namespace Go.Sl
open Go Go.RowKit

/-! ### A range over a function, over frames that are known -/
def putAll : List (Nat × Value) → List (Nat × Value) → List (Nat × Value)
  | l, [] => l
  | l, x :: r => putAll (x :: l) r

def roundF {α : Type} (w0 : World) (I : List α → HProp) (Ix : Code → List α → HProp) (R : HProp) (xs : List α) : Exit → Fr → World → Prop
  | .normal, _, w => Sat w0 (I xs * R) w
  | .ret, _, w => Sat w0 (Ix .ret xs * R) w
  | .exit id, _, w => Sat w0 (Ix (.exit id) xs * R) w
  | .goto t, _, w => Sat w0 (Ix (.goto t) xs * R) w
  | .panic _, _, _ => False
  | .outgrown, _, _ => False

def hbot : HProp := fun _ => False
theorem Sat.bot {w0 w : World} {A B C : HProp} (h : Sat w0 (A * (B * (hbot * C))) w) : False := by
  have h' : Sat w0 (hbot * (A * (B * C))) w := h.to (by ac_rfl)
  obtain ⟨_, _, _, _, ⟨_, _, _, _, hf, _⟩, _⟩ := h'
  exact hf
section
variable {P : Program} {Q : Exit → Fr → World → Prop} {f : Fr} {w w0 : World}

theorem Ok.putAll {n : Nat} {ds : List Nat} : ∀ {zs : List (Nat × Value)} {l : List (Nat × Value)} {t : Array Value} {df : List Deferred}, Ok ⟨n, ds, l⟩ ⟨t, df⟩ → (zs.all fun z => Nat.blt z.1 n) = true →
    Ok ⟨n, ds, putAll l zs⟩ ⟨zs.foldl (fun t (p, v) => t.setIfInBounds p v) t, df⟩
  | [], _, _, _, h, _ => h
  | (d, v) :: zs, l, t, df, h, hz => by
    simp only [List.all_cons, Bool.and_eq_true] at hz
    exact Ok.putAll (zs := zs) (h.put (d := d) (v := v) hz.1) hz.2

theorem F_range {α : Type} {g : Operand} {ps : Array Tmp} {assign body : Code} {gf : Nat} {first lb : Array Value} (hg : f.ev g = some (.func (.func gf) first lb)) (eg : ∀ args w, (callFunc gf args).run P w = .ok (.enter gf args) w)
    {It : HProp} (encl : α → List Value) {xs : List α} (hit : Iter P (.func (.func gf) first lb) It (fun x => (encl x).toArray) xs) (pl : List Nat) (hpl : ps = pl.toArray) (hlen : ∀ x, (encl x).length = pl.length)
    (hpn : (pl.all fun d => Nat.blt d f.n) = true)
    (I : List α → HProp) (Ix : Code → List α → HProp) {R0 : HProp} (h0 : Sat w0 (It * (I [] * R0)) w)
    (hround : ∀ (l : Nat) (pre : List α) (x : α) (post : List α) (R : HProp) (W : World), xs = pre ++ x :: post → Sat w0 (I pre * R) W →
      wpF P (some l) assign (thenF (fun f₁ W₁ => ∃ M : HProp, Sat w0 (M * R) W₁ ∧ ∀ R' W', Sat w0 (M * R') W' → wpF P (some l) body (roundF w0 I Ix R' (pre ++ [x])) f₁ W') (fun _ _ _ => False))
        ⟨f.n, [], putAll f.l (pl.zip (encl x))⟩ W)
    (hdone : ∀ (D : Nat) (W : World), Sat w0 (pt D (.deferred (some [])) * (It * (I xs * R0))) W → Q .normal ⟨f.n, D :: f.ds, f.l⟩ W)
    (hstop : ∀ (D : Nat) (c : Code) (pre : List α) (W : World), pre <+: xs → Sat w0 (pt D (.deferred (some [])) * (It * (Ix c pre * R0))) W → wpF P none c Q ⟨f.n, D :: f.ds, f.l⟩ W) :
    wpF P none (.rangeFunc g ps assign body) Q f w := by
  intro a ha
  have mark : ∀ D, Ok ⟨f.n, D :: f.ds, f.l⟩ { a with defers := { target := .collected D, args := #[] } :: a.defers } := fun D => ⟨ha.1, by simp [markL, ha.2.1], ha.2.2⟩
  refine wpIn_range (ha.ev hg) eg hit (by intro x; rw [hpl]; simp [hlen]) I Ix h0 ?_ (fun D W hS => ⟨_, mark D, hdone D W hS⟩) (fun D c pre W hp hS => hstop D c pre W hp hS _ (mark D))
  intro l pre x post R W hx hS
  have hz : ((pl.zip (encl x)).all fun z => Nat.blt z.1 f.n) = true := by
    rw [List.all_eq_true] at hpn ⊢
    intro z hz
    exact hpn z.1 (List.of_mem_zip (a := z.1) (b := z.2) hz).1
  have hok : Ok ⟨f.n, [], putAll f.l (pl.zip (encl x))⟩ { tmps := (ps.zip (encl x).toArray).foldl (fun t (p, v) => t.setIfInBounds p v) a.tmps, defers := [] } := by
    have h1 := Ok.putAll (zs := pl.zip (encl x)) (l := f.l) (t := a.tmps) (df := []) (ds := []) (n := f.n) ⟨ha.1, rfl, ha.2.2⟩ hz
    have e : (ps.zip (encl x).toArray).foldl (fun t (p, v) => t.setIfInBounds p v) a.tmps = (pl.zip (encl x)).foldl (fun t (p, v) => t.setIfInBounds p v) a.tmps := by
      subst hpl
      rw [← Array.foldl_toList]
      simp
    rw [e]
    exact h1
  refine wpIn_mono (hround l pre x post R W hx hS _ hok) ?_
  rintro e a₁ W₁ ⟨f₁, hf₁, hp⟩
  cases e with
  | normal =>
    obtain ⟨M, hM, hbody⟩ := hp
    refine ⟨M, hM, fun R' W' hS' => wpIn_mono (hbody R' W' hS' a₁ hf₁) ?_⟩
    rintro e a₂ W₂ ⟨f₂, hf₂, hq⟩
    cases e <;> exact hq
  | exit id => exact hp.elim
  | goto t => exact hp.elim
  | ret => exact hp.elim
  | panic ch => exact hp.elim
  | outgrown => exact hp.elim
theorem marks1 {D : Nat} {A : HProp} (h : Sat w0 (pt D (.deferred (some [])) * A) w) : Sat w0 (marks [D] * A) w := h.to (by simp only [marks, star_hemp])
end
end Go.Sl
