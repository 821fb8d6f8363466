/- YtpnigaoibhogfaaDoorSlTag: a part of the proof: walks over the translated code, and plain facts on lists beside. -/
import Derived.Test.YtpnigaoibhogfaaDoorSlPT
set_option linter.all false
namespace Go.Sl
open Go Go.RowKit
/-! ### Names and words -/
def smallP (c : Int) : Prop := 97 ≤ c ∧ c ≤ 122
def restP (c : Int) : Prop := smallP c ∨ (48 ≤ c ∧ c ≤ 57) ∨ c = 95 ∨ c = 46
def nameP (s : List UInt8) : Prop := 1 ≤ s.length ∧ s.length ≤ 24 ∧ (∀ x, s.head? = some x → smallP x.toNat) ∧ ∀ x ∈ s, restP x.toNat
def wordP (s : List UInt8) : Prop := nameP s ∧ ¬ (46 : UInt8) ∈ s
def nameI (p : List UInt8) : Prop := (∀ x, p.head? = some x → smallP x.toNat) ∧ ∀ x ∈ p, restP x.toNat
theorem nameI_nil : nameI [] := ⟨fun x h => by simp at h, fun x h => by simp at h⟩
theorem nameI_snoc {p : List UInt8} {x : UInt8} (h : nameI p) (h1 : p.length = 0 → smallP x.toNat) (h2 : restP x.toNat) : nameI (p ++ [x]) := by
  refine ⟨fun y hy => ?_, fun y hy => ?_⟩
  · cases p with
    | nil => simp at hy; subst hy; exact h1 rfl
    | cons a p => simp at hy; subst hy; exact h.1 _ rfl
  · rcases List.mem_append.1 hy with e | e
    · exact h.2 y e
    · rw [List.mem_singleton.1 e]; exact h2
theorem nameI_bad {p q : List UInt8} {x : UInt8} (h1 : ¬ smallP x.toNat) (h2 : p.length = 0 ∨ ¬ restP x.toNat) : ¬ nameP (p ++ x :: q) := by
  rintro ⟨_, _, h3, h4⟩
  rcases h2 with e | e
  · have : p = [] := List.eq_nil_of_length_eq_zero e
    subst this
    exact h1 (h3 x rfl)
  · exact e (h4 x (by simp))
end Go.Sl
