/- YtpnigaoibhogfaaDoorSlStr: a part of the proof: walks over the translated code, and plain facts on lists beside. -/
import Derived.Test.YtpnigaoibhogfaaDoorSlLaw
import Derived.Lib.Bytealg
set_option linter.all false
namespace Go.Sl
open Go Go.RowKit Go.Lib
/-! ### Texts, in their order -/
theorem cb_irr : ∀ a : List UInt8, compareBytes a a = 0
  | [] => rfl
  | x :: a => by simp [compareBytes, cb_irr a]
theorem cb_val : ∀ a b : List UInt8, compareBytes a b = -1 ∨ compareBytes a b = 0 ∨ compareBytes a b = 1
  | [], [] => by simp [compareBytes]
  | [], _ :: _ => by simp [compareBytes]
  | _ :: _, [] => by simp [compareBytes]
  | x :: a, y :: b => by
    unfold compareBytes
    split
    · simp
    · split
      · simp
      · exact cb_val a b
theorem cb_neg : ∀ a b : List UInt8, compareBytes b a = - compareBytes a b
  | [], [] => rfl
  | [], _ :: _ => rfl
  | _ :: _, [] => rfl
  | x :: a, y :: b => by
    unfold compareBytes
    by_cases h1 : x < y
    · have h2 : ¬ y < x := fun h => by simp only [UInt8.lt_iff_toNat_lt] at *; omega
      simp [h1, h2]
    · by_cases h2 : y < x
      · simp [h1, h2]
      · simp [h1, h2, cb_neg a b]
theorem cb_eq : ∀ a b : List UInt8, compareBytes a b = 0 → a = b
  | [], [], _ => rfl
  | [], _ :: _, h => by simp [compareBytes] at h
  | _ :: _, [], h => by simp [compareBytes] at h
  | x :: a, y :: b, h => by
    unfold compareBytes at h
    split at h
    · cases h
    · split at h
      · cases h
      · rename_i h1 h2
        have : x = y := by
          apply UInt8.toNat_inj.1
          simp only [UInt8.lt_iff_toNat_lt] at h1 h2
          omega
        rw [this, cb_eq a b h]
theorem cb_tr : ∀ a b c : List UInt8, compareBytes a b = -1 → compareBytes b c = -1 → compareBytes a c = -1
  | [], [], _, h, _ => by simp [compareBytes] at h
  | [], _ :: _, [], _, h => by simp [compareBytes] at h
  | [], _ :: _, _ :: _, _, _ => rfl
  | _ :: _, [], _, h, _ => by simp [compareBytes] at h
  | _ :: _, _ :: _, [], _, h => by simp [compareBytes] at h
  | x :: a, y :: b, z :: c, h, k => by
    unfold compareBytes at h k ⊢
    by_cases h1 : x < y <;> by_cases h2 : y < z
    · have : x < z := by simp only [UInt8.lt_iff_toNat_lt] at *; omega
      simp [this]
    · rw [if_neg h2] at k
      by_cases h3 : z < y
      · rw [if_pos h3] at k; simp at k
      · have : x < z := by simp only [UInt8.lt_iff_toNat_lt] at *; omega
        simp [this]
    · rw [if_neg h1] at h
      by_cases h3 : y < x
      · rw [if_pos h3] at h; simp at h
      · have : x < z := by simp only [UInt8.lt_iff_toNat_lt] at *; omega
        simp [this]
    · rw [if_neg h1] at h
      rw [if_neg h2] at k
      by_cases h3 : y < x
      · rw [if_pos h3] at h; simp at h
      · by_cases h4 : z < y
        · rw [if_pos h4] at k; simp at k
        · rw [if_neg h3] at h
          rw [if_neg h4] at k
          have e1 : ¬ x < z := by simp only [UInt8.lt_iff_toNat_lt] at *; omega
          have e2 : ¬ z < x := by simp only [UInt8.lt_iff_toNat_lt] at *; omega
          rw [if_neg e1, if_neg e2]
          exact cb_tr a b c h k
theorem ba_ext {a b : ByteArray} (h : a.data.toList = b.data.toList) : a = b := by
  obtain ⟨⟨la⟩⟩ := a
  obtain ⟨⟨lb⟩⟩ := b
  simp only at h
  rw [h]
def cmpS (a b : ByteArray) : Int := compareBytes a.data.toList b.data.toList
/-- Texts in their order. -/
def O_S : Lo ByteArray where
  lt a b := decide (cmpS a b = -1)
  irr a := by simp [cmpS, cb_irr]
  tr a b c h k := by simp only [decide_eq_true_eq] at *; exact cb_tr _ _ _ h k
  eq a b h k := by
    simp only [decide_eq_false_iff_not] at h k
    refine ba_ext (cb_eq _ _ ?_)
    have h1 := cb_val a.data.toList b.data.toList
    have h2 := cb_neg a.data.toList b.data.toList
    unfold cmpS at h k
    omega
theorem cmpv_S (a b : ByteArray) : cmpv O_S a b = cmpS a b := by
  have h1 := cb_val a.data.toList b.data.toList
  have h2 := cb_neg a.data.toList b.data.toList
  simp only [cmpv, O_S, decide_eq_true_eq]
  unfold cmpS
  split
  · rename_i h; exact h.symm
  · split <;> omega
end Go.Sl
