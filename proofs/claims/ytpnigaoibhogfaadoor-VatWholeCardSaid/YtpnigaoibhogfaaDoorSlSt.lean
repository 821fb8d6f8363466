/- YtpnigaoibhogfaaDoorSlSt: a part of the proof: walks over the translated code, and plain facts on lists beside. -/
import Derived.Test.YtpnigaoibhogfaaDoorSlEq
set_option linter.all false
namespace Go.Sl
open Go Go.RowKit
/-- All of a vat, in the document's words. -/
structure St where
  kind : Int
  many : Int
  high : Int
  low : Int
  last : Int
  time : Int
  seq : Int
  source : ByteArray
  samples : List Int
  members : List ByteArray
  deriving DecidableEq
theorem list_same {α : Type} {l m : List α} (hl : l.length = m.length) (h : ∀ k, k < l.length → l[k]? = m[k]?) : l = m := by
  apply List.ext_getElem?
  intro i
  rcases Nat.lt_or_ge i l.length with h1 | h1
  · exact h i h1
  · rw [List.getElem?_eq_none h1, List.getElem?_eq_none (by omega)]
theorem upto_snoc {α : Type} {l m : List α} {j : Nat} (h : ∀ k, k < j → l[k]? = m[k]?) (e : l[j]? = m[j]?) : ∀ k, k < j + 1 → l[k]? = m[k]? := fun k hk => by
  rcases Nat.lt_or_ge k j with h1 | h1
  · exact h k h1
  · rw [show k = j by omega]; exact e
end Go.Sl
