/- YtpnigaoibhogfaaDoorSlRd: a part of the proof: walks over the translated code, and plain facts on lists beside. -/
import Derived.Test.YtpnigaoibhogfaaDoorSlLaw
set_option linter.all false
namespace Go.Sl
open Go Go.RowKit
/-! ### A slice that is only read: what it leans on is its own, or stands in a pool P0 that all know of -/
section
variable {w w0 : World} {R P0 : HProp} {e : TypeId} {v : Value} {n : Nat} {xs : List Value}
def rdP (P0 : HProp) (v : Value) (n : Nat) (xs : List Value) : HProp := hex fun A : HProp => pur (∃ ad c, v = .slice ad n c ∧ n ≤ c ∧ c ≤ maxLen ∧ xs.length = n ∧ (ad = none → c = 0) ∧ Rds (P0 * A) ad xs) * A
theorem rd_open (h : Sat w0 (rdP P0 v n xs * R) w) : ∃ A ad c, v = .slice ad n c ∧ n ≤ c ∧ c ≤ maxLen ∧ xs.length = n ∧ (ad = none → c = 0) ∧ Rds (P0 * A) ad xs ∧ Sat w0 (A * R) w := by
  obtain ⟨A, h⟩ := Sat.ex h
  obtain ⟨⟨ad, c, h1, h2, h3, h4, h5, h6⟩, h⟩ := Sat.pure (h.to (star_assoc _ _ _))
  exact ⟨A, ad, c, h1, h2, h3, h4, h5, h6, h⟩
theorem rd_mk {A : HProp} {ad : Option Addr} {c : Nat} (h2 : n ≤ c) (h3 : c ≤ maxLen) (h4 : xs.length = n) (h5 : ad = none → c = 0) (h6 : Rds (P0 * A) ad xs) (h : Sat w0 (A * R) w) : Sat w0 (rdP P0 (.slice ad n c) n xs * R) w :=
  Sat.mkex A ((Sat.mkpure (show ∃ ad' c', (Value.slice ad n c) = .slice ad' n c' ∧ n ≤ c' ∧ c' ≤ maxLen ∧ xs.length = n ∧ (ad' = none → c' = 0) ∧ Rds (P0 * A) ad' xs from ⟨ad, c, rfl, h2, h3, h4, h5, h6⟩) h).to (star_assoc _ _ _).symm)
theorem Rds.inp {A B : HProp} {ad : Option Addr} {xs : List Value} (h : Rds A ad xs) : Rds (B * A) ad xs := fun w0 R w hS => h w0 (B * R) w (hS.to (by ac_rfl))
theorem rd_of_sl (h : Sat w0 (sl e 1 v n xs * R) w) : Sat w0 (rdP P0 v n xs * R) w := by
  obtain ⟨ad, c, rfl, h2, h3, h4⟩ := sl_form h
  exact rd_mk h2 h3 (by simpa using h4) (fun hn => (sl_nilS h hn).1) (Rds.inp sl_rds) h
/-- .. out of the pool alone. -/
theorem rd_of_pool {ad : Option Addr} {c : Nat} (h2 : n ≤ c) (h3 : c ≤ maxLen) (h4 : xs.length = n) (h5 : ad = none → c = 0) (h6 : Rds P0 ad xs) (h : Sat w0 R w) : Sat w0 (rdP P0 (.slice ad n c) n xs * R) w :=
  rd_mk (A := hemp) h2 h3 h4 h5 (fun w0 R w hS => h6 w0 R w (hS.to (by rw [star_hemp]))) (h.to (hemp_star _).symm)
theorem rd_part {A : HProp} {ad : Option Addr} {c lo hi : Nat} {part : List Value} (h2 : n ≤ c) (h5 : ad = none → c = 0) (h6 : Rds A ad xs) (h1 : lo ≤ hi) (hh : hi ≤ n) (hp : (xs.take hi).drop lo = part) :
    Rds A (if c = lo then ad else ad.map (·.add (lo * 1))) part ∧ ((if c = lo then ad else ad.map (·.add (lo * 1))) = none → c - lo = 0 ∧ hi - lo = 0) := by
  constructor
  · intro w0 R w hS
    have := RdW.slice (lo := lo) (hi := hi) (size := 1) (c := c) (h6 _ _ _ hS) (by omega)
    rw [Nat.mul_one, Nat.mul_one] at this
    rwa [← hp, Nat.mul_one]
  · intro hn
    have had : ad = none := by
      split at hn
      · exact hn
      · cases ad with
        | none => rfl
        | some a => cases hn
    have := h5 had
    omega
end
end Go.Sl
