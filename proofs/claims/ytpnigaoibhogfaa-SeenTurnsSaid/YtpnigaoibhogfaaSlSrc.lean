/- YtpnigaoibhogfaaSlSrc: a part of the proof: walks over the translated code, and plain facts on lists beside. -/
import Derived.Test.YtpnigaoibhogfaaSlSeen
import Derived.Test.YtpnigaoibhogfaaSlRd
set_option linter.all false
namespace Go.Sl
open Go Go.RowKit
/-! ### A list of sources: an own row of threes, each with a row that is only read -/
structure Src where
  name : ByteArray
  floor : Int
  v : Value
  seqs : List Int
def srcE (x : Src) : List Value := [.string x.name, .int .i64 x.floor, x.v]
def srcP : List Src → HProp
  | [] => hemp
  | x :: r => rdP x.v x.seqs.length (x.seqs.map fun n => .int .i64 n) * srcP r
def Src.tell (x : Src) : ByteArray × (Int × List Int) := (x.name, (x.floor, x.seqs))
def srcsP (e : TypeId) (v : Value) (l : List (ByteArray × (Int × List Int))) : HProp :=
  hex fun Q : List Src => pur (Q.map Src.tell = l) * (sl e 3 v Q.length (Q.flatMap srcE) * srcP Q)
theorem srcP_app {a b : List Src} : srcP (a ++ b) = srcP a * srcP b := by
  induction a with
  | nil => rw [List.nil_append]; exact (hemp_star _).symm
  | cons x r ih => simp only [List.cons_append, srcP, ih]; rw [star_assoc]
theorem srcs_open {w0 w : World} {R : HProp} {e : TypeId} {v : Value} {l : List (ByteArray × (Int × List Int))} (h : Sat w0 (srcsP e v l * R) w) : ∃ Q : List Src, Q.map Src.tell = l ∧ Sat w0 (sl e 3 v Q.length (Q.flatMap srcE) * (srcP Q * R)) w := by
  obtain ⟨Q, h⟩ := Sat.ex h
  obtain ⟨hp, h⟩ := Sat.pure (h.to (star_assoc _ _ _))
  exact ⟨Q, hp, h.to (by ac_rfl)⟩
theorem srcs_mk {w0 w : World} {R : HProp} {e : TypeId} {v : Value} {Q : List Src} (h : Sat w0 (sl e 3 v Q.length (Q.flatMap srcE) * (srcP Q * R)) w) : Sat w0 (srcsP e v (Q.map Src.tell) * R) w :=
  Sat.mkex Q ((Sat.mkpure (p := Q.map Src.tell = Q.map Src.tell) rfl (h.to (by ac_rfl))).to (star_assoc _ _ _).symm)
end Go.Sl
