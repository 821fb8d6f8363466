/- YtpnigaoibhogfaaDoorSlSrc: a part of the proof: walks over the translated code, and plain facts on lists beside. -/
import Derived.Test.YtpnigaoibhogfaaDoorSlSeen
import Derived.Test.YtpnigaoibhogfaaDoorSlRd
set_option linter.all false
namespace Go.Sl
open Go Go.RowKit
/-! ### A list of sources: an own row of threes, each with a row that is only read -/
structure Src where
  name : ByteArray
  floor : Int
  v : Value
  seqs : List Int
def srcE (x : Src) : List Value := [.string x.name, .int .i64 x.floor, x.v]
def srcP (P0 : HProp) : List Src → HProp
  | [] => hemp
  | x :: r => rdP P0 x.v x.seqs.length (x.seqs.map fun n => .int .i64 n) * srcP P0 r
def Src.tell (x : Src) : ByteArray × (Int × List Int) := (x.name, (x.floor, x.seqs))
theorem srcP_app {P0 : HProp} {a b : List Src} : srcP P0 (a ++ b) = srcP P0 a * srcP P0 b := by
  induction a with
  | nil => rw [List.nil_append]; exact (hemp_star _).symm
  | cons x r ih => simp only [List.cons_append, srcP, ih]; rw [star_assoc]
end Go.Sl
