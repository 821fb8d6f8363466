/- YtpnigaoibhogfaaDoorSlX: a part of the proof: walks over the translated code, and plain facts on lists beside. -/
import Derived.Test.YtpnigaoibhogfaaDoorSlSrc
import Derived.Laws.Strings
import Derived.Laws.Cover1
import Derived.Laws.Concat
set_option linter.all false
namespace Go.Sl
open Go Go.RowKit
/-! ### Places in an assertion -/
section
variable {w0 w : World} {A1 A2 A3 A4 A5 A6 A7 A8 A9 A10 A11 A12 R : HProp} {x1 x2 x3 x4 x5 x6 x7 x8 x9 x10 x11 x12 : Nat × Obj} {L : List (Nat × Obj)}
theorem Sat.u2 (h : Sat w0 (A1 * (A2 * R)) w) : Sat w0 (A2 * (A1 * R)) w := h.to (by ac_rfl)
theorem Sat.d2 (h : Sat w0 (A2 * (A1 * R)) w) : Sat w0 (A1 * (A2 * R)) w := h.to (by ac_rfl)
theorem Sat.u3 (h : Sat w0 (A1 * (A2 * (A3 * R))) w) : Sat w0 (A3 * (A1 * (A2 * R))) w := h.to (by ac_rfl)
theorem Sat.d3 (h : Sat w0 (A3 * (A1 * (A2 * R))) w) : Sat w0 (A1 * (A2 * (A3 * R))) w := h.to (by ac_rfl)
theorem Sat.u4 (h : Sat w0 (A1 * (A2 * (A3 * (A4 * R)))) w) : Sat w0 (A4 * (A1 * (A2 * (A3 * R)))) w := h.to (by ac_rfl)
theorem Sat.d4 (h : Sat w0 (A4 * (A1 * (A2 * (A3 * R)))) w) : Sat w0 (A1 * (A2 * (A3 * (A4 * R)))) w := h.to (by ac_rfl)
theorem Sat.u5 (h : Sat w0 (A1 * (A2 * (A3 * (A4 * (A5 * R))))) w) : Sat w0 (A5 * (A1 * (A2 * (A3 * (A4 * R))))) w := h.to (by ac_rfl)
theorem Sat.d5 (h : Sat w0 (A5 * (A1 * (A2 * (A3 * (A4 * R))))) w) : Sat w0 (A1 * (A2 * (A3 * (A4 * (A5 * R))))) w := h.to (by ac_rfl)
theorem Sat.u6 (h : Sat w0 (A1 * (A2 * (A3 * (A4 * (A5 * (A6 * R)))))) w) : Sat w0 (A6 * (A1 * (A2 * (A3 * (A4 * (A5 * R)))))) w := h.to (by ac_rfl)
theorem Sat.d6 (h : Sat w0 (A6 * (A1 * (A2 * (A3 * (A4 * (A5 * R)))))) w) : Sat w0 (A1 * (A2 * (A3 * (A4 * (A5 * (A6 * R)))))) w := h.to (by ac_rfl)
theorem Sat.u7 (h : Sat w0 (A1 * (A2 * (A3 * (A4 * (A5 * (A6 * (A7 * R))))))) w) : Sat w0 (A7 * (A1 * (A2 * (A3 * (A4 * (A5 * (A6 * R))))))) w := h.to (by ac_rfl)
theorem Sat.d7 (h : Sat w0 (A7 * (A1 * (A2 * (A3 * (A4 * (A5 * (A6 * R))))))) w) : Sat w0 (A1 * (A2 * (A3 * (A4 * (A5 * (A6 * (A7 * R))))))) w := h.to (by ac_rfl)
theorem Sat.u8 (h : Sat w0 (A1 * (A2 * (A3 * (A4 * (A5 * (A6 * (A7 * (A8 * R)))))))) w) : Sat w0 (A8 * (A1 * (A2 * (A3 * (A4 * (A5 * (A6 * (A7 * R)))))))) w := h.to (by ac_rfl)
theorem Sat.d8 (h : Sat w0 (A8 * (A1 * (A2 * (A3 * (A4 * (A5 * (A6 * (A7 * R)))))))) w) : Sat w0 (A1 * (A2 * (A3 * (A4 * (A5 * (A6 * (A7 * (A8 * R)))))))) w := h.to (by ac_rfl)
theorem Sat.u9 (h : Sat w0 (A1 * (A2 * (A3 * (A4 * (A5 * (A6 * (A7 * (A8 * (A9 * R))))))))) w) : Sat w0 (A9 * (A1 * (A2 * (A3 * (A4 * (A5 * (A6 * (A7 * (A8 * R))))))))) w := h.to (by ac_rfl)
theorem Sat.d9 (h : Sat w0 (A9 * (A1 * (A2 * (A3 * (A4 * (A5 * (A6 * (A7 * (A8 * R))))))))) w) : Sat w0 (A1 * (A2 * (A3 * (A4 * (A5 * (A6 * (A7 * (A8 * (A9 * R))))))))) w := h.to (by ac_rfl)
theorem Sat.u10 (h : Sat w0 (A1 * (A2 * (A3 * (A4 * (A5 * (A6 * (A7 * (A8 * (A9 * (A10 * R)))))))))) w) : Sat w0 (A10 * (A1 * (A2 * (A3 * (A4 * (A5 * (A6 * (A7 * (A8 * (A9 * R)))))))))) w := h.to (by ac_rfl)
theorem Sat.d10 (h : Sat w0 (A10 * (A1 * (A2 * (A3 * (A4 * (A5 * (A6 * (A7 * (A8 * (A9 * R)))))))))) w) : Sat w0 (A1 * (A2 * (A3 * (A4 * (A5 * (A6 * (A7 * (A8 * (A9 * (A10 * R)))))))))) w := h.to (by ac_rfl)
theorem Sat.u11 (h : Sat w0 (A1 * (A2 * (A3 * (A4 * (A5 * (A6 * (A7 * (A8 * (A9 * (A10 * (A11 * R))))))))))) w) : Sat w0 (A11 * (A1 * (A2 * (A3 * (A4 * (A5 * (A6 * (A7 * (A8 * (A9 * (A10 * R))))))))))) w := h.to (by ac_rfl)
theorem Sat.d11 (h : Sat w0 (A11 * (A1 * (A2 * (A3 * (A4 * (A5 * (A6 * (A7 * (A8 * (A9 * (A10 * R))))))))))) w) : Sat w0 (A1 * (A2 * (A3 * (A4 * (A5 * (A6 * (A7 * (A8 * (A9 * (A10 * (A11 * R))))))))))) w := h.to (by ac_rfl)
theorem Sat.u12 (h : Sat w0 (A1 * (A2 * (A3 * (A4 * (A5 * (A6 * (A7 * (A8 * (A9 * (A10 * (A11 * (A12 * R)))))))))))) w) : Sat w0 (A12 * (A1 * (A2 * (A3 * (A4 * (A5 * (A6 * (A7 * (A8 * (A9 * (A10 * (A11 * R)))))))))))) w := h.to (by ac_rfl)
theorem Sat.d12 (h : Sat w0 (A12 * (A1 * (A2 * (A3 * (A4 * (A5 * (A6 * (A7 * (A8 * (A9 * (A10 * (A11 * R)))))))))))) w) : Sat w0 (A1 * (A2 * (A3 * (A4 * (A5 * (A6 * (A7 * (A8 * (A9 * (A10 * (A11 * (A12 * R)))))))))))) w := h.to (by ac_rfl)
theorem Sat.g2 (h : Sat w0 (A1 * (A2 * R)) w) : Sat w0 ((A1 * (A2)) * R) w := h.to (by ac_rfl)
theorem Sat.n2 (h : Sat w0 ((A1 * (A2)) * R) w) : Sat w0 (A1 * (A2 * R)) w := h.to (by ac_rfl)
theorem Sat.g3 (h : Sat w0 (A1 * (A2 * (A3 * R))) w) : Sat w0 ((A1 * (A2 * (A3))) * R) w := h.to (by ac_rfl)
theorem Sat.n3 (h : Sat w0 ((A1 * (A2 * (A3))) * R) w) : Sat w0 (A1 * (A2 * (A3 * R))) w := h.to (by ac_rfl)
theorem Sat.g4 (h : Sat w0 (A1 * (A2 * (A3 * (A4 * R)))) w) : Sat w0 ((A1 * (A2 * (A3 * (A4)))) * R) w := h.to (by ac_rfl)
theorem Sat.n4 (h : Sat w0 ((A1 * (A2 * (A3 * (A4)))) * R) w) : Sat w0 (A1 * (A2 * (A3 * (A4 * R)))) w := h.to (by ac_rfl)
theorem Sat.g5 (h : Sat w0 (A1 * (A2 * (A3 * (A4 * (A5 * R))))) w) : Sat w0 ((A1 * (A2 * (A3 * (A4 * (A5))))) * R) w := h.to (by ac_rfl)
theorem Sat.n5 (h : Sat w0 ((A1 * (A2 * (A3 * (A4 * (A5))))) * R) w) : Sat w0 (A1 * (A2 * (A3 * (A4 * (A5 * R))))) w := h.to (by ac_rfl)
theorem Sat.g6 (h : Sat w0 (A1 * (A2 * (A3 * (A4 * (A5 * (A6 * R)))))) w) : Sat w0 ((A1 * (A2 * (A3 * (A4 * (A5 * (A6)))))) * R) w := h.to (by ac_rfl)
theorem Sat.n6 (h : Sat w0 ((A1 * (A2 * (A3 * (A4 * (A5 * (A6)))))) * R) w) : Sat w0 (A1 * (A2 * (A3 * (A4 * (A5 * (A6 * R)))))) w := h.to (by ac_rfl)
theorem Sat.g7 (h : Sat w0 (A1 * (A2 * (A3 * (A4 * (A5 * (A6 * (A7 * R))))))) w) : Sat w0 ((A1 * (A2 * (A3 * (A4 * (A5 * (A6 * (A7))))))) * R) w := h.to (by ac_rfl)
theorem Sat.n7 (h : Sat w0 ((A1 * (A2 * (A3 * (A4 * (A5 * (A6 * (A7))))))) * R) w) : Sat w0 (A1 * (A2 * (A3 * (A4 * (A5 * (A6 * (A7 * R))))))) w := h.to (by ac_rfl)
theorem Sat.g8 (h : Sat w0 (A1 * (A2 * (A3 * (A4 * (A5 * (A6 * (A7 * (A8 * R)))))))) w) : Sat w0 ((A1 * (A2 * (A3 * (A4 * (A5 * (A6 * (A7 * (A8)))))))) * R) w := h.to (by ac_rfl)
theorem Sat.n8 (h : Sat w0 ((A1 * (A2 * (A3 * (A4 * (A5 * (A6 * (A7 * (A8)))))))) * R) w) : Sat w0 (A1 * (A2 * (A3 * (A4 * (A5 * (A6 * (A7 * (A8 * R)))))))) w := h.to (by ac_rfl)
theorem Sat.lk2 (h : Sat w0 (blks (x1 :: x2 :: L) * R) w) : Sat w0 (blks (x2 :: x1 :: L) * R) w := h.to (by simp only [blks]; ac_rfl)
theorem Sat.ld2 (h : Sat w0 (blks (x2 :: x1 :: L) * R) w) : Sat w0 (blks (x1 :: x2 :: L) * R) w := h.to (by simp only [blks]; ac_rfl)
theorem Sat.lk3 (h : Sat w0 (blks (x1 :: x2 :: x3 :: L) * R) w) : Sat w0 (blks (x3 :: x1 :: x2 :: L) * R) w := h.to (by simp only [blks]; ac_rfl)
theorem Sat.ld3 (h : Sat w0 (blks (x3 :: x1 :: x2 :: L) * R) w) : Sat w0 (blks (x1 :: x2 :: x3 :: L) * R) w := h.to (by simp only [blks]; ac_rfl)
theorem Sat.lk4 (h : Sat w0 (blks (x1 :: x2 :: x3 :: x4 :: L) * R) w) : Sat w0 (blks (x4 :: x1 :: x2 :: x3 :: L) * R) w := h.to (by simp only [blks]; ac_rfl)
theorem Sat.ld4 (h : Sat w0 (blks (x4 :: x1 :: x2 :: x3 :: L) * R) w) : Sat w0 (blks (x1 :: x2 :: x3 :: x4 :: L) * R) w := h.to (by simp only [blks]; ac_rfl)
theorem Sat.lk5 (h : Sat w0 (blks (x1 :: x2 :: x3 :: x4 :: x5 :: L) * R) w) : Sat w0 (blks (x5 :: x1 :: x2 :: x3 :: x4 :: L) * R) w := h.to (by simp only [blks]; ac_rfl)
theorem Sat.ld5 (h : Sat w0 (blks (x5 :: x1 :: x2 :: x3 :: x4 :: L) * R) w) : Sat w0 (blks (x1 :: x2 :: x3 :: x4 :: x5 :: L) * R) w := h.to (by simp only [blks]; ac_rfl)
theorem Sat.lk6 (h : Sat w0 (blks (x1 :: x2 :: x3 :: x4 :: x5 :: x6 :: L) * R) w) : Sat w0 (blks (x6 :: x1 :: x2 :: x3 :: x4 :: x5 :: L) * R) w := h.to (by simp only [blks]; ac_rfl)
theorem Sat.ld6 (h : Sat w0 (blks (x6 :: x1 :: x2 :: x3 :: x4 :: x5 :: L) * R) w) : Sat w0 (blks (x1 :: x2 :: x3 :: x4 :: x5 :: x6 :: L) * R) w := h.to (by simp only [blks]; ac_rfl)
theorem Sat.lk7 (h : Sat w0 (blks (x1 :: x2 :: x3 :: x4 :: x5 :: x6 :: x7 :: L) * R) w) : Sat w0 (blks (x7 :: x1 :: x2 :: x3 :: x4 :: x5 :: x6 :: L) * R) w := h.to (by simp only [blks]; ac_rfl)
theorem Sat.ld7 (h : Sat w0 (blks (x7 :: x1 :: x2 :: x3 :: x4 :: x5 :: x6 :: L) * R) w) : Sat w0 (blks (x1 :: x2 :: x3 :: x4 :: x5 :: x6 :: x7 :: L) * R) w := h.to (by simp only [blks]; ac_rfl)
theorem Sat.lk8 (h : Sat w0 (blks (x1 :: x2 :: x3 :: x4 :: x5 :: x6 :: x7 :: x8 :: L) * R) w) : Sat w0 (blks (x8 :: x1 :: x2 :: x3 :: x4 :: x5 :: x6 :: x7 :: L) * R) w := h.to (by simp only [blks]; ac_rfl)
theorem Sat.ld8 (h : Sat w0 (blks (x8 :: x1 :: x2 :: x3 :: x4 :: x5 :: x6 :: x7 :: L) * R) w) : Sat w0 (blks (x1 :: x2 :: x3 :: x4 :: x5 :: x6 :: x7 :: x8 :: L) * R) w := h.to (by simp only [blks]; ac_rfl)
theorem Sat.lk9 (h : Sat w0 (blks (x1 :: x2 :: x3 :: x4 :: x5 :: x6 :: x7 :: x8 :: x9 :: L) * R) w) : Sat w0 (blks (x9 :: x1 :: x2 :: x3 :: x4 :: x5 :: x6 :: x7 :: x8 :: L) * R) w := h.to (by simp only [blks]; ac_rfl)
theorem Sat.ld9 (h : Sat w0 (blks (x9 :: x1 :: x2 :: x3 :: x4 :: x5 :: x6 :: x7 :: x8 :: L) * R) w) : Sat w0 (blks (x1 :: x2 :: x3 :: x4 :: x5 :: x6 :: x7 :: x8 :: x9 :: L) * R) w := h.to (by simp only [blks]; ac_rfl)
theorem Sat.lk10 (h : Sat w0 (blks (x1 :: x2 :: x3 :: x4 :: x5 :: x6 :: x7 :: x8 :: x9 :: x10 :: L) * R) w) : Sat w0 (blks (x10 :: x1 :: x2 :: x3 :: x4 :: x5 :: x6 :: x7 :: x8 :: x9 :: L) * R) w := h.to (by simp only [blks]; ac_rfl)
theorem Sat.ld10 (h : Sat w0 (blks (x10 :: x1 :: x2 :: x3 :: x4 :: x5 :: x6 :: x7 :: x8 :: x9 :: L) * R) w) : Sat w0 (blks (x1 :: x2 :: x3 :: x4 :: x5 :: x6 :: x7 :: x8 :: x9 :: x10 :: L) * R) w := h.to (by simp only [blks]; ac_rfl)
theorem Sat.lk11 (h : Sat w0 (blks (x1 :: x2 :: x3 :: x4 :: x5 :: x6 :: x7 :: x8 :: x9 :: x10 :: x11 :: L) * R) w) : Sat w0 (blks (x11 :: x1 :: x2 :: x3 :: x4 :: x5 :: x6 :: x7 :: x8 :: x9 :: x10 :: L) * R) w := h.to (by simp only [blks]; ac_rfl)
theorem Sat.ld11 (h : Sat w0 (blks (x11 :: x1 :: x2 :: x3 :: x4 :: x5 :: x6 :: x7 :: x8 :: x9 :: x10 :: L) * R) w) : Sat w0 (blks (x1 :: x2 :: x3 :: x4 :: x5 :: x6 :: x7 :: x8 :: x9 :: x10 :: x11 :: L) * R) w := h.to (by simp only [blks]; ac_rfl)
theorem Sat.lk12 (h : Sat w0 (blks (x1 :: x2 :: x3 :: x4 :: x5 :: x6 :: x7 :: x8 :: x9 :: x10 :: x11 :: x12 :: L) * R) w) : Sat w0 (blks (x12 :: x1 :: x2 :: x3 :: x4 :: x5 :: x6 :: x7 :: x8 :: x9 :: x10 :: x11 :: L) * R) w := h.to (by simp only [blks]; ac_rfl)
theorem Sat.ld12 (h : Sat w0 (blks (x12 :: x1 :: x2 :: x3 :: x4 :: x5 :: x6 :: x7 :: x8 :: x9 :: x10 :: x11 :: L) * R) w) : Sat w0 (blks (x1 :: x2 :: x3 :: x4 :: x5 :: x6 :: x7 :: x8 :: x9 :: x10 :: x11 :: x12 :: L) * R) w := h.to (by simp only [blks]; ac_rfl)
theorem Sat.sp1 (h : Sat w0 (blks (x1 :: L) * R) w) : Sat w0 (blks [x1] * (blks L * R)) w := h.to (by simp only [blks]; ac_rfl)
theorem Sat.jn1 (h : Sat w0 (blks [x1] * (blks L * R)) w) : Sat w0 (blks (x1 :: L) * R) w := h.to (by simp only [blks]; ac_rfl)
theorem Sat.sp2 (h : Sat w0 (blks (x1 :: x2 :: L) * R) w) : Sat w0 (blks [x1, x2] * (blks L * R)) w := h.to (by simp only [blks]; ac_rfl)
theorem Sat.jn2 (h : Sat w0 (blks [x1, x2] * (blks L * R)) w) : Sat w0 (blks (x1 :: x2 :: L) * R) w := h.to (by simp only [blks]; ac_rfl)
theorem Sat.sp3 (h : Sat w0 (blks (x1 :: x2 :: x3 :: L) * R) w) : Sat w0 (blks [x1, x2, x3] * (blks L * R)) w := h.to (by simp only [blks]; ac_rfl)
theorem Sat.jn3 (h : Sat w0 (blks [x1, x2, x3] * (blks L * R)) w) : Sat w0 (blks (x1 :: x2 :: x3 :: L) * R) w := h.to (by simp only [blks]; ac_rfl)
theorem Sat.sp4 (h : Sat w0 (blks (x1 :: x2 :: x3 :: x4 :: L) * R) w) : Sat w0 (blks [x1, x2, x3, x4] * (blks L * R)) w := h.to (by simp only [blks]; ac_rfl)
theorem Sat.jn4 (h : Sat w0 (blks [x1, x2, x3, x4] * (blks L * R)) w) : Sat w0 (blks (x1 :: x2 :: x3 :: x4 :: L) * R) w := h.to (by simp only [blks]; ac_rfl)
theorem Sat.sp5 (h : Sat w0 (blks (x1 :: x2 :: x3 :: x4 :: x5 :: L) * R) w) : Sat w0 (blks [x1, x2, x3, x4, x5] * (blks L * R)) w := h.to (by simp only [blks]; ac_rfl)
theorem Sat.jn5 (h : Sat w0 (blks [x1, x2, x3, x4, x5] * (blks L * R)) w) : Sat w0 (blks (x1 :: x2 :: x3 :: x4 :: x5 :: L) * R) w := h.to (by simp only [blks]; ac_rfl)
theorem Sat.sp6 (h : Sat w0 (blks (x1 :: x2 :: x3 :: x4 :: x5 :: x6 :: L) * R) w) : Sat w0 (blks [x1, x2, x3, x4, x5, x6] * (blks L * R)) w := h.to (by simp only [blks]; ac_rfl)
theorem Sat.jn6 (h : Sat w0 (blks [x1, x2, x3, x4, x5, x6] * (blks L * R)) w) : Sat w0 (blks (x1 :: x2 :: x3 :: x4 :: x5 :: x6 :: L) * R) w := h.to (by simp only [blks]; ac_rfl)
theorem Sat.sp7 (h : Sat w0 (blks (x1 :: x2 :: x3 :: x4 :: x5 :: x6 :: x7 :: L) * R) w) : Sat w0 (blks [x1, x2, x3, x4, x5, x6, x7] * (blks L * R)) w := h.to (by simp only [blks]; ac_rfl)
theorem Sat.jn7 (h : Sat w0 (blks [x1, x2, x3, x4, x5, x6, x7] * (blks L * R)) w) : Sat w0 (blks (x1 :: x2 :: x3 :: x4 :: x5 :: x6 :: x7 :: L) * R) w := h.to (by simp only [blks]; ac_rfl)
theorem Sat.sp8 (h : Sat w0 (blks (x1 :: x2 :: x3 :: x4 :: x5 :: x6 :: x7 :: x8 :: L) * R) w) : Sat w0 (blks [x1, x2, x3, x4, x5, x6, x7, x8] * (blks L * R)) w := h.to (by simp only [blks]; ac_rfl)
theorem Sat.jn8 (h : Sat w0 (blks [x1, x2, x3, x4, x5, x6, x7, x8] * (blks L * R)) w) : Sat w0 (blks (x1 :: x2 :: x3 :: x4 :: x5 :: x6 :: x7 :: x8 :: L) * R) w := h.to (by simp only [blks]; ac_rfl)
theorem Sat.tail1 (h : Sat w0 A1 w) : Sat w0 (A1 * hemp) w := h.to (star_hemp _).symm
theorem Sat.untail (h : Sat w0 (A1 * hemp) w) : Sat w0 A1 w := h.to (star_hemp _)
theorem Rds.l {A B : HProp} {ad : Option Addr} {xs : List Value} (h : Rds A ad xs) : Rds (A * B) ad xs := fun w0 R w hS => h w0 (B * R) w (hS.to (by ac_rfl))
theorem Rds.r {A B : HProp} {ad : Option Addr} {xs : List Value} (h : Rds B ad xs) : Rds (A * B) ad xs := fun w0 R w hS => h w0 (A * R) w (hS.to (by ac_rfl))
theorem Rds.ad {A R : HProp} {ad : Option Addr} {xs : List Value} {k : Nat} {u : Value} (hA : Rds A ad xs) (hS : Sat w0 (A * R) w) (hx : xs[k]? = some u) : ∃ b o, ad = some ⟨b, o, none⟩ := by
  obtain ⟨b, o, e, _⟩ := hA _ _ _ hS k u hx
  exact ⟨b, o, e⟩
theorem Rds.at {A R : HProp} {ad : Option Addr} {xs : List Value} {k b o : Nat} {u : Value} (hA : Rds A ad xs) (hS : Sat w0 (A * R) w) (had : ad = some ⟨b, o, none⟩) (hx : xs[k]? = some u) : w.cell? ⟨b, o + k, none⟩ = some u := by
  obtain ⟨b', o', e, hc⟩ := hA _ _ _ hS k u hx
  rw [had] at e; cases e; exact hc
theorem Rds.adF {α : Type} {enc : α → List Value} {size m : Nat} {x : α} {ys : List α} {A R : HProp} {ad : Option Addr} (hk : ∀ x, (enc x).length = size) (hp : 0 < size) (hA : Rds A ad (ys.flatMap enc)) (hS : Sat w0 (A * R) w) (hx : ys[m]? = some x) : ∃ b o, ad = some ⟨b, o, none⟩ := by
  obtain ⟨b, o, e, _⟩ := elK hk hp (hA _ _ _ hS) hx
  exact ⟨b, o, e⟩
theorem Rds.row {α : Type} {enc : α → List Value} {size m b o : Nat} {x : α} {ys : List α} {A R : HProp} {ad : Option Addr} (hk : ∀ x, (enc x).length = size) (hp : 0 < size) (hA : Rds A ad (ys.flatMap enc)) (hS : Sat w0 (A * R) w) (had : ad = some ⟨b, o, none⟩) (hx : ys[m]? = some x) : RdW w (some ⟨b, o + m * size, none⟩) (enc x) := by
  obtain ⟨b', o', e, h⟩ := elK hk hp (hA _ _ _ hS) hx
  rw [had] at e; cases e; exact h
theorem RdW.at {b o k : Nat} {xs : List Value} {u : Value} (h : RdW w (some ⟨b, o, none⟩) xs) (hx : xs[k]? = some u) : w.cell? ⟨b, o + k, none⟩ = some u := by
  obtain ⟨b', o', e, hc⟩ := h k u hx
  cases e; exact hc
theorem RdW.at0 {b o : Nat} {xs : List Value} {u : Value} (h : RdW w (some ⟨b, o, none⟩) xs) (hx : xs[0]? = some u) : w.cell? ⟨b, o, none⟩ = some u := RdW.at h hx
theorem Sat.hc (h : Sat w0 (A1 * R) w) : Sat w0 ((hemp * A1) * R) w := h.to (by rw [hemp_star])
theorem Sat.hu (h : Sat w0 ((hemp * A1) * R) w) : Sat w0 (A1 * R) w := h.to (by rw [hemp_star])
theorem Sat.botK (h : Sat w0 (A1 * (A2 * ((hbot * A3) * R))) w) : False := by
  have h' : Sat w0 (hbot * (A1 * (A2 * (A3 * R)))) w := h.to (by ac_rfl)
  obtain ⟨_, _, _, _, ⟨_, _, _, _, hf, _⟩, _⟩ := h'
  exact hf
theorem Sat.botA (h : Sat w0 (A1 * (A2 * ((A4 * (hbot * A3)) * R))) w) : False := by
  have h' : Sat w0 (hbot * (A1 * (A2 * (A3 * (A4 * R))))) w := h.to (by ac_rfl)
  obtain ⟨_, _, _, _, ⟨_, _, _, _, hf, _⟩, _⟩ := h'
  exact hf
end
/-! ### Loops: what stays is not told -/
section
variable {P : Program} {ro : Option Nat} {Q : Exit → Fr → World → Prop} {w w0 : World}
theorem Sup.app {g : Fr} : ∀ {K C : List (Nat × Value)}, Sup g K → Sup g C → Sup g (K ++ C)
  | [], _, _, hc => hc
  | (_, _) :: _, _, hk, hc => ⟨hk.1, Sup.app hk.2 hc⟩
theorem wpF.sup2 {f : Fr} {c : Code} {K C : List (Nat × Value)} (H : wpF P ro c Q ⟨f.n, f.ds, K ++ C⟩ w) (hk : Sup f K) (hc : Sup f C) : wpF P ro c Q f w := H.sup (Sup.app hk hc)
theorem F_loopK {f : Fr} {c : Code} {α : Type} (K : List (Nat × Value)) {F : HProp} (ch : α → List (Nat × Value)) (C : α → HProp) (I : α → Prop) (μ : α → Nat) (x0 : α) (hL : Sup f (K ++ ch x0)) (hS : Sat w0 (C x0 * F) w) (h0 : I x0)
    (round : ∀ x w, I x → Sat w0 (C x * F) w → wpF P ro c (thenF (fun g w' => g.n = f.n ∧ g.ds = f.ds ∧ ∃ x', Sup g (K ++ ch x') ∧ (I x' ∧ Sat w0 (C x' * F) w') ∧ μ x' < μ x) Q) ⟨f.n, f.ds, K ++ ch x⟩ w) :
    wpF P ro (.loop c) Q f w :=
  F_loop (fun x => K ++ ch x) (fun x w => I x ∧ Sat w0 (C x * F) w) μ x0 hL ⟨h0, hS⟩ (fun x w h => round x w h.1 h.2)
theorem F_loopK2 {f : Fr} {c : Code} {α β : Type} (K : List (Nat × Value)) {F : HProp} (ch : α → β → List (Nat × Value)) (C : α → β → HProp) (I : α → β → Prop) (μ : α → β → Nat) (x0 : α) (y0 : β) (hL : Sup f (K ++ ch x0 y0)) (hS : Sat w0 (C x0 y0 * F) w) (h0 : I x0 y0)
    (round : ∀ x y w, I x y → Sat w0 (C x y * F) w → wpF P ro c (thenF (fun g w' => g.n = f.n ∧ g.ds = f.ds ∧ ∃ q : α × β, Sup g (K ++ ch q.1 q.2) ∧ (I q.1 q.2 ∧ Sat w0 (C q.1 q.2 * F) w') ∧ μ q.1 q.2 < μ x y) Q) ⟨f.n, f.ds, K ++ ch x y⟩ w) :
    wpF P ro (.loop c) Q f w :=
  F_loop (α := α × β) (fun q => K ++ ch q.1 q.2) (fun q w => I q.1 q.2 ∧ Sat w0 (C q.1 q.2 * F) w) (fun q => μ q.1 q.2) (x0, y0) hL ⟨h0, hS⟩ (fun q w h => round q.1 q.2 w h.1 h.2)
theorem F_loopK3 {f : Fr} {c : Code} {α β γ : Type} (K : List (Nat × Value)) {F : HProp} (ch : α → β → γ → List (Nat × Value)) (C : α → β → γ → HProp) (I : α → β → γ → Prop) (μ : α → β → γ → Nat) (x0 : α) (y0 : β) (z0 : γ) (hL : Sup f (K ++ ch x0 y0 z0)) (hS : Sat w0 (C x0 y0 z0 * F) w) (h0 : I x0 y0 z0)
    (round : ∀ x y z w, I x y z → Sat w0 (C x y z * F) w → wpF P ro c (thenF (fun g w' => g.n = f.n ∧ g.ds = f.ds ∧ ∃ q : α × β × γ, Sup g (K ++ ch q.1 q.2.1 q.2.2) ∧ (I q.1 q.2.1 q.2.2 ∧ Sat w0 (C q.1 q.2.1 q.2.2 * F) w') ∧ μ q.1 q.2.1 q.2.2 < μ x y z) Q) ⟨f.n, f.ds, K ++ ch x y z⟩ w) :
    wpF P ro (.loop c) Q f w :=
  F_loop (α := α × β × γ) (fun q => K ++ ch q.1 q.2.1 q.2.2) (fun q w => I q.1 q.2.1 q.2.2 ∧ Sat w0 (C q.1 q.2.1 q.2.2 * F) w) (fun q => μ q.1 q.2.1 q.2.2) (x0, y0, z0) hL ⟨h0, hS⟩ (fun q w h => round q.1 q.2.1 q.2.2 w h.1 h.2)
/-- A loop through a list: its front, its rest, and something beside. -/
theorem F_loopL {f : Fr} {c : Code} {α σ : Type} (xs : List α) (K : List (Nat × Value)) {F : HProp} (ch : List α → σ → List (Nat × Value)) (C : List α → σ → HProp) (I : List α → σ → Prop) (s0 : σ) (hL : Sup f (K ++ ch [] s0)) (hS : Sat w0 (C [] s0 * F) w) (h0 : I [] s0)
    (done : ∀ s w, I xs s → Sat w0 (C xs s * F) w → wpF P ro c (thenF (fun _ _ => False) Q) ⟨f.n, f.ds, K ++ ch xs s⟩ w)
    (round : ∀ pre x post s w, xs = pre ++ x :: post → I pre s → Sat w0 (C pre s * F) w → wpF P ro c (thenF (fun g w' => g.n = f.n ∧ g.ds = f.ds ∧ ∃ s', Sup g (K ++ ch (pre ++ [x]) s') ∧ I (pre ++ [x]) s' ∧ Sat w0 (C (pre ++ [x]) s' * F) w') Q) ⟨f.n, f.ds, K ++ ch pre s⟩ w) :
    wpF P ro (.loop c) Q f w :=
  F_loop (α := List α × List α × σ) (fun q => K ++ ch q.1 q.2.2) (fun q w => xs = q.1 ++ q.2.1 ∧ I q.1 q.2.2 ∧ Sat w0 (C q.1 q.2.2 * F) w) (fun q => q.2.1.length) ([], xs, s0) hL ⟨rfl, h0, hS⟩ (fun q w h => by
    obtain ⟨pre, post, s⟩ := q
    obtain ⟨hx, hI, hS⟩ := h
    simp only at hx hI hS ⊢
    cases post with
    | nil =>
      rw [List.append_nil] at hx
      subst hx
      exact (done s w hI hS).mono (fun e f w h => by cases e <;> first | exact h.elim | exact h)
    | cons x post =>
      refine (round pre x post s w hx hI hS).mono (fun e f w h => ?_)
      cases e with
      | normal =>
        obtain ⟨h1, h2, s', h3, h4, h5⟩ := h
        exact ⟨h1, h2, (pre ++ [x], post, s'), h3, ⟨by rw [hx]; simp, h4, h5⟩, Nat.lt_succ_self _⟩
      | _ => exact h)
end
/-! ### Texts as lists of bytes -/
open Go.Lib
def bs (l : List UInt8) : ByteArray := ⟨⟨l⟩⟩
theorem bs_eta (s : ByteArray) : bs s.data.toList = s := rfl
theorem bs_size (l : List UInt8) : (bs l).size = l.length := rfl
theorem bs_inj {l m : List UInt8} (h : bs l = bs m) : l = m := congrArg (fun s : ByteArray => s.data.toList) h
theorem bs_app (l m : List UInt8) : bs l ++ bs m = bs (l ++ m) := ba_ext (by simp [bs, ByteArray.append_eq, ByteArray.data_append])
theorem bs_cut (l : List UInt8) (a b : Nat) : (bs l).extract a b = bs ((l.take b).drop a) := ba_ext (by simp [bs, ByteArray.data_extract, List.extract_eq_take_drop, List.drop_take])
theorem bytesLess_cmp : ∀ a b : List UInt8, Op.bytesLess a b = decide (compareBytes a b = -1)
  | [], [] => rfl
  | [], _ :: _ => rfl
  | _ :: _, [] => by simp [Op.bytesLess, compareBytes]
  | x :: a, y :: b => by
    unfold Op.bytesLess compareBytes
    rw [bytesLess_cmp a b]
    by_cases h1 : x < y
    · simp [h1]
    · by_cases h2 : y < x
      · have h3 : ¬ x = y := fun e => by subst e; exact h1 h2
        simp [h1, h2, h3]
      · have h3 : x = y := by
          apply UInt8.toNat_inj.1
          simp only [UInt8.lt_iff_toNat_lt] at h1 h2
          omega
        subst h3
        simp [h1]
def cmpStr : BinOp → ByteArray → ByteArray → Option Bool
  | .eql, a, b => some (decide (a = b))
  | .neq, a, b => some (!decide (a = b))
  | .lss, a, b => some (decide (cmpS a b = -1))
  | .leq, a, b => some (decide (cmpS a b ≤ 0))
  | .gtr, a, b => some (decide (cmpS a b = 1))
  | .geq, a, b => some (decide (0 ≤ cmpS a b))
  | _, _, _ => none
theorem tl_eq (a b : ByteArray) : (a.toList == b.toList) = decide (a = b) := by
  rw [ByteArray.toList_eq, ByteArray.toList_eq, Bool.eq_iff_iff]
  simp only [beq_iff_eq, decide_eq_true_eq]
  exact ⟨ba_ext, fun e => by rw [e]⟩
theorem cmpS_zero (a b : ByteArray) : cmpS a b = 0 ↔ a = b :=
  ⟨fun h => ba_ext (cb_eq _ _ h), fun h => by rw [h]; exact cb_irr _⟩
theorem run_cmpStr {P : Program} {op : BinOp} {t : TypeId} {a b : ByteArray} {c : Bool} {w : World} (hc : cmpStr op a b = some c) : (binOp op t (.string a) (.string b)).run P w = .ok (.bool c) w := by
  have hv := cb_val a.data.toList b.data.toList
  have hz := cmpS_zero a b
  have e1 := bytesLess_cmp a.data.toList b.data.toList
  cases op <;> simp only [cmpStr, Option.some.injEq, reduceCtorEq] at hc <;> subst hc <;> simp only [binOp, Op.stringOp, tl_eq, Sem.run_pure] <;> (try simp only [ByteArray.toList_eq, e1]) <;> congr 2 <;> unfold cmpS at * <;> (rw [Bool.eq_iff_iff]; simp only [Bool.or_eq_true, Bool.not_eq_true', Bool.or_eq_false_iff, decide_eq_true_eq, decide_eq_false_iff_not]; (try rw [← hz]); (try omega))
section
variable {P : Program} {w w0 : World} {f : Fr} {p : Par} {K : Fr → World → Prop} {r : Plan} {h : Hist} {l : Lds} {i : Nat} {v : Value} {ty : TypeId} {pos : String} {after : Array Edge} {dst : Option Nat} {g : Option (Nat × Bool)}
theorem run_binStr {op : BinOp} {t : TypeId} {x y : Operand} {a b : ByteArray} {v : Value} {ρ : Operand → Value} {w : World} (hx : ρ x = .string a) (hy : ρ y = .string b)
    (hv : (binOp op t (.string a) (.string b)).run P w = .ok v w) {yt : TypeId} : rd P (execOp ρ ⟨dst, .binOp op t x y yt, ty, pos, after, g⟩) w v := by
  simp only [rd, execOp, hx, hy]
  have : (eqGuard op t x y (.string a) (.string b)).run P w = .ok () w := by
    cases op <;> rfl
  simp [Sem.run_bind, this, Result.andThen, hv]
theorem O_cmpStr {op : BinOp} {x y : Operand} {t yt : TypeId} {a b : ByteArray} {c : Bool} (ho : p.ops[i]? = some ⟨dst, .binOp op t x y yt, ty, pos, after, g⟩) (hk : p.kind i = 0) (hw : wantF f p.ops ⟨dst, .binOp op t x y yt, ty, pos, after, g⟩ = some true) (hn : dstOk f dst = true)
    (hx : f.ev x = some (.string a)) (hy : f.ev y = some (.string b)) (hc : cmpStr op a b = some c) (H : wpR P p K r h l (putd f dst (.bool c)) w) : wpR P p K (.one i r) h l f w :=
  R_soft ho rfl hk hw hn (fun ρ w' hρ => run_binStr (hρ x _ hx) (hρ y _ hy) (run_cmpStr hc)) H
theorem O_addStr {x y : Operand} {t yt : TypeId} {a b : List UInt8} (ho : p.ops[i]? = some ⟨dst, .binOp .add t x y yt, ty, pos, after, g⟩) (hk : p.kind i = 0) (hw : wantF f p.ops ⟨dst, .binOp .add t x y yt, ty, pos, after, g⟩ = some true) (hn : dstOk f dst = true)
    (hx : f.ev x = some (.string (bs a))) (hy : f.ev y = some (.string (bs b))) (hb : a.length + b.length ≤ 9223372036854775807) (H : wpR P p K r h l (putd f dst (.string (bs (a ++ b)))) w) : wpR P p K (.one i r) h l f w :=
  R_soft ho rfl hk hw hn (fun ρ w' hρ => run_binStr (hρ x _ hx) (hρ y _ hy) (by
    have e := run_string_add_sum (P := P) (w := w') (bs a) (bs b) (by rw [bs_size, bs_size]; exact hb)
    rw [bs_app] at e
    rw [binOp_string_add]; exact e)) H
theorem O_indexStr {x ix : Operand} {t : TypeId} {k : IntKind} {j : Int} {s : List UInt8} {m : Nat} {c : UInt8} (ho : p.ops[i]? = some ⟨dst, .index t x ix, ty, pos, after, g⟩) (hk : p.kind i = 0) (hw : wantF f p.ops ⟨dst, .index t x ix, ty, pos, after, g⟩ = some true) (hn : dstOk f dst = true)
    (hu : ∀ w, (underlying t).run P w = .ok .string w) (hx : f.ev x = some (.string (bs s))) (hix : f.ev ix = some (.int k j)) (hj : j = (m : Int)) (hc : s[m]? = some c)
    (H : wpR P p K r h l (putd f dst (.int .u8 (c.toNat : Nat))) w) : wpR P p K (.one i r) h l f w :=
  R_soft ho rfl hk hw hn (fun ρ w' hρ => by
    have hlt : m < s.length := (List.getElem?_eq_some_iff.1 hc).1
    have e : (bs s)[m]? = some c := by
      rw [getElem?_pos (bs s) m (show m < (bs s).size from hlt)]
      have := (List.getElem?_eq_some_iff.1 hc).2
      rw [← this]; rfl
    simp only [rd, execOp, Instr.index, hρ x _ hx, hρ ix _ hix, asIntOf, hj]
    simp only [Sem.run_bind, Sem.run_pure, Result.andThen, hu]
    rw [if_pos (by omega), Int.toNat_natCast, e]
    rfl) H
theorem O_sliceStr {x : Operand} {t : TypeId} {lo' hi' : Option Operand} {s : List UInt8} (lo hi : Nat) {lv hv : Option Value} (ho : p.ops[i]? = some ⟨dst, .slice t x lo' hi' none, ty, pos, after, g⟩) (hk : p.kind i = 0) (hw : wantF f p.ops ⟨dst, .slice t x lo' hi' none, ty, pos, after, g⟩ = some true) (hn : dstOk f dst = true)
    (hx : f.ev x = some (.string (bs s))) (hlv : (match lo' with | none => some none | some y => (f.ev y).map some) = some lv) (hhv : (match hi' with | none => some none | some y => (f.ev y).map some) = some hv)
    (hu : ∀ w, (underlying t).run P w = .ok .string w) (hlow : bnd lv 0 lo) (hhigh : bnd hv s.length hi) (h1 : lo ≤ hi ∧ hi ≤ s.length)
    (H : wpR P p K r h l (putd f dst (.string (bs ((s.take hi).drop lo)))) w) : wpR P p K (.one i r) h l f w :=
  R_soft ho rfl hk hw hn (fun ρ w' hρ => by
    have e1 : lo'.map ρ = lv := by
      cases lo' with
      | none => cases hlv; rfl
      | some y =>
        cases hy : f.ev y with
        | none => simp [hy] at hlv
        | some u => simp [hy] at hlv; subst hlv; simp [hρ y u hy]
    have e2 : hi'.map ρ = hv := by
      cases hi' with
      | none => cases hhv; rfl
      | some y =>
        cases hy : f.ev y with
        | none => simp [hy] at hhv
        | some u => simp [hy] at hhv; subst hhv; simp [hρ y u hy]
    have hh : ∀ w, (match (hv, (none : Option Value)) with
        | (some v, some _) => Instr.sliceBound v (bs s).size .slice3B
        | (some v, none) => Instr.sliceBound v (bs s).size .sliceAlen
        | (none, none) => (pure (bs s).size : Sem Nat)
        | (none, some _) => stuck "Slice: max without high").run P w = .ok hi w := by
      intro w
      unfold bnd at hhigh
      split at hhigh
      · subst hhigh; rfl
      · rename_i k j; obtain ⟨h0, rfl⟩ := hhigh; exact run_sliceBound w k j _ _ h0 (by rw [bs_size]; omega)
      · exact hhigh.elim
    have hl : ∀ w, (match lv with
        | some v => Instr.sliceBound v hi .sliceB
        | none => (pure 0 : Sem Nat)).run P w = .ok lo w := by
      intro w
      unfold bnd at hlow
      split at hlow
      · subst hlow; rfl
      · rename_i k j; obtain ⟨h0, rfl⟩ := hlow; exact run_sliceBound w k j hi _ h0 (by omega)
      · exact hlow.elim
    have hb : ∀ w, (Instr.sliceBounds false (bs s).size (bs s).size lv hv none).run P w = .ok (lo, hi, (bs s).size) w := by
      intro w
      unfold Instr.sliceBounds
      simp only [Sem.run_bind, Sem.run_pure, Result.andThen, Bool.false_eq_true, if_false]
      have := hh w
      have h3 := hl w
      cases hv <;> cases lv <;> simp_all [Sem.run_bind, Sem.run_pure, Result.andThen]
    simp only [rd, execOp, e1, e2, hρ x _ hx, Option.map_none]
    unfold Instr.sliceAt
    simp only [Sem.run_bind, hu, Result.andThen]
    unfold Instr.slice
    simp [Sem.run_bind, hu, Result.andThen, hb, Sem.run_pure, bs_cut]) H
theorem O_lenBs {x : Operand} {t : TypeId} {s : List UInt8} (ho : p.ops[i]? = some ⟨dst, .call ⟨.builtin .len, #[x], #[t]⟩, ty, pos, after, g⟩) (hk : p.kind i = 0) (hw : wantF f p.ops ⟨dst, .call ⟨.builtin .len, #[x], #[t]⟩, ty, pos, after, g⟩ = some true) (hn : dstOk f dst = true)
    (hx : f.ev x = some (.string (bs s))) (hu : ∀ w, (underlying t).run P w = .ok .string w) (H : wpR P p K r h l (putd f dst (.int .i64 (s.length : Nat))) w) : wpR P p K (.one i r) h l f w :=
  O_lenStr ho hk hw hn hx hu H
theorem O_convI {x : Operand} {s d : TypeId} {k' : IntKind} {a : Int} (ho : p.ops[i]? = some ⟨dst, .convert s d x, ty, pos, after, g⟩) (hk : p.kind i = 0) (hw : wantF f p.ops ⟨dst, .convert s d x, ty, pos, after, g⟩ = some true) (hn : dstOk f dst = true)
    {u : TypeDesc} (hs : ∀ w, (underlying s).run P w = .ok u w) (hd : ∀ w, (underlying d).run P w = .ok (.int .i64) w) (hx : f.ev x = some (.int k' a)) (hr : -9223372036854775808 ≤ a ∧ a ≤ 9223372036854775807) (H : wpR P p K r h l (putd f dst (.int .i64 a)) w) : wpR P p K (.one i r) h l f w :=
  O_convInt ho hk hw hn (fun w => ⟨u, hs w⟩) hd hx (by rw [i64_wrap hr]; exact H)
theorem O_convS {x : Operand} {s d : TypeId} {a : ByteArray} (ho : p.ops[i]? = some ⟨dst, .convert s d x, ty, pos, after, g⟩) (hk : p.kind i = 0) (hw : wantF f p.ops ⟨dst, .convert s d x, ty, pos, after, g⟩ = some true) (hn : dstOk f dst = true)
    (hs : ∀ w, (underlying s).run P w = .ok .string w) (hd : ∀ w, (underlying d).run P w = .ok .string w) (hx : f.ev x = some (.string a)) (H : wpR P p K r h l (putd f dst (.string a)) w) : wpR P p K (.one i r) h l f w :=
  R_soft ho rfl hk hw hn (fun ρ w' hρ => by
    simp only [rd, execOp, hρ x _ hx, convert]
    simp only [Sem.run_bind, Sem.run_pure, Result.andThen, hs, hd]) H
theorem u8_bd (c : UInt8) : 0 ≤ (c.toNat : Int) ∧ (c.toNat : Int) ≤ 255 := by have := c.toNat_lt; omega
end
/-! ### Comparing texts -/
theorem cb_pre : ∀ (p a b : List UInt8), compareBytes (p ++ a) (p ++ b) = compareBytes a b
  | [], _, _ => rfl
  | x :: p, a, b => by
    have hx : ¬ x < x := fun h => by simp only [UInt8.lt_iff_toNat_lt] at h; omega
    simp only [List.cons_append, compareBytes, hx, if_false, cb_pre p a b]
theorem cmp_done (p b : List UInt8) : cmpS (bs p) (bs (p ++ b)) = if b = [] then 0 else -1 := by
  have := cb_pre p [] b
  rw [List.append_nil] at this
  show compareBytes p (p ++ b) = _
  rw [this]
  cases b <;> simp [compareBytes]
theorem cmp_more (p : List UInt8) (x : UInt8) (a : List UInt8) : cmpS (bs (p ++ x :: a)) (bs p) = 1 := by
  have := cb_pre p (x :: a) []
  rw [List.append_nil] at this
  show compareBytes (p ++ x :: a) p = _
  rw [this]; rfl
theorem cmp_ne (p : List UInt8) (x y : UInt8) (a b : List UInt8) (h : ¬ (x.toNat : Int) = y.toNat) : cmpS (bs (p ++ x :: a)) (bs (p ++ y :: b)) = if (x.toNat : Int) < y.toNat then -1 else if (y.toNat : Int) < x.toNat then 1 else 0 := by
  show compareBytes (p ++ x :: a) (p ++ y :: b) = _
  rw [cb_pre]
  simp only [compareBytes, UInt8.lt_iff_toNat_lt]
  by_cases h1 : x.toNat < y.toNat
  · rw [if_pos h1, if_pos (by omega)]
  · rw [if_neg h1, if_pos (by omega), if_neg (by omega), if_pos (by omega)]
theorem u8_eq {x y : UInt8} (h : (x.toNat : Int) = y.toNat) : x = y := UInt8.toNat_inj.1 (by omega)
def sgn (a b : Int) : Int := if a < b then -1 else if b < a then 1 else 0
end Go.Sl
