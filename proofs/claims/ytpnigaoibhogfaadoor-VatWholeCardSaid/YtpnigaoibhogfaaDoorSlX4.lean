/- YtpnigaoibhogfaaDoorSlX4: a part of the proof: walks over the translated code, and plain facts on lists beside. -/
import Derived.Test.YtpnigaoibhogfaaDoorSlX3
set_option linter.all false
namespace Go.Sl
open Go Go.RowKit
section
variable {w0 w : World} {R P0 : HProp} {κ ν : Type}
theorem mapv_split {M : List (ByteArray × (Nat × (Int × List (Int × Bool))))} {pre post : List (ByteArray × Nat)} {x : ByteArray × Nat} (h : mapv Prod.fst M = pre ++ x :: post) :
    ∃ Mp d Mq, M = Mp ++ (x.1, (x.2, d)) :: Mq ∧ Mp.length = pre.length ∧ mapv Prod.fst Mp = pre := by
  unfold mapv at h
  obtain ⟨Mp, M2, rfl, h1, h2⟩ := List.map_eq_append_iff.1 h
  obtain ⟨m, Mq, rfl, h3, h4⟩ := List.map_eq_cons_iff.1 h2
  refine ⟨Mp, m.2.2, Mq, ?_, by rw [← h1]; simp, h1⟩
  obtain ⟨a, b, d⟩ := m
  subst h3
  rfl
theorem bigS_app {C : Nat → ν → HProp} : ∀ {M N : List (κ × (Nat × ν))}, bigS C (M ++ N) = bigS C M * bigS C N
  | [], N => (hemp_star _).symm
  | x :: M, N => by simp only [List.cons_append, bigS, bigS_app (M := M)]; rw [star_assoc]
theorem get_mid {O : Lo κ} {p q : List (κ × ν)} {k : κ} {v : ν} (hs : Srt O (p ++ (k, v) :: q)) : get O k (p ++ (k, v) :: q) = some v :=
  get_there (srt_left hs).2.2.1
def tellD (x : ByteArray × (Nat × (Int × List (Int × Bool)))) : ByteArray × (Int × List Int) := (x.1, (x.2.2.1, x.2.2.2.map Prod.fst))
def tellL (x : ByteArray × (Int × List (Int × Bool))) : ByteArray × (Int × List Int) := (x.1, (x.2.1, x.2.2.map Prod.fst))
theorem tellD_L {M : List (ByteArray × (Nat × (Int × List (Int × Bool))))} {L : List (ByteArray × (Int × List (Int × Bool)))} (h : mapv Prod.snd M = L) : M.map tellD = L.map tellL := by
  subst h; simp [mapv, tellD, tellL]
/-- A variable at b that has a row of sources. -/
def accP (P0 : HProp) (b : Nat) (T e : TypeId) (l : List (ByteArray × (Int × List Int))) : HProp := hex fun v => hex fun Q : List Src => pur (Q.map Src.tell = l) * (blks [(b, .cells #[v] T (0, 0))] * (sl e 3 v Q.length (Q.flatMap srcE) * srcP P0 Q))
theorem acc_open {b : Nat} {T e : TypeId} {l : List (ByteArray × (Int × List Int))} (h : Sat w0 (accP P0 b T e l * R) w) : ∃ ad c Q, Q.map Src.tell = l ∧ Q.length ≤ c ∧ c ≤ maxLen ∧ (ad = none → c = 0) ∧ Sat w0 (blks [(b, .cells #[.slice ad Q.length c] T (0, 0))] * (sl e 3 (.slice ad Q.length c) Q.length (Q.flatMap srcE) * (srcP P0 Q * R))) w := by
  obtain ⟨v, h1⟩ := h.ex
  obtain ⟨Q, h2⟩ := h1.ex
  obtain ⟨hp, h3⟩ := Sat.pure (h2.to (star_assoc _ _ _))
  have h4 : Sat w0 (sl e 3 v Q.length (Q.flatMap srcE) * (blks [(b, .cells #[v] T (0, 0))] * (srcP P0 Q * R))) w := h3.to (by ac_rfl)
  obtain ⟨ad, c, rfl, e1, e2, _⟩ := sl_form h4
  exact ⟨ad, c, Q, hp, e1, e2, sl_nilK h4, h4.to (by ac_rfl)⟩
theorem acc_mk {b : Nat} {T e : TypeId} {v : Value} {Q : List Src} {l : List (ByteArray × (Int × List Int))} (hl : Q.map Src.tell = l) (h : Sat w0 (blks [(b, .cells #[v] T (0, 0))] * (sl e 3 v Q.length (Q.flatMap srcE) * (srcP P0 Q * R))) w) : Sat w0 (accP P0 b T e l * R) w :=
  Sat.mkex v (Sat.mkex Q ((Sat.mkpure hl (h.to (by ac_rfl))).to (star_assoc _ _ _).symm))
end
end Go.Sl
namespace Go.Sl
open Go Go.RowKit
section
variable {w0 w : World} {R A P0 : HProp}
theorem Sat.noS (h : Sat w0 (A * R) w) : Sat w0 (A * (srcP P0 [] * R)) w := h.to (by simp only [srcP, hemp_star])
theorem src_snoc {x : Src} {Q : List Src} (h : Sat w0 (srcP P0 Q * (rdP P0 x.v x.seqs.length (x.seqs.map fun n => .int .i64 n) * R)) w) : Sat w0 (srcP P0 (Q ++ [x]) * R) w := h.to (by rw [srcP_app]; simp only [srcP, star_hemp]; ac_rfl)
end
end Go.Sl
namespace Go.Sl
open Go Go.RowKit
theorem came_floor {w0 w : World} {R : HProp} {E : Enc Int Bool} {OI : Lo Int} {ct : TypeId} {cb : Nat} {d : Int × List (Int × Bool)} (h : Sat w0 (cameP E OI ct cb d * R) w) : w.cell? ⟨cb, 0, none⟩ = some (.int .i64 d.1) := by
  obtain ⟨rk, h⟩ := came_open h
  exact CellAt.cell (.here rfl) h
end Go.Sl
namespace Go.Sl
open Go Go.RowKit
theorem Sat.noS2 {w0 w : World} {R A P0 : HProp} (h : Sat w0 (A * R) w) : Sat w0 (A * (srcP P0 [] * R)) w := h.noS
end Go.Sl
