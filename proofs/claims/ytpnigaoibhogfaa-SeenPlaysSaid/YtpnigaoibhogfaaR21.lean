/- YtpnigaoibhogfaaR21: a part of the proof: walks over the translated code, and plain facts on lists beside. -/
import Derived.Test.YtpnigaoibhogfaaR20
set_option linter.all false
namespace Go.Proofs.Ytpnigaoibhogfaa
open Go Go.RowKit Go.Sl
set_option linter.unusedVariables false
theorem seenPlays_walk {w0 w : World} {R A : HProp} {a1 : Option Addr} {c1 : Nat} {acts : List (ByteArray × Int)} (hA : Rds A a1 (acts.flatMap actE)) (hn : ∀ a ∈ acts, a.1.size ≤ 9223372036854775807) (hS : Sat w0 (A * R) w) :
    Calls Try.prog 5 #[.slice a1 acts.length c1] w (ret fun u w' => u = .bool true ∧ Sat w0 (A * R) w') := by
  replace hS := hS.noblks
  refine enterF (args := [_]) Try.func5 rfl Try.ntmps5 rfl rfl ?_
  refine F_seq ?_
  refine F_region (p := ⟨_, [0], []⟩) rfl [0] rfl ?_
  refine O_assign rfl rfl rfl rfl rfl ?_
  refine R_nil ?_
  refine tn ?_
  refine F_seq ?_
  refine F_region (p := ⟨_, [2, 0], []⟩) rfl [0, 1] rfl ?_
  refine O_call rfl rfl rfl rfl Try.call24 rfl (seenNew (hS)) (fun _ _ hv => trivial) ?_
  rintro _ w ⟨sb, rfl, hS⟩
  replace hS := hS.u2
  refine O_assign rfl rfl rfl rfl rfl ?_
  refine R_nil ?_
  refine tn ?_
  refine F_seq ?_
  refine F_seq ?_
  refine F_region (p := ⟨_, [2, 0, 0, 0, 0, 0, 0, 0, 0, 0, 0], []⟩) rfl [0, 1, 2, 3, 4, 5, 6, 7, 8, 9, 10] rfl ?_
  refine O_call rfl rfl rfl rfl Try.call25 rfl (seenAwake (hS)) (fun _ _ hv => trivial) ?_
  rintro _ w ⟨rfl, hS⟩
  refine O_not rfl rfl rfl rfl rfl ?_
  refine O_move rfl rfl rfl rfl rfl ?_
  refine O_move rfl rfl rfl rfl rfl ?_
  refine O_eqNil rfl rfl rfl rfl rfl rfl Try.runUnderlying48 ?_
  refine O_pickF rfl rfl rfl rfl rfl rfl ?_
  refine O_move rfl rfl rfl rfl rfl ?_
  refine R_caseF (t := 11) rfl rfl ?_
  refine O_move rfl rfl rfl rfl rfl ?_
  refine O_lenSl rfl rfl rfl rfl rfl Try.runUnderlying47 ?_
  refine O_cmp rfl rfl rfl rfl rfl rfl rfl ?_
  refine O_pickF rfl rfl rfl rfl rfl rfl ?_
  refine R_nil ?_
  refine tn ?_
  refine F_cond rfl (fun h15 => ?_) (fun h15 => ?_)
  · try simp only [decide_eq_true_eq, decide_eq_false_iff_not, Bool.not_eq_true', Bool.not_eq_false', Bool.not_true, Bool.not_false, Option.isNone_iff_eq_none, Bool.false_eq_true, Bool.true_eq_false] at h15
    refine F_seq ?_
    refine F_region (p := ⟨_, [2, 0], []⟩) rfl [0, 1] rfl ?_
    refine O_call rfl rfl rfl rfl Try.call25 rfl (seenAwake (hS)) (fun _ _ hv => trivial) ?_
    rintro _ w ⟨rfl, hS⟩
    refine O_assign rfl rfl rfl rfl rfl ?_
    refine R_nil ?_
    refine tn ?_
    refine F_ret ?_
    refine tr ?_
    show endF _ _ _ _ _ _
    refine end0 trivial rfl rfl rfl hS ?_
    intro w hS
    replace hS := (hS).drop
    replace hS := (hS).drop
    exact ⟨rfl, hS⟩
  · try simp only [decide_eq_true_eq, decide_eq_false_iff_not, Bool.not_eq_true', Bool.not_eq_false', Bool.not_true, Bool.not_false, Option.isNone_iff_eq_none, Bool.false_eq_true, Bool.true_eq_false] at h15
    refine F_skip ?_
    refine tn ?_
    refine F_seq ?_
    refine F_region (p := ⟨_, [0, 0, 2, 0], []⟩) rfl [0, 1, 2, 3] rfl ?_
    refine O_move rfl rfl rfl rfl rfl ?_
    refine O_move rfl rfl rfl rfl rfl ?_
    replace hS := hS.u2
    replace hS := play_mk (Q := []) (e := 69) (v := .slice none 0 0) wf_nil rfl ((sl_nil (e := 69) (size := 3) hS.noS2).u2)
    replace hS := hS.u2
    refine O_call rfl rfl rfl rfl Try.call26 rfl (seenPlay hA (by omega) hn (hS.u2.u3)) (fun _ _ hv => trivial) ?_
    rintro _ w ⟨rfl, hS⟩
    replace hS := hS.u2
    refine O_assign rfl rfl rfl rfl rfl ?_
    refine R_nil ?_
    refine tn ?_
    refine F_ret ?_
    show endF _ _ _ _ _ _
    refine end0 trivial rfl rfl rfl hS ?_
    intro w hS
    replace hS := (hS).drop
    exact ⟨rfl, hS⟩
end Go.Proofs.Ytpnigaoibhogfaa
