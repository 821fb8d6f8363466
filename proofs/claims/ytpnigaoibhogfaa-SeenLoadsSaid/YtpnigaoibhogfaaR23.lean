/- YtpnigaoibhogfaaR23: a part of the proof: walks over the translated code, and plain facts on lists beside. -/
import Derived.Test.YtpnigaoibhogfaaR15
import Derived.Test.YtpnigaoibhogfaaSlRight
set_option linter.all false
namespace Go.Proofs.Ytpnigaoibhogfaa
open Go Go.RowKit Go.Sl
set_option linter.unusedVariables false
theorem tagName {w0 w : World} {R : HProp} (s : ByteArray) (hb : s.size ≤ 9223372036854775807) (hS : Sat w0 R w) : Calls Try.prog 82 #[.string s] w (ret fun u w' => ∃ b, u = .bool b ∧ (b = true ↔ nameP s.data.toList) ∧ Sat w0 R w') := by
  obtain ⟨⟨s⟩⟩ := s
  replace hb : s.length ≤ 9223372036854775807 := hb
  rcases s with _ | ⟨x, s⟩
  ·
    replace hS := hS.noblks
    refine enterF (args := [_]) Try.func82 rfl Try.ntmps82 rfl rfl ?_
    refine F_seq ?_
    refine F_region (p := ⟨_, [0], []⟩) rfl [0] rfl ?_
    refine O_assign rfl rfl rfl rfl rfl ?_
    refine R_nil ?_
    refine tn ?_
    refine F_seq ?_
    refine F_seq ?_
    refine F_region (p := ⟨_, [0, 0, 0, 0, 0, 0, 0, 0, 0, 0, 0, 0, 0, 0, 0, 0, 0, 0], []⟩) rfl [0, 1, 2, 3, 4, 5, 6, 7, 8, 9, 10, 11, 12, 13, 14, 15, 16, 17] rfl ?_
    refine O_move rfl rfl rfl rfl rfl ?_
    refine O_lenBs rfl rfl rfl rfl rfl Try.runUnderlying9 ?_
    refine O_cmp rfl rfl rfl rfl rfl rfl rfl ?_
    refine O_move rfl rfl rfl rfl rfl ?_
    refine R_caseT (t := 8) rfl (by simp) ?_
    refine R_skip rfl rfl rfl rfl ?_
    refine R_skip rfl rfl rfl rfl ?_
    refine R_skip rfl rfl rfl rfl ?_
    refine O_pickT rfl rfl rfl rfl rfl rfl ?_
    refine O_move rfl rfl rfl rfl rfl ?_
    refine R_skip rfl rfl rfl rfl ?_
    refine R_skip rfl rfl rfl rfl ?_
    refine R_skip rfl rfl rfl rfl ?_
    refine O_pickT rfl rfl rfl rfl rfl rfl ?_
    refine O_move rfl rfl rfl rfl rfl ?_
    refine R_skip rfl rfl rfl rfl ?_
    refine R_skip rfl rfl rfl rfl ?_
    refine R_skip rfl rfl rfl rfl ?_
    refine O_pickT rfl rfl rfl rfl rfl rfl ?_
    refine R_nil ?_
    refine tn ?_
    refine F_true rfl rfl ?_
    refine F_seq ?_
    refine F_region (p := ⟨_, [0], []⟩) rfl [0] rfl ?_
    refine O_assign rfl rfl rfl rfl rfl ?_
    refine R_nil ?_
    refine tn ?_
    refine F_ret ?_
    refine tr ?_
    show endF _ _ _ _ _ _
    refine end0 trivial rfl rfl rfl hS ?_
    intro w hS
    replace hS := (hS).drop
    refine ⟨_, rfl, ?_, hS⟩
    have hn : ¬ nameP [] := fun h => by have := h.1; simp at this
    show _ ↔ nameP []
    simp [hn]
  · have hux := u8_bd x
    simp only [List.length_cons] at hb
    replace hS := hS.noblks
    refine enterF (args := [_]) Try.func82 rfl Try.ntmps82 rfl rfl ?_
    refine F_seq ?_
    refine F_region (p := ⟨_, [0], []⟩) rfl [0] rfl ?_
    refine O_assign rfl rfl rfl rfl rfl ?_
    refine R_nil ?_
    refine tn ?_
    refine F_seq ?_
    refine F_seq ?_
    refine F_region (p := ⟨_, [0, 0, 0, 0, 0, 0, 0, 0, 0, 0, 0, 0, 0, 0, 0, 0, 0, 0], []⟩) rfl [0, 1, 2, 3, 4, 5, 6, 7, 8, 9, 10, 11, 12, 13, 14, 15, 16, 17] rfl ?_
    refine O_move rfl rfl rfl rfl rfl ?_
    refine O_lenBs rfl rfl rfl rfl rfl Try.runUnderlying9 ?_
    refine O_cmp rfl rfl rfl rfl rfl rfl rfl ?_
    refine O_move rfl rfl rfl rfl rfl ?_
    refine R_caseF (t := 8) rfl (by simp only [List.length_cons, decide_eq_false_iff_not]; omega) ?_
    refine O_move rfl rfl rfl rfl rfl ?_
    refine O_lenBs rfl rfl rfl rfl rfl Try.runUnderlying9 ?_
    refine O_cmp rfl rfl rfl rfl rfl rfl rfl ?_
    refine O_pickF rfl rfl rfl rfl rfl rfl ?_
    refine O_move rfl rfl rfl rfl rfl ?_
    refine R_case (t := 13) rfl (fun ht13 => ?_) (fun ht13 => ?_)
    · try simp only [decide_eq_true_eq, decide_eq_false_iff_not, Bool.not_eq_true', Bool.not_eq_false', Bool.not_true, Bool.not_false, Option.isNone_iff_eq_none, Bool.false_eq_true, Bool.true_eq_false] at ht13
      refine R_skip rfl rfl rfl rfl ?_
      refine R_skip rfl rfl rfl rfl ?_
      refine R_skip rfl rfl rfl rfl ?_
      refine O_pickT rfl rfl rfl rfl rfl rfl ?_
      refine O_move rfl rfl rfl rfl rfl ?_
      refine R_skip rfl rfl rfl rfl ?_
      refine R_skip rfl rfl rfl rfl ?_
      refine R_skip rfl rfl rfl rfl ?_
      refine O_pickT rfl rfl rfl rfl rfl rfl ?_
      refine R_nil ?_
      refine tn ?_
      refine F_true rfl rfl ?_
      refine F_seq ?_
      refine F_region (p := ⟨_, [0], []⟩) rfl [0] rfl ?_
      refine O_assign rfl rfl rfl rfl rfl ?_
      refine R_nil ?_
      refine tn ?_
      refine F_ret ?_
      refine tr ?_
      show endF _ _ _ _ _ _
      refine end0 trivial rfl rfl rfl hS ?_
      intro w hS
      replace hS := (hS).drop
      refine ⟨_, rfl, ?_, hS⟩
      have hn : ¬ nameP (x :: s) := by rintro ⟨_, h2, h3, _⟩; have h5 := h3 x rfl; unfold smallP at h5; simp only [List.length_cons] at *; omega
      show _ ↔ nameP (x :: s)
      simp [hn]
    · try simp only [decide_eq_true_eq, decide_eq_false_iff_not, Bool.not_eq_true', Bool.not_eq_false', Bool.not_true, Bool.not_false, Option.isNone_iff_eq_none, Bool.false_eq_true, Bool.true_eq_false] at ht13
      refine O_move rfl rfl rfl rfl rfl ?_
      refine O_indexStr (m := 0) (c := x) rfl rfl rfl rfl Try.runUnderlying9 rfl rfl rfl rfl ?_
      refine O_cmp rfl rfl rfl rfl rfl rfl rfl ?_
      refine O_pickF rfl rfl rfl rfl rfl rfl ?_
      refine O_move rfl rfl rfl rfl rfl ?_
      refine R_case (t := 18) rfl (fun ht18 => ?_) (fun ht18 => ?_)
      · try simp only [decide_eq_true_eq, decide_eq_false_iff_not, Bool.not_eq_true', Bool.not_eq_false', Bool.not_true, Bool.not_false, Option.isNone_iff_eq_none, Bool.false_eq_true, Bool.true_eq_false] at ht18
        refine R_skip rfl rfl rfl rfl ?_
        refine R_skip rfl rfl rfl rfl ?_
        refine R_skip rfl rfl rfl rfl ?_
        refine O_pickT rfl rfl rfl rfl rfl rfl ?_
        refine R_nil ?_
        refine tn ?_
        refine F_true rfl rfl ?_
        refine F_seq ?_
        refine F_region (p := ⟨_, [0], []⟩) rfl [0] rfl ?_
        refine O_assign rfl rfl rfl rfl rfl ?_
        refine R_nil ?_
        refine tn ?_
        refine F_ret ?_
        refine tr ?_
        show endF _ _ _ _ _ _
        refine end0 trivial rfl rfl rfl hS ?_
        intro w hS
        replace hS := (hS).drop
        refine ⟨_, rfl, ?_, hS⟩
        have hn : ¬ nameP (x :: s) := by rintro ⟨_, h2, h3, _⟩; have h5 := h3 x rfl; unfold smallP at h5; simp only [List.length_cons] at *; omega
        show _ ↔ nameP (x :: s)
        simp [hn]
      · try simp only [decide_eq_true_eq, decide_eq_false_iff_not, Bool.not_eq_true', Bool.not_eq_false', Bool.not_true, Bool.not_false, Option.isNone_iff_eq_none, Bool.false_eq_true, Bool.true_eq_false] at ht18
        refine O_move rfl rfl rfl rfl rfl ?_
        refine O_indexStr (m := 0) (c := x) rfl rfl rfl rfl Try.runUnderlying9 rfl rfl rfl rfl ?_
        refine O_cmp rfl rfl rfl rfl rfl rfl rfl ?_
        refine O_pickF rfl rfl rfl rfl rfl rfl ?_
        refine R_nil ?_
        refine tn ?_
        refine F_cond rfl (fun ht22 => ?_) (fun ht22 => ?_)
        · try simp only [decide_eq_true_eq, decide_eq_false_iff_not, Bool.not_eq_true', Bool.not_eq_false', Bool.not_true, Bool.not_false, Option.isNone_iff_eq_none, Bool.false_eq_true, Bool.true_eq_false] at ht22
          refine F_seq ?_
          refine F_region (p := ⟨_, [0], []⟩) rfl [0] rfl ?_
          refine O_assign rfl rfl rfl rfl rfl ?_
          refine R_nil ?_
          refine tn ?_
          refine F_ret ?_
          refine tr ?_
          show endF _ _ _ _ _ _
          refine end0 trivial rfl rfl rfl hS ?_
          intro w hS
          replace hS := (hS).drop
          refine ⟨_, rfl, ?_, hS⟩
          have hn : ¬ nameP (x :: s) := by rintro ⟨_, h2, h3, _⟩; have h5 := h3 x rfl; unfold smallP at h5; simp only [List.length_cons] at *; omega
          show _ ↔ nameP (x :: s)
          simp [hn]
        · try simp only [decide_eq_true_eq, decide_eq_false_iff_not, Bool.not_eq_true', Bool.not_eq_false', Bool.not_true, Bool.not_false, Option.isNone_iff_eq_none, Bool.false_eq_true, Bool.true_eq_false] at ht22
          refine F_skip ?_
          refine tn ?_
          refine F_seq ?_
          refine F_seq ?_
          refine F_region (p := ⟨_, [0, 0, 0], []⟩) rfl [0, 1, 2] rfl ?_
          refine O_move rfl rfl rfl rfl rfl ?_
          refine O_lenBs rfl rfl rfl rfl rfl Try.runUnderlying9 ?_
          refine O_move rfl rfl rfl rfl rfl ?_
          refine R_nil ?_
          refine tn ?_
          refine F_block ?_
          refine F_loopL (α := (UInt8)) (σ := (Unit)) (x :: s) [(0, _), (24, _)] (fun (pre : List (UInt8)) (st : Unit) => [(25, (.int .i64 (pre.length : Nat)))]) (fun (pre : List (UInt8)) (st : Unit) => hemp) (fun (pre : List (UInt8)) (st : Unit) => ∀ z ∈ pre, restP z.toNat) () (Sup.app ⟨rfl, rfl, trivial⟩ ⟨rfl, trivial⟩) (hS.to (hemp_star _).symm) (by simp) ?_ ?_
          · clear hS
            intro st w hI hS
            replace hS := hS.to (hemp_star _)
            refine wpF.sup (L := [(0, _), (24, _), (25, _)]) ?_ ⟨rfl, rfl, rfl, trivial⟩
            refine F_seq ?_
            refine F_region (p := ⟨_, [0], []⟩) rfl [0] rfl ?_
            refine O_cmp rfl rfl rfl rfl rfl rfl rfl ?_
            refine R_nil ?_
            refine tn ?_
            refine F_seq ?_
            refine F_false rfl (by simp) ?_
            refine F_exit ?_
            refine tx ?_
            refine tx ?_
            refine Go.Sl.bx rfl ?_
            refine tn ?_
            refine F_seq ?_
            refine F_region (p := ⟨_, [0], []⟩) rfl [0] rfl ?_
            refine O_assign rfl rfl rfl rfl rfl ?_
            refine R_nil ?_
            refine tn ?_
            refine F_ret ?_
            show endF _ _ _ _ _ _
            refine end0 trivial rfl rfl rfl hS ?_
            intro w hS
            replace hS := (hS).drop
            refine ⟨_, rfl, ?_, hS⟩
            have hn : nameP (x :: s) := nameP_of (by simp only [List.length_cons] at *; omega) (by unfold smallP; omega) hI
            show _ ↔ nameP (x :: s)
            simp [hn]
          · clear hS
            intro pre y post st w hx hI hS
            replace hS := hS.to (hemp_star _)
            refine wpF.sup (L := [(0, _), (24, _), (25, _)]) ?_ ⟨rfl, rfl, rfl, trivial⟩
            have hl : pre.length + (post.length + 1) = s.length + 1 := by have := congrArg List.length hx; simpa using this.symm
            have huy := u8_bd y
            refine F_seq ?_
            refine F_region (p := ⟨_, [0], []⟩) rfl [0] rfl ?_
            refine O_cmp rfl rfl rfl rfl rfl rfl rfl ?_
            refine R_nil ?_
            refine tn ?_
            refine F_seq ?_
            refine F_true rfl (by simp only [decide_eq_true_eq, List.length_cons]; omega) ?_
            refine F_skip ?_
            refine tn ?_
            refine F_seq ?_
            refine F_block ?_
            refine F_seq ?_
            refine F_region (p := ⟨_, [0, 0], []⟩) rfl [0, 1] rfl ?_
            refine O_move rfl rfl rfl rfl rfl ?_
            refine O_assign rfl rfl rfl rfl rfl ?_
            refine R_nil ?_
            refine tn ?_
            refine F_seq ?_
            refine F_region (p := ⟨_, [0, 0, 0, 0], []⟩) rfl [0, 1, 2, 3] rfl ?_
            refine O_move rfl rfl rfl rfl rfl ?_
            refine O_move rfl rfl rfl rfl rfl ?_
            refine O_indexStr (m := pre.length) (c := y) rfl rfl rfl rfl Try.runUnderlying9 rfl rfl rfl (by rw [hx]; simp) ?_
            refine O_assign rfl rfl rfl rfl rfl ?_
            refine R_nil ?_
            refine tn ?_
            refine F_seq ?_
            refine F_region (p := ⟨_, [0, 0, 0, 0, 0, 0, 0, 0, 0, 0, 0, 0, 0, 0, 0, 0, 0, 0, 0, 0, 0, 0], []⟩) rfl [0, 1, 2, 3, 4, 5, 6, 7, 8, 9, 10, 11, 12, 13, 14, 15, 16, 17, 18, 19, 20, 21] rfl ?_
            refine O_move rfl rfl rfl rfl rfl ?_
            refine O_cmp rfl rfl rfl rfl rfl rfl rfl ?_
            refine O_move rfl rfl rfl rfl rfl ?_
            refine R_case (t := 33) rfl (fun ht33 => ?_) (fun ht33 => ?_)
            · try simp only [decide_eq_true_eq, decide_eq_false_iff_not, Bool.not_eq_true', Bool.not_eq_false', Bool.not_true, Bool.not_false, Option.isNone_iff_eq_none, Bool.false_eq_true, Bool.true_eq_false] at ht33
              refine R_skip rfl rfl rfl rfl ?_
              refine R_skip rfl rfl rfl rfl ?_
              refine O_pickT rfl rfl rfl rfl rfl rfl ?_
              refine O_move rfl rfl rfl rfl rfl ?_
              refine O_move rfl rfl rfl rfl rfl ?_
              refine O_cmp rfl rfl rfl rfl rfl rfl rfl ?_
              refine O_move rfl rfl rfl rfl rfl ?_
              refine R_case (t := 40) rfl (fun ht40 => ?_) (fun ht40 => ?_)
              · try simp only [decide_eq_true_eq, decide_eq_false_iff_not, Bool.not_eq_true', Bool.not_eq_false', Bool.not_true, Bool.not_false, Option.isNone_iff_eq_none, Bool.false_eq_true, Bool.true_eq_false] at ht40
                refine R_skip rfl rfl rfl rfl ?_
                refine R_skip rfl rfl rfl rfl ?_
                refine O_pickT rfl rfl rfl rfl rfl rfl ?_
                refine O_pickT rfl rfl rfl rfl rfl rfl ?_
                refine O_move rfl rfl rfl rfl rfl ?_
                refine O_move rfl rfl rfl rfl rfl ?_
                refine O_cmp rfl rfl rfl rfl rfl rfl rfl ?_
                refine O_pickT rfl rfl rfl rfl rfl rfl ?_
                refine O_move rfl rfl rfl rfl rfl ?_
                refine R_case (t := 49) rfl (fun ht49 => ?_) (fun ht49 => ?_)
                · try simp only [decide_eq_true_eq, decide_eq_false_iff_not, Bool.not_eq_true', Bool.not_eq_false', Bool.not_true, Bool.not_false, Option.isNone_iff_eq_none, Bool.false_eq_true, Bool.true_eq_false] at ht49
                  refine O_move rfl rfl rfl rfl rfl ?_
                  refine O_cmp rfl rfl rfl rfl rfl rfl rfl ?_
                  refine O_pickT rfl rfl rfl rfl rfl rfl ?_
                  refine R_nil ?_
                  refine tn ?_
                  refine F_cond rfl (fun ht52 => ?_) (fun ht52 => ?_)
                  · try simp only [decide_eq_true_eq, decide_eq_false_iff_not, Bool.not_eq_true', Bool.not_eq_false', Bool.not_true, Bool.not_false, Option.isNone_iff_eq_none, Bool.false_eq_true, Bool.true_eq_false] at ht52
                    refine F_seq ?_
                    refine F_region (p := ⟨_, [0], []⟩) rfl [0] rfl ?_
                    refine O_assign rfl rfl rfl rfl rfl ?_
                    refine R_nil ?_
                    refine tn ?_
                    refine F_ret ?_
                    refine br ?_
                    refine tr ?_
                    refine tr ?_
                    refine br ?_
                    refine tr ?_
                    show endF _ _ _ _ _ _
                    refine end0 trivial rfl rfl rfl hS ?_
                    intro w hS
                    replace hS := (hS).drop
                    refine ⟨_, rfl, ?_, hS⟩
                    have hn : ¬ nameP (x :: s) := by rintro ⟨_, _, _, h4⟩; have h5 := h4 y (by rw [hx]; simp); unfold restP smallP at h5; omega
                    show _ ↔ nameP (x :: s)
                    simp [hn]
                  · try simp only [decide_eq_true_eq, decide_eq_false_iff_not, Bool.not_eq_true', Bool.not_eq_false', Bool.not_true, Bool.not_false, Option.isNone_iff_eq_none, Bool.false_eq_true, Bool.true_eq_false] at ht52
                    refine F_skip ?_
                    refine bn ?_
                    refine tn ?_
                    refine F_region (p := ⟨_, [0, 0], []⟩) rfl [0, 1] rfl ?_
                    refine O_addN rfl rfl rfl rfl rfl rfl (by first | omega | (dsimp only; omega)) ?_
                    refine O_move rfl rfl rfl rfl rfl ?_
                    refine R_nil ?_
                    refine tn ⟨rfl, rfl, (), Sup.app ⟨rfl, rfl, trivial⟩ ⟨congrArg (fun z : Nat => some (Value.int .i64 z)) (show pre.length + 1 = (pre ++ [y]).length by simp), trivial⟩, (by intro z hz; rcases List.mem_append.1 hz with h | h; (exact hI z h); (rw [List.mem_singleton.1 h]; unfold restP smallP; omega)), hS.to (hemp_star _).symm⟩
                · try simp only [decide_eq_true_eq, decide_eq_false_iff_not, Bool.not_eq_true', Bool.not_eq_false', Bool.not_true, Bool.not_false, Option.isNone_iff_eq_none, Bool.false_eq_true, Bool.true_eq_false] at ht49
                  refine R_skip rfl rfl rfl rfl ?_
                  refine R_skip rfl rfl rfl rfl ?_
                  refine O_pickF rfl rfl rfl rfl rfl rfl ?_
                  refine R_nil ?_
                  refine tn ?_
                  refine F_false rfl rfl ?_
                  refine F_skip ?_
                  refine bn ?_
                  refine tn ?_
                  refine F_region (p := ⟨_, [0, 0], []⟩) rfl [0, 1] rfl ?_
                  refine O_addN rfl rfl rfl rfl rfl rfl (by first | omega | (dsimp only; omega)) ?_
                  refine O_move rfl rfl rfl rfl rfl ?_
                  refine R_nil ?_
                  refine tn ⟨rfl, rfl, (), Sup.app ⟨rfl, rfl, trivial⟩ ⟨congrArg (fun z : Nat => some (Value.int .i64 z)) (show pre.length + 1 = (pre ++ [y]).length by simp), trivial⟩, (by intro z hz; rcases List.mem_append.1 hz with h | h; (exact hI z h); (rw [List.mem_singleton.1 h]; unfold restP smallP; omega)), hS.to (hemp_star _).symm⟩
              · try simp only [decide_eq_true_eq, decide_eq_false_iff_not, Bool.not_eq_true', Bool.not_eq_false', Bool.not_true, Bool.not_false, Option.isNone_iff_eq_none, Bool.false_eq_true, Bool.true_eq_false] at ht40
                refine O_move rfl rfl rfl rfl rfl ?_
                refine O_cmp rfl rfl rfl rfl rfl rfl rfl ?_
                refine O_pickF rfl rfl rfl rfl rfl rfl ?_
                refine O_pickT rfl rfl rfl rfl rfl rfl ?_
                refine O_move rfl rfl rfl rfl rfl ?_
                refine R_case (t := 45) rfl (fun ht45 => ?_) (fun ht45 => ?_)
                · try simp only [decide_eq_true_eq, decide_eq_false_iff_not, Bool.not_eq_true', Bool.not_eq_false', Bool.not_true, Bool.not_false, Option.isNone_iff_eq_none, Bool.false_eq_true, Bool.true_eq_false] at ht45
                  refine O_move rfl rfl rfl rfl rfl ?_
                  refine O_cmp rfl rfl rfl rfl rfl rfl rfl ?_
                  refine O_pickT rfl rfl rfl rfl rfl rfl ?_
                  refine O_move rfl rfl rfl rfl rfl ?_
                  refine R_case (t := 49) rfl (fun ht49 => ?_) (fun ht49 => ?_)
                  · try simp only [decide_eq_true_eq, decide_eq_false_iff_not, Bool.not_eq_true', Bool.not_eq_false', Bool.not_true, Bool.not_false, Option.isNone_iff_eq_none, Bool.false_eq_true, Bool.true_eq_false] at ht49
                    refine O_move rfl rfl rfl rfl rfl ?_
                    refine O_cmp rfl rfl rfl rfl rfl rfl rfl ?_
                    refine O_pickT rfl rfl rfl rfl rfl rfl ?_
                    refine R_nil ?_
                    refine tn ?_
                    refine F_cond rfl (fun ht52 => ?_) (fun ht52 => ?_)
                    · try simp only [decide_eq_true_eq, decide_eq_false_iff_not, Bool.not_eq_true', Bool.not_eq_false', Bool.not_true, Bool.not_false, Option.isNone_iff_eq_none, Bool.false_eq_true, Bool.true_eq_false] at ht52
                      refine F_seq ?_
                      refine F_region (p := ⟨_, [0], []⟩) rfl [0] rfl ?_
                      refine O_assign rfl rfl rfl rfl rfl ?_
                      refine R_nil ?_
                      refine tn ?_
                      refine F_ret ?_
                      refine br ?_
                      refine tr ?_
                      refine tr ?_
                      refine br ?_
                      refine tr ?_
                      show endF _ _ _ _ _ _
                      refine end0 trivial rfl rfl rfl hS ?_
                      intro w hS
                      replace hS := (hS).drop
                      refine ⟨_, rfl, ?_, hS⟩
                      have hn : ¬ nameP (x :: s) := by rintro ⟨_, _, _, h4⟩; have h5 := h4 y (by rw [hx]; simp); unfold restP smallP at h5; omega
                      show _ ↔ nameP (x :: s)
                      simp [hn]
                    · try simp only [decide_eq_true_eq, decide_eq_false_iff_not, Bool.not_eq_true', Bool.not_eq_false', Bool.not_true, Bool.not_false, Option.isNone_iff_eq_none, Bool.false_eq_true, Bool.true_eq_false] at ht52
                      refine F_skip ?_
                      refine bn ?_
                      refine tn ?_
                      refine F_region (p := ⟨_, [0, 0], []⟩) rfl [0, 1] rfl ?_
                      refine O_addN rfl rfl rfl rfl rfl rfl (by first | omega | (dsimp only; omega)) ?_
                      refine O_move rfl rfl rfl rfl rfl ?_
                      refine R_nil ?_
                      refine tn ⟨rfl, rfl, (), Sup.app ⟨rfl, rfl, trivial⟩ ⟨congrArg (fun z : Nat => some (Value.int .i64 z)) (show pre.length + 1 = (pre ++ [y]).length by simp), trivial⟩, (by intro z hz; rcases List.mem_append.1 hz with h | h; (exact hI z h); (rw [List.mem_singleton.1 h]; unfold restP smallP; omega)), hS.to (hemp_star _).symm⟩
                  · try simp only [decide_eq_true_eq, decide_eq_false_iff_not, Bool.not_eq_true', Bool.not_eq_false', Bool.not_true, Bool.not_false, Option.isNone_iff_eq_none, Bool.false_eq_true, Bool.true_eq_false] at ht49
                    refine R_skip rfl rfl rfl rfl ?_
                    refine R_skip rfl rfl rfl rfl ?_
                    refine O_pickF rfl rfl rfl rfl rfl rfl ?_
                    refine R_nil ?_
                    refine tn ?_
                    refine F_false rfl rfl ?_
                    refine F_skip ?_
                    refine bn ?_
                    refine tn ?_
                    refine F_region (p := ⟨_, [0, 0], []⟩) rfl [0, 1] rfl ?_
                    refine O_addN rfl rfl rfl rfl rfl rfl (by first | omega | (dsimp only; omega)) ?_
                    refine O_move rfl rfl rfl rfl rfl ?_
                    refine R_nil ?_
                    refine tn ⟨rfl, rfl, (), Sup.app ⟨rfl, rfl, trivial⟩ ⟨congrArg (fun z : Nat => some (Value.int .i64 z)) (show pre.length + 1 = (pre ++ [y]).length by simp), trivial⟩, (by intro z hz; rcases List.mem_append.1 hz with h | h; (exact hI z h); (rw [List.mem_singleton.1 h]; unfold restP smallP; omega)), hS.to (hemp_star _).symm⟩
                · try simp only [decide_eq_true_eq, decide_eq_false_iff_not, Bool.not_eq_true', Bool.not_eq_false', Bool.not_true, Bool.not_false, Option.isNone_iff_eq_none, Bool.false_eq_true, Bool.true_eq_false] at ht45
                  refine R_skip rfl rfl rfl rfl ?_
                  refine R_skip rfl rfl rfl rfl ?_
                  refine O_pickF rfl rfl rfl rfl rfl rfl ?_
                  refine O_move rfl rfl rfl rfl rfl ?_
                  refine R_skip rfl rfl rfl rfl ?_
                  refine R_skip rfl rfl rfl rfl ?_
                  refine O_pickF rfl rfl rfl rfl rfl rfl ?_
                  refine R_nil ?_
                  refine tn ?_
                  refine F_false rfl rfl ?_
                  refine F_skip ?_
                  refine bn ?_
                  refine tn ?_
                  refine F_region (p := ⟨_, [0, 0], []⟩) rfl [0, 1] rfl ?_
                  refine O_addN rfl rfl rfl rfl rfl rfl (by first | omega | (dsimp only; omega)) ?_
                  refine O_move rfl rfl rfl rfl rfl ?_
                  refine R_nil ?_
                  refine tn ⟨rfl, rfl, (), Sup.app ⟨rfl, rfl, trivial⟩ ⟨congrArg (fun z : Nat => some (Value.int .i64 z)) (show pre.length + 1 = (pre ++ [y]).length by simp), trivial⟩, (by intro z hz; rcases List.mem_append.1 hz with h | h; (exact hI z h); (rw [List.mem_singleton.1 h]; unfold restP smallP; omega)), hS.to (hemp_star _).symm⟩
            · try simp only [decide_eq_true_eq, decide_eq_false_iff_not, Bool.not_eq_true', Bool.not_eq_false', Bool.not_true, Bool.not_false, Option.isNone_iff_eq_none, Bool.false_eq_true, Bool.true_eq_false] at ht33
              refine O_move rfl rfl rfl rfl rfl ?_
              refine O_cmp rfl rfl rfl rfl rfl rfl rfl ?_
              refine O_pickF rfl rfl rfl rfl rfl rfl ?_
              refine O_move rfl rfl rfl rfl rfl ?_
              refine R_case (t := 37) rfl (fun ht37 => ?_) (fun ht37 => ?_)
              · try simp only [decide_eq_true_eq, decide_eq_false_iff_not, Bool.not_eq_true', Bool.not_eq_false', Bool.not_true, Bool.not_false, Option.isNone_iff_eq_none, Bool.false_eq_true, Bool.true_eq_false] at ht37
                refine O_move rfl rfl rfl rfl rfl ?_
                refine O_cmp rfl rfl rfl rfl rfl rfl rfl ?_
                refine O_move rfl rfl rfl rfl rfl ?_
                refine R_case (t := 40) rfl (fun ht40 => ?_) (fun ht40 => ?_)
                · try simp only [decide_eq_true_eq, decide_eq_false_iff_not, Bool.not_eq_true', Bool.not_eq_false', Bool.not_true, Bool.not_false, Option.isNone_iff_eq_none, Bool.false_eq_true, Bool.true_eq_false] at ht40
                  refine R_skip rfl rfl rfl rfl ?_
                  refine R_skip rfl rfl rfl rfl ?_
                  refine O_pickT rfl rfl rfl rfl rfl rfl ?_
                  refine O_pickT rfl rfl rfl rfl rfl rfl ?_
                  refine O_move rfl rfl rfl rfl rfl ?_
                  refine O_move rfl rfl rfl rfl rfl ?_
                  refine O_cmp rfl rfl rfl rfl rfl rfl rfl ?_
                  refine O_pickT rfl rfl rfl rfl rfl rfl ?_
                  refine O_move rfl rfl rfl rfl rfl ?_
                  refine R_case (t := 49) rfl (fun ht49 => ?_) (fun ht49 => ?_)
                  · try simp only [decide_eq_true_eq, decide_eq_false_iff_not, Bool.not_eq_true', Bool.not_eq_false', Bool.not_true, Bool.not_false, Option.isNone_iff_eq_none, Bool.false_eq_true, Bool.true_eq_false] at ht49
                    refine O_move rfl rfl rfl rfl rfl ?_
                    refine O_cmp rfl rfl rfl rfl rfl rfl rfl ?_
                    refine O_pickT rfl rfl rfl rfl rfl rfl ?_
                    refine R_nil ?_
                    refine tn ?_
                    refine F_cond rfl (fun ht52 => ?_) (fun ht52 => ?_)
                    · try simp only [decide_eq_true_eq, decide_eq_false_iff_not, Bool.not_eq_true', Bool.not_eq_false', Bool.not_true, Bool.not_false, Option.isNone_iff_eq_none, Bool.false_eq_true, Bool.true_eq_false] at ht52
                      refine F_seq ?_
                      refine F_region (p := ⟨_, [0], []⟩) rfl [0] rfl ?_
                      refine O_assign rfl rfl rfl rfl rfl ?_
                      refine R_nil ?_
                      refine tn ?_
                      refine F_ret ?_
                      refine br ?_
                      refine tr ?_
                      refine tr ?_
                      refine br ?_
                      refine tr ?_
                      show endF _ _ _ _ _ _
                      refine end0 trivial rfl rfl rfl hS ?_
                      intro w hS
                      replace hS := (hS).drop
                      refine ⟨_, rfl, ?_, hS⟩
                      have hn : ¬ nameP (x :: s) := by rintro ⟨_, _, _, h4⟩; have h5 := h4 y (by rw [hx]; simp); unfold restP smallP at h5; omega
                      show _ ↔ nameP (x :: s)
                      simp [hn]
                    · try simp only [decide_eq_true_eq, decide_eq_false_iff_not, Bool.not_eq_true', Bool.not_eq_false', Bool.not_true, Bool.not_false, Option.isNone_iff_eq_none, Bool.false_eq_true, Bool.true_eq_false] at ht52
                      refine F_skip ?_
                      refine bn ?_
                      refine tn ?_
                      refine F_region (p := ⟨_, [0, 0], []⟩) rfl [0, 1] rfl ?_
                      refine O_addN rfl rfl rfl rfl rfl rfl (by first | omega | (dsimp only; omega)) ?_
                      refine O_move rfl rfl rfl rfl rfl ?_
                      refine R_nil ?_
                      refine tn ⟨rfl, rfl, (), Sup.app ⟨rfl, rfl, trivial⟩ ⟨congrArg (fun z : Nat => some (Value.int .i64 z)) (show pre.length + 1 = (pre ++ [y]).length by simp), trivial⟩, (by intro z hz; rcases List.mem_append.1 hz with h | h; (exact hI z h); (rw [List.mem_singleton.1 h]; unfold restP smallP; omega)), hS.to (hemp_star _).symm⟩
                  · try simp only [decide_eq_true_eq, decide_eq_false_iff_not, Bool.not_eq_true', Bool.not_eq_false', Bool.not_true, Bool.not_false, Option.isNone_iff_eq_none, Bool.false_eq_true, Bool.true_eq_false] at ht49
                    refine R_skip rfl rfl rfl rfl ?_
                    refine R_skip rfl rfl rfl rfl ?_
                    refine O_pickF rfl rfl rfl rfl rfl rfl ?_
                    refine R_nil ?_
                    refine tn ?_
                    refine F_false rfl rfl ?_
                    refine F_skip ?_
                    refine bn ?_
                    refine tn ?_
                    refine F_region (p := ⟨_, [0, 0], []⟩) rfl [0, 1] rfl ?_
                    refine O_addN rfl rfl rfl rfl rfl rfl (by first | omega | (dsimp only; omega)) ?_
                    refine O_move rfl rfl rfl rfl rfl ?_
                    refine R_nil ?_
                    refine tn ⟨rfl, rfl, (), Sup.app ⟨rfl, rfl, trivial⟩ ⟨congrArg (fun z : Nat => some (Value.int .i64 z)) (show pre.length + 1 = (pre ++ [y]).length by simp), trivial⟩, (by intro z hz; rcases List.mem_append.1 hz with h | h; (exact hI z h); (rw [List.mem_singleton.1 h]; unfold restP smallP; omega)), hS.to (hemp_star _).symm⟩
                · try simp only [decide_eq_true_eq, decide_eq_false_iff_not, Bool.not_eq_true', Bool.not_eq_false', Bool.not_true, Bool.not_false, Option.isNone_iff_eq_none, Bool.false_eq_true, Bool.true_eq_false] at ht40
                  refine O_move rfl rfl rfl rfl rfl ?_
                  refine O_cmp rfl rfl rfl rfl rfl rfl rfl ?_
                  refine O_pickF rfl rfl rfl rfl rfl rfl ?_
                  refine O_pickT rfl rfl rfl rfl rfl rfl ?_
                  refine O_move rfl rfl rfl rfl rfl ?_
                  refine R_case (t := 45) rfl (fun ht45 => ?_) (fun ht45 => ?_)
                  · try simp only [decide_eq_true_eq, decide_eq_false_iff_not, Bool.not_eq_true', Bool.not_eq_false', Bool.not_true, Bool.not_false, Option.isNone_iff_eq_none, Bool.false_eq_true, Bool.true_eq_false] at ht45
                    refine O_move rfl rfl rfl rfl rfl ?_
                    refine O_cmp rfl rfl rfl rfl rfl rfl rfl ?_
                    refine O_pickT rfl rfl rfl rfl rfl rfl ?_
                    refine O_move rfl rfl rfl rfl rfl ?_
                    refine R_case (t := 49) rfl (fun ht49 => ?_) (fun ht49 => ?_)
                    · try simp only [decide_eq_true_eq, decide_eq_false_iff_not, Bool.not_eq_true', Bool.not_eq_false', Bool.not_true, Bool.not_false, Option.isNone_iff_eq_none, Bool.false_eq_true, Bool.true_eq_false] at ht49
                      refine O_move rfl rfl rfl rfl rfl ?_
                      refine O_cmp rfl rfl rfl rfl rfl rfl rfl ?_
                      refine O_pickT rfl rfl rfl rfl rfl rfl ?_
                      refine R_nil ?_
                      refine tn ?_
                      refine F_cond rfl (fun ht52 => ?_) (fun ht52 => ?_)
                      · try simp only [decide_eq_true_eq, decide_eq_false_iff_not, Bool.not_eq_true', Bool.not_eq_false', Bool.not_true, Bool.not_false, Option.isNone_iff_eq_none, Bool.false_eq_true, Bool.true_eq_false] at ht52
                        refine F_seq ?_
                        refine F_region (p := ⟨_, [0], []⟩) rfl [0] rfl ?_
                        refine O_assign rfl rfl rfl rfl rfl ?_
                        refine R_nil ?_
                        refine tn ?_
                        refine F_ret ?_
                        refine br ?_
                        refine tr ?_
                        refine tr ?_
                        refine br ?_
                        refine tr ?_
                        show endF _ _ _ _ _ _
                        refine end0 trivial rfl rfl rfl hS ?_
                        intro w hS
                        replace hS := (hS).drop
                        refine ⟨_, rfl, ?_, hS⟩
                        have hn : ¬ nameP (x :: s) := by rintro ⟨_, _, _, h4⟩; have h5 := h4 y (by rw [hx]; simp); unfold restP smallP at h5; omega
                        show _ ↔ nameP (x :: s)
                        simp [hn]
                      · try simp only [decide_eq_true_eq, decide_eq_false_iff_not, Bool.not_eq_true', Bool.not_eq_false', Bool.not_true, Bool.not_false, Option.isNone_iff_eq_none, Bool.false_eq_true, Bool.true_eq_false] at ht52
                        refine F_skip ?_
                        refine bn ?_
                        refine tn ?_
                        refine F_region (p := ⟨_, [0, 0], []⟩) rfl [0, 1] rfl ?_
                        refine O_addN rfl rfl rfl rfl rfl rfl (by first | omega | (dsimp only; omega)) ?_
                        refine O_move rfl rfl rfl rfl rfl ?_
                        refine R_nil ?_
                        refine tn ⟨rfl, rfl, (), Sup.app ⟨rfl, rfl, trivial⟩ ⟨congrArg (fun z : Nat => some (Value.int .i64 z)) (show pre.length + 1 = (pre ++ [y]).length by simp), trivial⟩, (by intro z hz; rcases List.mem_append.1 hz with h | h; (exact hI z h); (rw [List.mem_singleton.1 h]; unfold restP smallP; omega)), hS.to (hemp_star _).symm⟩
                    · try simp only [decide_eq_true_eq, decide_eq_false_iff_not, Bool.not_eq_true', Bool.not_eq_false', Bool.not_true, Bool.not_false, Option.isNone_iff_eq_none, Bool.false_eq_true, Bool.true_eq_false] at ht49
                      refine R_skip rfl rfl rfl rfl ?_
                      refine R_skip rfl rfl rfl rfl ?_
                      refine O_pickF rfl rfl rfl rfl rfl rfl ?_
                      refine R_nil ?_
                      refine tn ?_
                      refine F_false rfl rfl ?_
                      refine F_skip ?_
                      refine bn ?_
                      refine tn ?_
                      refine F_region (p := ⟨_, [0, 0], []⟩) rfl [0, 1] rfl ?_
                      refine O_addN rfl rfl rfl rfl rfl rfl (by first | omega | (dsimp only; omega)) ?_
                      refine O_move rfl rfl rfl rfl rfl ?_
                      refine R_nil ?_
                      refine tn ⟨rfl, rfl, (), Sup.app ⟨rfl, rfl, trivial⟩ ⟨congrArg (fun z : Nat => some (Value.int .i64 z)) (show pre.length + 1 = (pre ++ [y]).length by simp), trivial⟩, (by intro z hz; rcases List.mem_append.1 hz with h | h; (exact hI z h); (rw [List.mem_singleton.1 h]; unfold restP smallP; omega)), hS.to (hemp_star _).symm⟩
                  · try simp only [decide_eq_true_eq, decide_eq_false_iff_not, Bool.not_eq_true', Bool.not_eq_false', Bool.not_true, Bool.not_false, Option.isNone_iff_eq_none, Bool.false_eq_true, Bool.true_eq_false] at ht45
                    refine R_skip rfl rfl rfl rfl ?_
                    refine R_skip rfl rfl rfl rfl ?_
                    refine O_pickF rfl rfl rfl rfl rfl rfl ?_
                    refine O_move rfl rfl rfl rfl rfl ?_
                    refine R_skip rfl rfl rfl rfl ?_
                    refine R_skip rfl rfl rfl rfl ?_
                    refine O_pickF rfl rfl rfl rfl rfl rfl ?_
                    refine R_nil ?_
                    refine tn ?_
                    refine F_false rfl rfl ?_
                    refine F_skip ?_
                    refine bn ?_
                    refine tn ?_
                    refine F_region (p := ⟨_, [0, 0], []⟩) rfl [0, 1] rfl ?_
                    refine O_addN rfl rfl rfl rfl rfl rfl (by first | omega | (dsimp only; omega)) ?_
                    refine O_move rfl rfl rfl rfl rfl ?_
                    refine R_nil ?_
                    refine tn ⟨rfl, rfl, (), Sup.app ⟨rfl, rfl, trivial⟩ ⟨congrArg (fun z : Nat => some (Value.int .i64 z)) (show pre.length + 1 = (pre ++ [y]).length by simp), trivial⟩, (by intro z hz; rcases List.mem_append.1 hz with h | h; (exact hI z h); (rw [List.mem_singleton.1 h]; unfold restP smallP; omega)), hS.to (hemp_star _).symm⟩
              · try simp only [decide_eq_true_eq, decide_eq_false_iff_not, Bool.not_eq_true', Bool.not_eq_false', Bool.not_true, Bool.not_false, Option.isNone_iff_eq_none, Bool.false_eq_true, Bool.true_eq_false] at ht37
                refine R_skip rfl rfl rfl rfl ?_
                refine R_skip rfl rfl rfl rfl ?_
                refine R_skip rfl rfl rfl rfl ?_
                refine R_skip rfl rfl rfl rfl ?_
                refine R_skip rfl rfl rfl rfl ?_
                refine R_skip rfl rfl rfl rfl ?_
                refine O_pickF rfl rfl rfl rfl rfl rfl ?_
                refine O_move rfl rfl rfl rfl rfl ?_
                refine R_skip rfl rfl rfl rfl ?_
                refine R_skip rfl rfl rfl rfl ?_
                refine O_pickF rfl rfl rfl rfl rfl rfl ?_
                refine O_move rfl rfl rfl rfl rfl ?_
                refine R_skip rfl rfl rfl rfl ?_
                refine R_skip rfl rfl rfl rfl ?_
                refine O_pickF rfl rfl rfl rfl rfl rfl ?_
                refine R_nil ?_
                refine tn ?_
                refine F_false rfl rfl ?_
                refine F_skip ?_
                refine bn ?_
                refine tn ?_
                refine F_region (p := ⟨_, [0, 0], []⟩) rfl [0, 1] rfl ?_
                refine O_addN rfl rfl rfl rfl rfl rfl (by first | omega | (dsimp only; omega)) ?_
                refine O_move rfl rfl rfl rfl rfl ?_
                refine R_nil ?_
                refine tn ⟨rfl, rfl, (), Sup.app ⟨rfl, rfl, trivial⟩ ⟨congrArg (fun z : Nat => some (Value.int .i64 z)) (show pre.length + 1 = (pre ++ [y]).length by simp), trivial⟩, (by intro z hz; rcases List.mem_append.1 hz with h | h; (exact hI z h); (rw [List.mem_singleton.1 h]; unfold restP smallP; omega)), hS.to (hemp_star _).symm⟩
theorem idxByte {w0 w : World} {R : HProp} (s : ByteArray) (c : UInt8) (hS : Sat w0 R w) : Calls Try.prog 115 #[.string s, .int .u8 (c.toNat : Nat)] w (ret fun u w' => u = .int .i64 (Go.Lib.indexByte s.data.toList c) ∧ Sat w0 R w') := by
  have hc : ((c.toNat : Nat) : Int).toNat.toUInt8 = c := by simp
  replace hS := hS.noblks
  refine enterF (args := [_, _]) Try.func115 rfl Try.ntmps115 rfl rfl ?_
  refine F_seq ?_
  refine F_region (p := ⟨_, [0], []⟩) rfl [0] rfl ?_
  refine O_assign rfl rfl rfl rfl rfl ?_
  refine R_nil ?_
  refine tn ?_
  refine F_seq ?_
  refine F_region (p := ⟨_, [0, 0, 2, 0], []⟩) rfl [0, 1, 2, 3] rfl ?_
  refine O_move rfl rfl rfl rfl rfl ?_
  refine O_move rfl rfl rfl rfl rfl ?_
  refine O_callx rfl rfl rfl rfl Try.func119 (by decide) rfl (by kernel_rfl) (by kernel_rfl) rfl (Go.Lib.run_indexByteString s _ _) trivial ?_
  rw [hc]
  refine O_assign rfl rfl rfl rfl rfl ?_
  refine R_nil ?_
  refine tn ?_
  refine F_ret ?_
  show endF _ _ _ _ _ _
  refine end0 trivial rfl rfl rfl hS ?_
  intro w hS
  replace hS := (hS).drop
  exact ⟨rfl, hS⟩
theorem idx_mem {l : List UInt8} {c : UInt8} : 0 ≤ Go.Lib.indexByte l c ↔ c ∈ l := by
  have hge := Go.Lib.indexByte_ge l c
  constructor
  · intro h
    obtain ⟨o, ho⟩ := Int.eq_ofNat_of_zero_le h
    exact List.mem_of_getElem? (Go.Lib.indexByte_some ho).1
  · intro h
    rcases Int.lt_or_le (Go.Lib.indexByte l c) 0 with h1 | h1
    · obtain ⟨k, hk⟩ := List.mem_iff_getElem?.1 h
      exact absurd hk (Go.Lib.indexByte_none (by omega) k)
    · exact h1
theorem idx1 {w0 w : World} {R : HProp} (s : ByteArray) (c : UInt8) (hS : Sat w0 R w) : Calls Try.prog 111 #[.string s, .string (bs [c])] w (ret fun u w' => ∃ v, u = .int .i64 v ∧ (0 ≤ v ↔ c ∈ s.data.toList) ∧ Sat w0 R w') := by
  replace hS := hS.noblks
  refine enterF (args := [_, _]) Try.func111 rfl Try.ntmps111 rfl rfl ?_
  refine F_seq ?_
  refine F_region (p := ⟨_, [0], []⟩) rfl [0] rfl ?_
  refine O_assign rfl rfl rfl rfl rfl ?_
  refine R_nil ?_
  refine tn ?_
  refine F_seq ?_
  refine F_region (p := ⟨_, [0, 0, 0], []⟩) rfl [0, 1, 2] rfl ?_
  refine O_move rfl rfl rfl rfl rfl ?_
  refine O_lenBs rfl rfl rfl rfl rfl Try.runUnderlying9 ?_
  refine O_assign rfl rfl rfl rfl rfl ?_
  refine R_nil ?_
  refine tn ?_
  refine F_seq ?_
  refine F_block ?_
  refine F_seq ?_
  refine F_region (p := ⟨_, [0, 0, 0, 0, 0, 0, 0, 0], []⟩) rfl [0, 1, 2, 3, 4, 5, 6, 7] rfl ?_
  refine O_move rfl rfl rfl rfl rfl ?_
  refine O_cmp rfl rfl rfl rfl rfl rfl rfl ?_
  refine O_move rfl rfl rfl rfl rfl ?_
  refine R_caseF (t := 19) rfl rfl ?_
  refine O_move rfl rfl rfl rfl rfl ?_
  refine O_move rfl rfl rfl rfl rfl ?_
  refine O_cmpStr rfl rfl rfl rfl rfl rfl rfl ?_
  refine O_pickF rfl rfl rfl rfl rfl rfl ?_
  refine O_assign rfl rfl rfl rfl rfl ?_
  refine R_nil ?_
  refine tn ?_
  refine F_cond rfl (fun h16 => ?_) (fun h16 => ?_)
  · try simp only [decide_eq_true_eq, decide_eq_false_iff_not, Bool.not_eq_true', Bool.not_eq_false', Bool.not_true, Bool.not_false, Option.isNone_iff_eq_none, Bool.false_eq_true, Bool.true_eq_false] at h16
    refine F_seq ?_
    refine F_region (p := ⟨_, [0], []⟩) rfl [0] rfl ?_
    refine O_assign rfl rfl rfl rfl rfl ?_
    refine R_nil ?_
    refine tn ?_
    refine F_ret ?_
    refine br ?_
    refine tr ?_
    show endF _ _ _ _ _ _
    refine end0 trivial rfl rfl rfl hS ?_
    intro w hS
    replace hS := (hS).drop
    exact ⟨_, rfl, by rw [← h16]; simp [bs], hS⟩
  · try simp only [decide_eq_true_eq, decide_eq_false_iff_not, Bool.not_eq_true', Bool.not_eq_false', Bool.not_true, Bool.not_false, Option.isNone_iff_eq_none, Bool.false_eq_true, Bool.true_eq_false] at h16
    refine F_seq ?_
    refine F_region (p := ⟨_, [0, 0, 0], []⟩) rfl [0, 1, 2] rfl ?_
    refine O_move rfl rfl rfl rfl rfl ?_
    refine O_cmp rfl rfl rfl rfl rfl rfl rfl ?_
    refine O_assign rfl rfl rfl rfl rfl ?_
    refine R_nil ?_
    refine tn ?_
    refine F_true rfl rfl ?_
    refine F_seq ?_
    refine F_region (p := ⟨_, [0, 0, 0, 2, 0], []⟩) rfl [0, 1, 2, 3, 4] rfl ?_
    refine O_move rfl rfl rfl rfl rfl ?_
    refine O_move rfl rfl rfl rfl rfl ?_
    refine O_indexStr (m := 0) (c := c) rfl rfl rfl rfl Try.runUnderlying9 rfl rfl rfl rfl ?_
    refine O_call rfl rfl rfl rfl Try.call115 rfl (idxByte s c (hS)) (fun _ _ hv => trivial) ?_
    rintro _ w ⟨rfl, hS⟩
    refine O_assign rfl rfl rfl rfl rfl ?_
    refine R_nil ?_
    refine tn ?_
    refine F_ret ?_
    refine br ?_
    refine tr ?_
    show endF _ _ _ _ _ _
    refine end0 trivial rfl rfl rfl hS ?_
    intro w hS
    replace hS := (hS).drop
    exact ⟨_, rfl, idx_mem, hS⟩
theorem idx2 {w0 w : World} {R : HProp} (s : ByteArray) (c : UInt8) (hS : Sat w0 R w) : Calls Try.prog 101 #[.string s, .string (bs [c])] w (ret fun u w' => ∃ v, u = .int .i64 v ∧ (0 ≤ v ↔ c ∈ s.data.toList) ∧ Sat w0 R w') := by
  replace hS := hS.noblks
  refine enterF (args := [_, _]) Try.func101 rfl Try.ntmps101 rfl rfl ?_
  refine F_seq ?_
  refine F_region (p := ⟨_, [0], []⟩) rfl [0] rfl ?_
  refine O_assign rfl rfl rfl rfl rfl ?_
  refine R_nil ?_
  refine tn ?_
  refine F_seq ?_
  refine F_region (p := ⟨_, [0, 0, 2, 0], []⟩) rfl [0, 1, 2, 3] rfl ?_
  refine O_move rfl rfl rfl rfl rfl ?_
  refine O_move rfl rfl rfl rfl rfl ?_
  refine O_call rfl rfl rfl rfl Try.call111 rfl (idx1 s c (hS)) (fun _ _ hv => trivial) ?_
  rintro _ w ⟨v, rfl, hv, hS⟩
  refine O_assign rfl rfl rfl rfl rfl ?_
  refine R_nil ?_
  refine tn ?_
  refine F_ret ?_
  show endF _ _ _ _ _ _
  refine end0 trivial rfl rfl rfl hS ?_
  intro w hS
  replace hS := (hS).drop
  exact ⟨v, rfl, hv, hS⟩
theorem contains1 {w0 w : World} {R : HProp} (s : ByteArray) (c : UInt8) (hS : Sat w0 R w) : Calls Try.prog 83 #[.string s, .string (bs [c])] w (ret fun u w' => ∃ b, u = .bool b ∧ (b = true ↔ c ∈ s.data.toList) ∧ Sat w0 R w') := by
  replace hS := hS.noblks
  refine enterF (args := [_, _]) Try.func83 rfl Try.ntmps83 rfl rfl ?_
  refine F_seq ?_
  refine F_region (p := ⟨_, [0], []⟩) rfl [0] rfl ?_
  refine O_assign rfl rfl rfl rfl rfl ?_
  refine R_nil ?_
  refine tn ?_
  refine F_seq ?_
  refine F_region (p := ⟨_, [0, 0, 2, 0, 0], []⟩) rfl [0, 1, 2, 3, 4] rfl ?_
  refine O_move rfl rfl rfl rfl rfl ?_
  refine O_move rfl rfl rfl rfl rfl ?_
  refine O_call rfl rfl rfl rfl Try.call101 rfl (idx2 s c (hS)) (fun _ _ hv => trivial) ?_
  rintro _ w ⟨v, rfl, hv, hS⟩
  refine O_cmp rfl rfl rfl rfl rfl rfl rfl ?_
  refine O_assign rfl rfl rfl rfl rfl ?_
  refine R_nil ?_
  refine tn ?_
  refine F_ret ?_
  show endF _ _ _ _ _ _
  refine end0 trivial rfl rfl rfl hS ?_
  intro w hS
  replace hS := (hS).drop
  exact ⟨_, rfl, by rw [decide_eq_true_eq]; exact hv, hS⟩
end Go.Proofs.Ytpnigaoibhogfaa
