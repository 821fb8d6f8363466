/- YtpnigaoibhogfaaR14: a part of the proof: walks over the translated code, and plain facts on lists beside. -/
import Derived.Test.YtpnigaoibhogfaaProg
import Derived.Test.YtpnigaoibhogfaaSlPT
import Derived.KernelRfl
set_option linter.all false
namespace Go.Proofs.Ytpnigaoibhogfaa
open Go Go.RowKit Go.Sl
set_option linter.unusedVariables false
theorem ints {w0 w : World} {R : HProp} (a b : Int) (hS : Sat w0 R w) : Calls Try.prog 85 #[.int .i64 a, .int .i64 b] w (ret fun u w' => u = .int .i64 (sgn a b) ∧ Sat w0 R w') := by
  replace hS := hS.noblks
  refine enterF (args := [_, _]) Try.func85 rfl Try.ntmps85 rfl rfl ?_
  refine F_seq ?_
  refine F_region (p := ⟨_, [0], []⟩) rfl [0] rfl ?_
  refine O_assign rfl rfl rfl rfl rfl ?_
  refine R_nil ?_
  refine tn ?_
  refine F_seq ?_
  refine F_seq ?_
  refine F_region (p := ⟨_, [0, 0, 0], []⟩) rfl [0, 1, 2] rfl ?_
  refine O_move rfl rfl rfl rfl rfl ?_
  refine O_move rfl rfl rfl rfl rfl ?_
  refine O_cmp rfl rfl rfl rfl rfl rfl rfl ?_
  refine R_nil ?_
  refine tn ?_
  refine F_cond rfl (fun ht7 => ?_) (fun ht7 => ?_)
  · try simp only [decide_eq_true_eq, decide_eq_false_iff_not, Bool.not_eq_true', Bool.not_eq_false', Bool.not_true, Bool.not_false, Option.isNone_iff_eq_none, Bool.false_eq_true, Bool.true_eq_false] at ht7
    refine F_seq ?_
    refine F_region (p := ⟨_, [0], []⟩) rfl [0] rfl ?_
    refine O_assign rfl rfl rfl rfl rfl ?_
    refine R_nil ?_
    refine tn ?_
    refine F_ret ?_
    refine tr ?_
    show endF _ _ _ _ _ _
    refine end0 trivial rfl rfl rfl hS ?_
    intro w hS
    replace hS := (hS).drop
    exact ⟨by simp only [oneRes, sgn]; split <;> (try split) <;> first | rfl | omega, hS⟩
  · try simp only [decide_eq_true_eq, decide_eq_false_iff_not, Bool.not_eq_true', Bool.not_eq_false', Bool.not_true, Bool.not_false, Option.isNone_iff_eq_none, Bool.false_eq_true, Bool.true_eq_false] at ht7
    refine F_skip ?_
    refine tn ?_
    refine F_seq ?_
    refine F_seq ?_
    refine F_region (p := ⟨_, [0, 0, 0], []⟩) rfl [0, 1, 2] rfl ?_
    refine O_move rfl rfl rfl rfl rfl ?_
    refine O_move rfl rfl rfl rfl rfl ?_
    refine O_cmp rfl rfl rfl rfl rfl rfl rfl ?_
    refine R_nil ?_
    refine tn ?_
    refine F_cond rfl (fun ht10 => ?_) (fun ht10 => ?_)
    · try simp only [decide_eq_true_eq, decide_eq_false_iff_not, Bool.not_eq_true', Bool.not_eq_false', Bool.not_true, Bool.not_false, Option.isNone_iff_eq_none, Bool.false_eq_true, Bool.true_eq_false] at ht10
      refine F_seq ?_
      refine F_region (p := ⟨_, [0], []⟩) rfl [0] rfl ?_
      refine O_assign rfl rfl rfl rfl rfl ?_
      refine R_nil ?_
      refine tn ?_
      refine F_ret ?_
      refine tr ?_
      show endF _ _ _ _ _ _
      refine end0 trivial rfl rfl rfl hS ?_
      intro w hS
      replace hS := (hS).drop
      exact ⟨by simp only [oneRes, sgn]; split <;> (try split) <;> first | rfl | omega, hS⟩
    · try simp only [decide_eq_true_eq, decide_eq_false_iff_not, Bool.not_eq_true', Bool.not_eq_false', Bool.not_true, Bool.not_false, Option.isNone_iff_eq_none, Bool.false_eq_true, Bool.true_eq_false] at ht10
      refine F_skip ?_
      refine tn ?_
      refine F_seq ?_
      refine F_region (p := ⟨_, [0], []⟩) rfl [0] rfl ?_
      refine O_assign rfl rfl rfl rfl rfl ?_
      refine R_nil ?_
      refine tn ?_
      refine F_ret ?_
      show endF _ _ _ _ _ _
      refine end0 trivial rfl rfl rfl hS ?_
      intro w hS
      replace hS := (hS).drop
      exact ⟨by simp only [oneRes, sgn]; split <;> (try split) <;> first | rfl | omega, hS⟩
theorem texts {w0 w : World} {R : HProp} (a b : ByteArray) (hb : b.size ≤ 9223372036854775807) (hS : Sat w0 R w) : Calls Try.prog 61 #[.string a, .string b] w (ret fun u w' => u = .int .i64 (cmpS a b) ∧ Sat w0 R w') := by
  obtain ⟨⟨a⟩⟩ := a
  obtain ⟨⟨b⟩⟩ := b
  replace hb : b.length ≤ 9223372036854775807 := hb
  replace hS := hS.noblks
  refine enterF (args := [_, _]) Try.func61 rfl Try.ntmps61 rfl rfl ?_
  refine F_seq ?_
  refine F_region (p := ⟨_, [0], []⟩) rfl [0] rfl ?_
  refine O_assign rfl rfl rfl rfl rfl ?_
  refine R_nil ?_
  refine tn ?_
  refine F_seq ?_
  refine F_seq ?_
  refine F_region (p := ⟨_, [0], []⟩) rfl [0] rfl ?_
  refine O_assign rfl rfl rfl rfl rfl ?_
  refine R_nil ?_
  refine tn ?_
  refine F_block ?_
  refine F_loopL (α := (UInt8)) (σ := (List UInt8)) (a) [(0, _), (1, _)] (fun (pre : List (UInt8)) (st : List UInt8) => [(5, (.int .i64 (pre.length : Nat)))]) (fun (pre : List (UInt8)) (st : List UInt8) => hemp) (fun (pre : List (UInt8)) (st : List UInt8) => b = pre ++ st) b (Sup.app ⟨rfl, rfl, trivial⟩ ⟨rfl, trivial⟩) (hS.to (hemp_star _).symm) rfl ?_ ?_
  · clear hS
    intro st w hI hS
    replace hS := hS.to (hemp_star _)
    refine wpF.sup (L := [(0, _), (1, _), (5, _)]) ?_ ⟨rfl, rfl, rfl, trivial⟩
    refine F_seq ?_
    refine F_seq ?_
    refine F_region (p := ⟨_, [0, 0, 0, 0, 0, 0, 0, 0, 0, 0], []⟩) rfl [0, 1, 2, 3, 4, 5, 6, 7, 8, 9] rfl ?_
    refine O_move rfl rfl rfl rfl rfl ?_
    refine O_move rfl rfl rfl rfl rfl ?_
    refine O_lenBs rfl rfl rfl rfl rfl Try.runUnderlying9 ?_
    refine O_cmp rfl rfl rfl rfl rfl rfl rfl ?_
    refine O_move rfl rfl rfl rfl rfl ?_
    refine R_caseF (t := 10) rfl (decide_eq_false (by omega)) ?_
    refine R_skip rfl rfl rfl rfl ?_
    refine R_skip rfl rfl rfl rfl ?_
    refine R_skip rfl rfl rfl rfl ?_
    refine R_skip rfl rfl rfl rfl ?_
    refine O_pickF rfl rfl rfl rfl rfl rfl ?_
    refine R_nil ?_
    refine tn ?_
    refine F_false rfl rfl ?_
    refine F_exit ?_
    refine tx ?_
    refine tx ?_
    refine Go.Sl.bx rfl ?_
    refine tn ?_
    refine F_seq ?_
    refine F_region (p := ⟨_, [0, 0, 0, 0, 2, 0], []⟩) rfl [0, 1, 2, 3, 4, 5] rfl ?_
    refine O_move rfl rfl rfl rfl rfl ?_
    refine O_lenBs rfl rfl rfl rfl rfl Try.runUnderlying9 ?_
    refine O_move rfl rfl rfl rfl rfl ?_
    refine O_lenBs rfl rfl rfl rfl rfl Try.runUnderlying9 ?_
    refine O_call rfl rfl rfl rfl Try.call85 rfl (ints _ _ (hS)) (fun _ _ hv => trivial) ?_
    rintro _ w ⟨rfl, hS⟩
    refine O_assign rfl rfl rfl rfl rfl ?_
    refine R_nil ?_
    refine tn ?_
    refine F_ret ?_
    show endF _ _ _ _ _ _
    refine end0 trivial rfl rfl rfl hS ?_
    intro w hS
    replace hS := (hS).drop
    refine ⟨congrArg (Value.int .i64) ?_, hS⟩
    rw [hI]
    refine Eq.trans ?_ (cmp_done a st).symm
    have h2 : (b.length : Int) = a.length + st.length := by rw [hI]; simp
    unfold sgn; cases st <;> simp at h2 ⊢ <;> omega
  · clear hS
    intro pre x post st w hx hI hS
    replace hS := hS.to (hemp_star _)
    refine wpF.sup (L := [(0, _), (1, _), (5, _)]) ?_ ⟨rfl, rfl, rfl, trivial⟩
    have hl : pre.length + (post.length + 1) = a.length := by rw [hx]; simp
    have hl2 : b.length = pre.length + st.length := by rw [hI]; simp
    rcases st with _ | ⟨y, st⟩
    · simp only [List.length_nil, Nat.add_zero] at hl2
      refine F_seq ?_
      refine F_seq ?_
      refine F_region (p := ⟨_, [0, 0, 0, 0, 0, 0, 0, 0, 0, 0], []⟩) rfl [0, 1, 2, 3, 4, 5, 6, 7, 8, 9] rfl ?_
      refine O_move rfl rfl rfl rfl rfl ?_
      refine O_move rfl rfl rfl rfl rfl ?_
      refine O_lenBs rfl rfl rfl rfl rfl Try.runUnderlying9 ?_
      refine O_cmp rfl rfl rfl rfl rfl rfl rfl ?_
      refine O_move rfl rfl rfl rfl rfl ?_
      refine R_caseT (t := 10) rfl (decide_eq_true (by omega)) ?_
      refine O_move rfl rfl rfl rfl rfl ?_
      refine O_move rfl rfl rfl rfl rfl ?_
      refine O_lenBs rfl rfl rfl rfl rfl Try.runUnderlying9 ?_
      refine O_cmp rfl rfl rfl rfl rfl rfl rfl ?_
      refine O_pickT rfl rfl rfl rfl rfl rfl ?_
      refine R_nil ?_
      refine tn ?_
      refine F_false rfl (decide_eq_false (by omega)) ?_
      refine F_exit ?_
      refine tx ?_
      refine tx ?_
      refine Go.Sl.bx rfl ?_
      refine tn ?_
      refine F_seq ?_
      refine F_region (p := ⟨_, [0, 0, 0, 0, 2, 0], []⟩) rfl [0, 1, 2, 3, 4, 5] rfl ?_
      refine O_move rfl rfl rfl rfl rfl ?_
      refine O_lenBs rfl rfl rfl rfl rfl Try.runUnderlying9 ?_
      refine O_move rfl rfl rfl rfl rfl ?_
      refine O_lenBs rfl rfl rfl rfl rfl Try.runUnderlying9 ?_
      refine O_call rfl rfl rfl rfl Try.call85 rfl (ints _ _ (hS)) (fun _ _ hv => trivial) ?_
      rintro _ w ⟨rfl, hS⟩
      refine O_assign rfl rfl rfl rfl rfl ?_
      refine R_nil ?_
      refine tn ?_
      refine F_ret ?_
      show endF _ _ _ _ _ _
      refine end0 trivial rfl rfl rfl hS ?_
      intro w hS
      replace hS := (hS).drop
      refine ⟨congrArg (Value.int .i64) ?_, hS⟩
      rw [hx, hI, List.append_nil]
      refine Eq.trans ?_ (cmp_more pre x post).symm
      unfold sgn; rw [List.length_append, List.length_cons, if_neg (by omega), if_pos (by omega)]
    · simp only [List.length_cons] at hl2
      have hu1 := u8_bd x
      have hu2 := u8_bd y
      refine F_seq ?_
      refine F_seq ?_
      refine F_region (p := ⟨_, [0, 0, 0, 0, 0, 0, 0, 0, 0, 0], []⟩) rfl [0, 1, 2, 3, 4, 5, 6, 7, 8, 9] rfl ?_
      refine O_move rfl rfl rfl rfl rfl ?_
      refine O_move rfl rfl rfl rfl rfl ?_
      refine O_lenBs rfl rfl rfl rfl rfl Try.runUnderlying9 ?_
      refine O_cmp rfl rfl rfl rfl rfl rfl rfl ?_
      refine O_move rfl rfl rfl rfl rfl ?_
      refine R_caseT (t := 10) rfl (decide_eq_true (by omega)) ?_
      refine O_move rfl rfl rfl rfl rfl ?_
      refine O_move rfl rfl rfl rfl rfl ?_
      refine O_lenBs rfl rfl rfl rfl rfl Try.runUnderlying9 ?_
      refine O_cmp rfl rfl rfl rfl rfl rfl rfl ?_
      refine O_pickT rfl rfl rfl rfl rfl rfl ?_
      refine R_nil ?_
      refine tn ?_
      refine F_true rfl (decide_eq_true (by omega)) ?_
      refine F_skip ?_
      refine tn ?_
      refine F_seq ?_
      refine F_block ?_
      refine F_seq ?_
      refine F_drawnS hS (by kernel_rfl) (p := ⟨_, [0, 0, 0, 0, 0, 0, 0], []⟩) rfl (.ofList [0, 1, 2, 3, 4, 5, 6]) (by kernel_rfl) ?_
      intro w hS
      refine O_move rfl rfl rfl rfl rfl ?_
      refine O_move rfl rfl rfl rfl rfl ?_
      refine O_indexStr (m := pre.length) (c := x) rfl rfl rfl rfl Try.runUnderlying9 rfl rfl rfl (by rw [hx]; simp) ?_
      refine O_move rfl rfl rfl rfl rfl ?_
      refine O_move rfl rfl rfl rfl rfl ?_
      refine O_indexStr (m := pre.length) (c := y) rfl rfl rfl rfl Try.runUnderlying9 rfl rfl rfl (by rw [hI]; simp) ?_
      refine O_cmp rfl rfl rfl rfl rfl rfl rfl ?_
      refine R_nil ?_
      refine tn ?_
      refine F_cond rfl (fun ht24 => ?_) (fun ht24 => ?_)
      · try simp only [decide_eq_true_eq, decide_eq_false_iff_not, Bool.not_eq_true', Bool.not_eq_false', Bool.not_true, Bool.not_false, Option.isNone_iff_eq_none, Bool.false_eq_true, Bool.true_eq_false] at ht24
        refine F_seq ?_
        refine F_drawnS hS (by kernel_rfl) (p := ⟨_, [0, 0, 0, 0, 0, 0, 0, 0, 2, 0], []⟩) rfl (.ofList [0, 1, 2, 3, 4, 5, 6, 7, 8, 9]) (by kernel_rfl) ?_
        intro w hS
        refine O_move rfl rfl rfl rfl rfl ?_
        refine O_move rfl rfl rfl rfl rfl ?_
        refine O_indexStr (m := pre.length) (c := x) rfl rfl rfl rfl Try.runUnderlying9 rfl rfl rfl (by rw [hx]; simp) ?_
        refine O_convI rfl rfl rfl rfl Try.runUnderlying5 Try.runUnderlying3 rfl (by omega) ?_
        refine O_move rfl rfl rfl rfl rfl ?_
        refine O_move rfl rfl rfl rfl rfl ?_
        refine O_indexStr (m := pre.length) (c := y) rfl rfl rfl rfl Try.runUnderlying9 rfl rfl rfl (by rw [hI]; simp) ?_
        refine O_convI rfl rfl rfl rfl Try.runUnderlying5 Try.runUnderlying3 rfl (by omega) ?_
        refine O_call rfl rfl rfl rfl Try.call85 rfl (ints _ _ (hS)) (fun _ _ hv => trivial) ?_
        rintro _ w ⟨rfl, hS⟩
        refine O_assign rfl rfl rfl rfl rfl ?_
        refine R_nil ?_
        refine tn ?_
        refine F_ret ?_
        refine br ?_
        refine tr ?_
        refine tr ?_
        refine br ?_
        refine tr ?_
        show endF _ _ _ _ _ _
        refine end0 trivial rfl rfl rfl hS ?_
        intro w hS
        replace hS := (hS).drop
        refine ⟨congrArg (Value.int .i64) ?_, hS⟩
        rw [hx, hI]
        exact (cmp_ne pre x y post st ht24).symm
      · try simp only [decide_eq_true_eq, decide_eq_false_iff_not, Bool.not_eq_true', Bool.not_eq_false', Bool.not_true, Bool.not_false, Option.isNone_iff_eq_none, Bool.false_eq_true, Bool.true_eq_false] at ht24
        refine F_skip ?_
        refine bn ?_
        refine tn ?_
        refine F_region (p := ⟨_, [0, 0, 0], []⟩) rfl [0, 1, 2] rfl ?_
        refine O_move rfl rfl rfl rfl rfl ?_
        refine O_addN rfl rfl rfl rfl rfl rfl (by first | omega | (dsimp only; omega)) ?_
        refine O_assign rfl rfl rfl rfl rfl ?_
        refine R_nil ?_
        refine tn ⟨rfl, rfl, st, Sup.app ⟨rfl, rfl, trivial⟩ ⟨congrArg (fun z : Nat => some (Value.int .i64 z)) (show pre.length + 1 = (pre ++ [x]).length by simp), trivial⟩, (by rw [hI, u8_eq ht24]; simp), hS.to (hemp_star _).symm⟩
end Go.Proofs.Ytpnigaoibhogfaa
