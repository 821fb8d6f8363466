/- YtpnigaoibhogfaaR15: a part of the proof: walks over the translated code, and plain facts on lists beside. -/
import Derived.Test.YtpnigaoibhogfaaR14
import Derived.Test.YtpnigaoibhogfaaSlTag
set_option linter.all false
namespace Go.Proofs.Ytpnigaoibhogfaa
open Go Go.RowKit Go.Sl
set_option linter.unusedVariables false
theorem cut {w0 w : World} {R : HProp} (s : ByteArray) (c : UInt8) (hb : s.size ≤ 9223372036854775807) (hS : Sat w0 R w) : Calls Try.prog 52 #[.string s, .int .u8 (c.toNat : Nat)] w (ret fun u w' => (∃ a b, s.data.toList = a ++ c :: b ∧ ¬ c ∈ a ∧ u = .tuple #[.string (bs a), .string (bs b), .bool true] ∧ Sat w0 R w') ∨ (¬ c ∈ s.data.toList ∧ u = .tuple #[.string s, .string (bs []), .bool false] ∧ Sat w0 R w')) := by
  obtain ⟨⟨s⟩⟩ := s
  replace hb : s.length ≤ 9223372036854775807 := hb
  have huc := u8_bd c
  replace hS := hS.noblks
  refine enterF (args := [_, _]) Try.func52 rfl Try.ntmps52 rfl rfl ?_
  refine F_seq ?_
  refine F_region (p := ⟨_, [0, 0, 0], []⟩) rfl [0, 1, 2] rfl ?_
  refine O_assign rfl rfl rfl rfl rfl ?_
  refine O_assign rfl rfl rfl rfl rfl ?_
  refine O_assign rfl rfl rfl rfl rfl ?_
  refine R_nil ?_
  refine tn ?_
  refine F_seq ?_
  refine F_seq ?_
  refine F_region (p := ⟨_, [0], []⟩) rfl [0] rfl ?_
  refine O_assign rfl rfl rfl rfl rfl ?_
  refine R_nil ?_
  refine tn ?_
  refine F_block ?_
  refine F_loopL (α := (UInt8)) (σ := (Unit)) (s) [(0, _), (1, _)] (fun (pre : List (UInt8)) (st : Unit) => [(7, (.int .i64 (pre.length : Nat)))]) (fun (pre : List (UInt8)) (st : Unit) => hemp) (fun (pre : List (UInt8)) (st : Unit) => ¬ c ∈ pre) () (Sup.app ⟨rfl, rfl, trivial⟩ ⟨rfl, trivial⟩) (hS.to (hemp_star _).symm) (by simp) ?_ ?_
  · clear hS
    intro st w hI hS
    replace hS := hS.to (hemp_star _)
    refine wpF.sup (L := [(0, _), (1, _), (7, _)]) ?_ ⟨rfl, rfl, rfl, trivial⟩
    refine F_seq ?_
    refine F_seq ?_
    refine F_region (p := ⟨_, [0, 0, 0, 0], []⟩) rfl [0, 1, 2, 3] rfl ?_
    refine O_move rfl rfl rfl rfl rfl ?_
    refine O_move rfl rfl rfl rfl rfl ?_
    refine O_lenBs rfl rfl rfl rfl rfl Try.runUnderlying9 ?_
    refine O_cmp rfl rfl rfl rfl rfl rfl rfl ?_
    refine R_nil ?_
    refine tn ?_
    refine F_false rfl (decide_eq_false (by omega)) ?_
    refine F_exit ?_
    refine tx ?_
    refine tx ?_
    refine Go.Sl.bx rfl ?_
    refine tn ?_
    refine F_seq ?_
    refine F_region (p := ⟨_, [0, 0, 0, 0], []⟩) rfl [0, 1, 2, 3] rfl ?_
    refine O_move rfl rfl rfl rfl rfl ?_
    refine O_assign rfl rfl rfl rfl rfl ?_
    refine O_assign rfl rfl rfl rfl rfl ?_
    refine O_assign rfl rfl rfl rfl rfl ?_
    refine R_nil ?_
    refine tn ?_
    refine F_ret ?_
    show endF _ _ _ _ _ _
    refine end0 trivial rfl rfl rfl hS ?_
    intro w hS
    replace hS := (hS).drop
    exact .inr ⟨hI, rfl, hS⟩
  · clear hS
    intro pre x post st w hx hI hS
    replace hS := hS.to (hemp_star _)
    refine wpF.sup (L := [(0, _), (1, _), (7, _)]) ?_ ⟨rfl, rfl, rfl, trivial⟩
    have hl : pre.length + (post.length + 1) = s.length := by rw [hx]; simp
    have hux := u8_bd x
    refine F_seq ?_
    refine F_seq ?_
    refine F_region (p := ⟨_, [0, 0, 0, 0], []⟩) rfl [0, 1, 2, 3] rfl ?_
    refine O_move rfl rfl rfl rfl rfl ?_
    refine O_move rfl rfl rfl rfl rfl ?_
    refine O_lenBs rfl rfl rfl rfl rfl Try.runUnderlying9 ?_
    refine O_cmp rfl rfl rfl rfl rfl rfl rfl ?_
    refine R_nil ?_
    refine tn ?_
    refine F_true rfl (decide_eq_true (by omega)) ?_
    refine F_skip ?_
    refine tn ?_
    refine F_seq ?_
    refine F_block ?_
    refine F_seq ?_
    refine F_region (p := ⟨_, [0, 0, 0, 0, 0], []⟩) rfl [0, 1, 2, 3, 4] rfl ?_
    refine O_move rfl rfl rfl rfl rfl ?_
    refine O_move rfl rfl rfl rfl rfl ?_
    refine O_indexStr (m := pre.length) (c := x) rfl rfl rfl rfl Try.runUnderlying9 rfl rfl rfl (by rw [hx]; simp) ?_
    refine O_move rfl rfl rfl rfl rfl ?_
    refine O_cmp rfl rfl rfl rfl rfl rfl rfl ?_
    refine R_nil ?_
    refine tn ?_
    refine F_cond rfl (fun ht18 => ?_) (fun ht18 => ?_)
    · try simp only [decide_eq_true_eq, decide_eq_false_iff_not, Bool.not_eq_true', Bool.not_eq_false', Bool.not_true, Bool.not_false, Option.isNone_iff_eq_none, Bool.false_eq_true, Bool.true_eq_false] at ht18
      refine F_seq ?_
      refine F_drawnS hS (by kernel_rfl) (p := ⟨_, [0, 0, 0, 0, 0, 0, 0, 0, 0, 0], []⟩) rfl (.ofList [0, 1, 2, 3, 4, 5, 6, 7, 8, 9]) (by kernel_rfl) ?_
      intro w hS
      refine O_move rfl rfl rfl rfl rfl ?_
      refine O_move rfl rfl rfl rfl rfl ?_
      refine O_sliceStr 0 pre.length rfl rfl rfl rfl rfl rfl rfl Try.runUnderlying9 rfl bnd_int ⟨by omega, by omega⟩ ?_
      refine O_move rfl rfl rfl rfl rfl ?_
      refine O_move rfl rfl rfl rfl rfl ?_
      refine O_addN rfl rfl rfl rfl rfl rfl (by first | omega | (dsimp only; omega)) ?_
      refine O_sliceStr (pre.length + 1) s.length rfl rfl rfl rfl rfl rfl rfl Try.runUnderlying9 (bnd_intE (by omega)) rfl ⟨by omega, by omega⟩ ?_
      refine O_assign rfl rfl rfl rfl rfl ?_
      refine O_assign rfl rfl rfl rfl rfl ?_
      refine O_assign rfl rfl rfl rfl rfl ?_
      refine R_nil ?_
      refine tn ?_
      refine F_ret ?_
      refine br ?_
      refine tr ?_
      refine tr ?_
      refine br ?_
      refine tr ?_
      show endF _ _ _ _ _ _
      refine end0 trivial rfl rfl rfl hS ?_
      intro w hS
      replace hS := (hS).drop
      refine .inl ⟨pre, post, by rw [hx, u8_eq ht18], hI, ?_, hS⟩
      have e1 : (s.take pre.length).drop 0 = pre := by rw [hx]; simp
      have e2 : (s.take s.length).drop (pre.length + 1) = post := by rw [List.take_length, hx, ← List.drop_drop]; simp
      rw [e1, e2]; rfl
    · try simp only [decide_eq_true_eq, decide_eq_false_iff_not, Bool.not_eq_true', Bool.not_eq_false', Bool.not_true, Bool.not_false, Option.isNone_iff_eq_none, Bool.false_eq_true, Bool.true_eq_false] at ht18
      refine F_skip ?_
      refine bn ?_
      refine tn ?_
      refine F_region (p := ⟨_, [0, 0, 0], []⟩) rfl [0, 1, 2] rfl ?_
      refine O_move rfl rfl rfl rfl rfl ?_
      refine O_addN rfl rfl rfl rfl rfl rfl (by first | omega | (dsimp only; omega)) ?_
      refine O_assign rfl rfl rfl rfl rfl ?_
      refine R_nil ?_
      refine tn ⟨rfl, rfl, (), Sup.app ⟨rfl, rfl, trivial⟩ ⟨congrArg (fun z : Nat => some (Value.int .i64 z)) (show pre.length + 1 = (pre ++ [x]).length by simp), trivial⟩, (by intro h; rcases List.mem_append.1 h with h | h; (exact hI h); (rw [List.mem_singleton.1 h] at ht18; exact ht18 rfl)), hS.to (hemp_star _).symm⟩
theorem rName {w0 w : World} {R : HProp} (s : ByteArray) (hb : s.size ≤ 9223372036854775807) (hS : Sat w0 R w) : Calls Try.prog 53 #[.string s] w (ret fun u w' => ∃ b, u = .bool b ∧ (b = true ↔ nameP s.data.toList) ∧ Sat w0 R w') := by
  obtain ⟨⟨s⟩⟩ := s
  replace hb : s.length ≤ 9223372036854775807 := hb
  replace hS := hS.noblks
  refine enterF (args := [_]) Try.func53 rfl Try.ntmps53 rfl rfl ?_
  refine F_seq ?_
  refine F_region (p := ⟨_, [0], []⟩) rfl [0] rfl ?_
  refine O_assign rfl rfl rfl rfl rfl ?_
  refine R_nil ?_
  refine tn ?_
  refine F_seq ?_
  refine F_seq ?_
  refine F_region (p := ⟨_, [0], []⟩) rfl [0] rfl ?_
  refine O_assign rfl rfl rfl rfl rfl ?_
  refine R_nil ?_
  refine tn ?_
  refine F_block ?_
  refine F_loopL (α := (UInt8)) (σ := (Unit)) (s) [(0, _)] (fun (pre : List (UInt8)) (st : Unit) => [(3, (.int .i64 (pre.length : Nat)))]) (fun (pre : List (UInt8)) (st : Unit) => hemp) (fun (pre : List (UInt8)) (st : Unit) => nameI pre) () (Sup.app ⟨rfl, trivial⟩ ⟨rfl, trivial⟩) (hS.to (hemp_star _).symm) nameI_nil ?_ ?_
  · clear hS
    intro st w hI hS
    replace hS := hS.to (hemp_star _)
    refine wpF.sup (L := [(0, _), (3, _)]) ?_ ⟨rfl, rfl, trivial⟩
    refine F_seq ?_
    refine F_seq ?_
    refine F_region (p := ⟨_, [0, 0, 0, 0], []⟩) rfl [0, 1, 2, 3] rfl ?_
    refine O_move rfl rfl rfl rfl rfl ?_
    refine O_move rfl rfl rfl rfl rfl ?_
    refine O_lenBs rfl rfl rfl rfl rfl Try.runUnderlying9 ?_
    refine O_cmp rfl rfl rfl rfl rfl rfl rfl ?_
    refine R_nil ?_
    refine tn ?_
    refine F_false rfl (decide_eq_false (by omega)) ?_
    refine F_exit ?_
    refine tx ?_
    refine tx ?_
    refine Go.Sl.bx rfl ?_
    refine tn ?_
    refine F_seq ?_
    refine F_region (p := ⟨_, [0, 0, 0, 0, 0, 0, 0, 0, 0], []⟩) rfl [0, 1, 2, 3, 4, 5, 6, 7, 8] rfl ?_
    refine O_move rfl rfl rfl rfl rfl ?_
    refine O_lenBs rfl rfl rfl rfl rfl Try.runUnderlying9 ?_
    refine O_cmp rfl rfl rfl rfl rfl rfl rfl ?_
    refine O_move rfl rfl rfl rfl rfl ?_
    refine R_case (t := 46) rfl (fun ht46 => ?_) (fun ht46 => ?_)
    · try simp only [decide_eq_true_eq, decide_eq_false_iff_not, Bool.not_eq_true', Bool.not_eq_false', Bool.not_true, Bool.not_false, Option.isNone_iff_eq_none, Bool.false_eq_true, Bool.true_eq_false] at ht46
      refine O_move rfl rfl rfl rfl rfl ?_
      refine O_lenBs rfl rfl rfl rfl rfl Try.runUnderlying9 ?_
      refine O_cmp rfl rfl rfl rfl rfl rfl rfl ?_
      refine O_pickT rfl rfl rfl rfl rfl rfl ?_
      refine O_assign rfl rfl rfl rfl rfl ?_
      refine R_nil ?_
      refine tn ?_
      refine F_ret ?_
      show endF _ _ _ _ _ _
      refine end0 trivial rfl rfl rfl hS ?_
      intro w hS
      replace hS := (hS).drop
      refine ⟨_, rfl, ?_, hS⟩
      have hp : nameP s ↔ (1 ≤ s.length ∧ s.length ≤ 24) := ⟨fun h => ⟨h.1, h.2.1⟩, fun h => ⟨h.1, h.2, hI⟩⟩
      show _ ↔ nameP s
      rw [hp]
      simp only [decide_eq_true_eq, Bool.false_eq_true, false_iff]
      omega
    · try simp only [decide_eq_true_eq, decide_eq_false_iff_not, Bool.not_eq_true', Bool.not_eq_false', Bool.not_true, Bool.not_false, Option.isNone_iff_eq_none, Bool.false_eq_true, Bool.true_eq_false] at ht46
      refine R_skip rfl rfl rfl rfl ?_
      refine R_skip rfl rfl rfl rfl ?_
      refine R_skip rfl rfl rfl rfl ?_
      refine O_pickF rfl rfl rfl rfl rfl rfl ?_
      refine O_assign rfl rfl rfl rfl rfl ?_
      refine R_nil ?_
      refine tn ?_
      refine F_ret ?_
      show endF _ _ _ _ _ _
      refine end0 trivial rfl rfl rfl hS ?_
      intro w hS
      replace hS := (hS).drop
      refine ⟨_, rfl, ?_, hS⟩
      have hp : nameP s ↔ (1 ≤ s.length ∧ s.length ≤ 24) := ⟨fun h => ⟨h.1, h.2.1⟩, fun h => ⟨h.1, h.2, hI⟩⟩
      show _ ↔ nameP s
      rw [hp]
      simp only [decide_eq_true_eq, Bool.false_eq_true, false_iff]
      omega
  · clear hS
    intro pre x post st w hx hI hS
    replace hS := hS.to (hemp_star _)
    refine wpF.sup (L := [(0, _), (3, _)]) ?_ ⟨rfl, rfl, trivial⟩
    have hl : pre.length + (post.length + 1) = s.length := by rw [hx]; simp
    have hux := u8_bd x
    refine F_seq ?_
    refine F_seq ?_
    refine F_region (p := ⟨_, [0, 0, 0, 0], []⟩) rfl [0, 1, 2, 3] rfl ?_
    refine O_move rfl rfl rfl rfl rfl ?_
    refine O_move rfl rfl rfl rfl rfl ?_
    refine O_lenBs rfl rfl rfl rfl rfl Try.runUnderlying9 ?_
    refine O_cmp rfl rfl rfl rfl rfl rfl rfl ?_
    refine R_nil ?_
    refine tn ?_
    refine F_true rfl (decide_eq_true (by omega)) ?_
    refine F_skip ?_
    refine tn ?_
    refine F_seq ?_
    refine F_block ?_
    refine F_seq ?_
    refine F_region (p := ⟨_, [0, 0, 0, 0], []⟩) rfl [0, 1, 2, 3] rfl ?_
    refine O_move rfl rfl rfl rfl rfl ?_
    refine O_move rfl rfl rfl rfl rfl ?_
    refine O_indexStr (m := pre.length) (c := x) rfl rfl rfl rfl Try.runUnderlying9 rfl rfl rfl (by rw [hx]; simp) ?_
    refine O_assign rfl rfl rfl rfl rfl ?_
    refine R_nil ?_
    refine tn ?_
    refine F_seq ?_
    refine F_region (p := ⟨_, [0, 0, 0, 0, 0, 0, 0], []⟩) rfl [0, 1, 2, 3, 4, 5, 6] rfl ?_
    refine O_move rfl rfl rfl rfl rfl ?_
    refine O_cmp rfl rfl rfl rfl rfl rfl rfl ?_
    refine O_move rfl rfl rfl rfl rfl ?_
    refine R_case (t := 17) rfl (fun ht17 => ?_) (fun ht17 => ?_)
    · try simp only [decide_eq_true_eq, decide_eq_false_iff_not, Bool.not_eq_true', Bool.not_eq_false', Bool.not_true, Bool.not_false, Option.isNone_iff_eq_none, Bool.false_eq_true, Bool.true_eq_false] at ht17
      refine O_move rfl rfl rfl rfl rfl ?_
      refine O_cmp rfl rfl rfl rfl rfl rfl rfl ?_
      refine O_pickT rfl rfl rfl rfl rfl rfl ?_
      refine O_assign rfl rfl rfl rfl rfl ?_
      refine R_nil ?_
      refine tn ?_
      refine F_seq ?_
      refine F_region (p := ⟨_, [0, 0, 0, 0, 0, 0, 0, 0, 0, 0, 0, 0, 0, 0, 0, 0, 0, 0, 0, 0, 0, 0], []⟩) rfl [0, 1, 2, 3, 4, 5, 6, 7, 8, 9, 10, 11, 12, 13, 14, 15, 16, 17, 18, 19, 20, 21] rfl ?_
      refine O_move rfl rfl rfl rfl rfl ?_
      refine O_not rfl rfl rfl rfl rfl ?_
      refine O_move rfl rfl rfl rfl rfl ?_
      refine R_case (t := 23) rfl (fun ht23 => ?_) (fun ht23 => ?_)
      · try simp only [decide_eq_true_eq, decide_eq_false_iff_not, Bool.not_eq_true', Bool.not_eq_false', Bool.not_true, Bool.not_false, Option.isNone_iff_eq_none, Bool.false_eq_true, Bool.true_eq_false] at ht23
        refine O_move rfl rfl rfl rfl rfl ?_
        refine O_cmp rfl rfl rfl rfl rfl rfl rfl ?_
        refine O_move rfl rfl rfl rfl rfl ?_
        refine R_case (t := 26) rfl (fun ht26 => ?_) (fun ht26 => ?_)
        · try simp only [decide_eq_true_eq, decide_eq_false_iff_not, Bool.not_eq_true', Bool.not_eq_false', Bool.not_true, Bool.not_false, Option.isNone_iff_eq_none, Bool.false_eq_true, Bool.true_eq_false] at ht26
          refine R_skip rfl rfl rfl rfl ?_
          refine R_skip rfl rfl rfl rfl ?_
          refine R_skip rfl rfl rfl rfl ?_
          refine R_skip rfl rfl rfl rfl ?_
          refine R_skip rfl rfl rfl rfl ?_
          refine R_skip rfl rfl rfl rfl ?_
          refine R_skip rfl rfl rfl rfl ?_
          refine R_skip rfl rfl rfl rfl ?_
          refine R_skip rfl rfl rfl rfl ?_
          refine R_skip rfl rfl rfl rfl ?_
          refine R_skip rfl rfl rfl rfl ?_
          refine R_skip rfl rfl rfl rfl ?_
          refine R_skip rfl rfl rfl rfl ?_
          refine R_skip rfl rfl rfl rfl ?_
          refine O_pickT rfl rfl rfl rfl rfl rfl ?_
          refine O_pickT rfl rfl rfl rfl rfl rfl ?_
          refine R_nil ?_
          refine tn ?_
          refine F_true rfl rfl ?_
          refine F_seq ?_
          refine F_region (p := ⟨_, [0], []⟩) rfl [0] rfl ?_
          refine O_assign rfl rfl rfl rfl rfl ?_
          refine R_nil ?_
          refine tn ?_
          refine F_ret ?_
          refine br ?_
          refine tr ?_
          refine tr ?_
          refine br ?_
          refine tr ?_
          show endF _ _ _ _ _ _
          refine end0 trivial rfl rfl rfl hS ?_
          intro w hS
          replace hS := (hS).drop
          refine ⟨_, rfl, ?_, hS⟩
          show _ ↔ nameP s
          have hn : ¬ nameP s := by rw [hx]; exact nameI_bad (by unfold smallP; omega) (by unfold restP smallP; omega)
          simp [hn]
        · try simp only [decide_eq_true_eq, decide_eq_false_iff_not, Bool.not_eq_true', Bool.not_eq_false', Bool.not_true, Bool.not_false, Option.isNone_iff_eq_none, Bool.false_eq_true, Bool.true_eq_false] at ht26
          refine O_move rfl rfl rfl rfl rfl ?_
          refine O_cmp rfl rfl rfl rfl rfl rfl rfl ?_
          refine O_move rfl rfl rfl rfl rfl ?_
          refine R_case (t := 29) rfl (fun ht29 => ?_) (fun ht29 => ?_)
          · try simp only [decide_eq_true_eq, decide_eq_false_iff_not, Bool.not_eq_true', Bool.not_eq_false', Bool.not_true, Bool.not_false, Option.isNone_iff_eq_none, Bool.false_eq_true, Bool.true_eq_false] at ht29
            refine R_skip rfl rfl rfl rfl ?_
            refine R_skip rfl rfl rfl rfl ?_
            refine O_pickT rfl rfl rfl rfl rfl rfl ?_
            refine O_move rfl rfl rfl rfl rfl ?_
            refine O_move rfl rfl rfl rfl rfl ?_
            refine O_cmp rfl rfl rfl rfl rfl rfl rfl ?_
            refine O_pickT rfl rfl rfl rfl rfl rfl ?_
            refine O_move rfl rfl rfl rfl rfl ?_
            refine R_case (t := 37) rfl (fun ht37 => ?_) (fun ht37 => ?_)
            · try simp only [decide_eq_true_eq, decide_eq_false_iff_not, Bool.not_eq_true', Bool.not_eq_false', Bool.not_true, Bool.not_false, Option.isNone_iff_eq_none, Bool.false_eq_true, Bool.true_eq_false] at ht37
              refine O_move rfl rfl rfl rfl rfl ?_
              refine O_cmp rfl rfl rfl rfl rfl rfl rfl ?_
              refine O_pickT rfl rfl rfl rfl rfl rfl ?_
              refine O_pickF rfl rfl rfl rfl rfl rfl ?_
              refine O_pickT rfl rfl rfl rfl rfl rfl ?_
              refine R_nil ?_
              refine tn ?_
              refine F_cond rfl (fun ht42 => ?_) (fun ht42 => ?_)
              · try simp only [decide_eq_true_eq, decide_eq_false_iff_not, Bool.not_eq_true', Bool.not_eq_false', Bool.not_true, Bool.not_false, Option.isNone_iff_eq_none, Bool.false_eq_true, Bool.true_eq_false] at ht42
                refine F_seq ?_
                refine F_region (p := ⟨_, [0], []⟩) rfl [0] rfl ?_
                refine O_assign rfl rfl rfl rfl rfl ?_
                refine R_nil ?_
                refine tn ?_
                refine F_ret ?_
                refine br ?_
                refine tr ?_
                refine tr ?_
                refine br ?_
                refine tr ?_
                show endF _ _ _ _ _ _
                refine end0 trivial rfl rfl rfl hS ?_
                intro w hS
                replace hS := (hS).drop
                refine ⟨_, rfl, ?_, hS⟩
                show _ ↔ nameP s
                have hn : ¬ nameP s := by rw [hx]; exact nameI_bad (by unfold smallP; omega) (by unfold restP smallP; omega)
                simp [hn]
              · try simp only [decide_eq_true_eq, decide_eq_false_iff_not, Bool.not_eq_true', Bool.not_eq_false', Bool.not_true, Bool.not_false, Option.isNone_iff_eq_none, Bool.false_eq_true, Bool.true_eq_false] at ht42
                refine F_skip ?_
                refine bn ?_
                refine tn ?_
                refine F_region (p := ⟨_, [0, 0, 0], []⟩) rfl [0, 1, 2] rfl ?_
                refine O_move rfl rfl rfl rfl rfl ?_
                refine O_addN rfl rfl rfl rfl rfl rfl (by first | omega | (dsimp only; omega)) ?_
                refine O_assign rfl rfl rfl rfl rfl ?_
                refine R_nil ?_
                refine tn ⟨rfl, rfl, (), Sup.app ⟨rfl, trivial⟩ ⟨congrArg (fun z : Nat => some (Value.int .i64 z)) (show pre.length + 1 = (pre ++ [x]).length by simp), trivial⟩, nameI_snoc hI (by unfold smallP; omega) (by unfold restP smallP; omega), hS.to (hemp_star _).symm⟩
            · try simp only [decide_eq_true_eq, decide_eq_false_iff_not, Bool.not_eq_true', Bool.not_eq_false', Bool.not_true, Bool.not_false, Option.isNone_iff_eq_none, Bool.false_eq_true, Bool.true_eq_false] at ht37
              refine R_skip rfl rfl rfl rfl ?_
              refine R_skip rfl rfl rfl rfl ?_
              refine O_pickF rfl rfl rfl rfl rfl rfl ?_
              refine O_pickF rfl rfl rfl rfl rfl rfl ?_
              refine O_pickT rfl rfl rfl rfl rfl rfl ?_
              refine R_nil ?_
              refine tn ?_
              refine F_false rfl rfl ?_
              refine F_skip ?_
              refine bn ?_
              refine tn ?_
              refine F_region (p := ⟨_, [0, 0, 0], []⟩) rfl [0, 1, 2] rfl ?_
              refine O_move rfl rfl rfl rfl rfl ?_
              refine O_addN rfl rfl rfl rfl rfl rfl (by first | omega | (dsimp only; omega)) ?_
              refine O_assign rfl rfl rfl rfl rfl ?_
              refine R_nil ?_
              refine tn ⟨rfl, rfl, (), Sup.app ⟨rfl, trivial⟩ ⟨congrArg (fun z : Nat => some (Value.int .i64 z)) (show pre.length + 1 = (pre ++ [x]).length by simp), trivial⟩, nameI_snoc hI (by unfold smallP; omega) (by unfold restP smallP; omega), hS.to (hemp_star _).symm⟩
          · try simp only [decide_eq_true_eq, decide_eq_false_iff_not, Bool.not_eq_true', Bool.not_eq_false', Bool.not_true, Bool.not_false, Option.isNone_iff_eq_none, Bool.false_eq_true, Bool.true_eq_false] at ht29
            refine O_move rfl rfl rfl rfl rfl ?_
            refine O_cmp rfl rfl rfl rfl rfl rfl rfl ?_
            refine O_pickF rfl rfl rfl rfl rfl rfl ?_
            refine O_move rfl rfl rfl rfl rfl ?_
            refine R_case (t := 33) rfl (fun ht33 => ?_) (fun ht33 => ?_)
            · try simp only [decide_eq_true_eq, decide_eq_false_iff_not, Bool.not_eq_true', Bool.not_eq_false', Bool.not_true, Bool.not_false, Option.isNone_iff_eq_none, Bool.false_eq_true, Bool.true_eq_false] at ht33
              refine O_move rfl rfl rfl rfl rfl ?_
              refine O_cmp rfl rfl rfl rfl rfl rfl rfl ?_
              refine O_pickT rfl rfl rfl rfl rfl rfl ?_
              refine O_move rfl rfl rfl rfl rfl ?_
              refine R_case (t := 37) rfl (fun ht37 => ?_) (fun ht37 => ?_)
              · try simp only [decide_eq_true_eq, decide_eq_false_iff_not, Bool.not_eq_true', Bool.not_eq_false', Bool.not_true, Bool.not_false, Option.isNone_iff_eq_none, Bool.false_eq_true, Bool.true_eq_false] at ht37
                refine O_move rfl rfl rfl rfl rfl ?_
                refine O_cmp rfl rfl rfl rfl rfl rfl rfl ?_
                refine O_pickT rfl rfl rfl rfl rfl rfl ?_
                refine O_pickF rfl rfl rfl rfl rfl rfl ?_
                refine O_pickT rfl rfl rfl rfl rfl rfl ?_
                refine R_nil ?_
                refine tn ?_
                refine F_cond rfl (fun ht42 => ?_) (fun ht42 => ?_)
                · try simp only [decide_eq_true_eq, decide_eq_false_iff_not, Bool.not_eq_true', Bool.not_eq_false', Bool.not_true, Bool.not_false, Option.isNone_iff_eq_none, Bool.false_eq_true, Bool.true_eq_false] at ht42
                  refine F_seq ?_
                  refine F_region (p := ⟨_, [0], []⟩) rfl [0] rfl ?_
                  refine O_assign rfl rfl rfl rfl rfl ?_
                  refine R_nil ?_
                  refine tn ?_
                  refine F_ret ?_
                  refine br ?_
                  refine tr ?_
                  refine tr ?_
                  refine br ?_
                  refine tr ?_
                  show endF _ _ _ _ _ _
                  refine end0 trivial rfl rfl rfl hS ?_
                  intro w hS
                  replace hS := (hS).drop
                  refine ⟨_, rfl, ?_, hS⟩
                  show _ ↔ nameP s
                  have hn : ¬ nameP s := by rw [hx]; exact nameI_bad (by unfold smallP; omega) (by unfold restP smallP; omega)
                  simp [hn]
                · try simp only [decide_eq_true_eq, decide_eq_false_iff_not, Bool.not_eq_true', Bool.not_eq_false', Bool.not_true, Bool.not_false, Option.isNone_iff_eq_none, Bool.false_eq_true, Bool.true_eq_false] at ht42
                  refine F_skip ?_
                  refine bn ?_
                  refine tn ?_
                  refine F_region (p := ⟨_, [0, 0, 0], []⟩) rfl [0, 1, 2] rfl ?_
                  refine O_move rfl rfl rfl rfl rfl ?_
                  refine O_addN rfl rfl rfl rfl rfl rfl (by first | omega | (dsimp only; omega)) ?_
                  refine O_assign rfl rfl rfl rfl rfl ?_
                  refine R_nil ?_
                  refine tn ⟨rfl, rfl, (), Sup.app ⟨rfl, trivial⟩ ⟨congrArg (fun z : Nat => some (Value.int .i64 z)) (show pre.length + 1 = (pre ++ [x]).length by simp), trivial⟩, nameI_snoc hI (by unfold smallP; omega) (by unfold restP smallP; omega), hS.to (hemp_star _).symm⟩
              · try simp only [decide_eq_true_eq, decide_eq_false_iff_not, Bool.not_eq_true', Bool.not_eq_false', Bool.not_true, Bool.not_false, Option.isNone_iff_eq_none, Bool.false_eq_true, Bool.true_eq_false] at ht37
                refine R_skip rfl rfl rfl rfl ?_
                refine R_skip rfl rfl rfl rfl ?_
                refine O_pickF rfl rfl rfl rfl rfl rfl ?_
                refine O_pickF rfl rfl rfl rfl rfl rfl ?_
                refine O_pickT rfl rfl rfl rfl rfl rfl ?_
                refine R_nil ?_
                refine tn ?_
                refine F_false rfl rfl ?_
                refine F_skip ?_
                refine bn ?_
                refine tn ?_
                refine F_region (p := ⟨_, [0, 0, 0], []⟩) rfl [0, 1, 2] rfl ?_
                refine O_move rfl rfl rfl rfl rfl ?_
                refine O_addN rfl rfl rfl rfl rfl rfl (by first | omega | (dsimp only; omega)) ?_
                refine O_assign rfl rfl rfl rfl rfl ?_
                refine R_nil ?_
                refine tn ⟨rfl, rfl, (), Sup.app ⟨rfl, trivial⟩ ⟨congrArg (fun z : Nat => some (Value.int .i64 z)) (show pre.length + 1 = (pre ++ [x]).length by simp), trivial⟩, nameI_snoc hI (by unfold smallP; omega) (by unfold restP smallP; omega), hS.to (hemp_star _).symm⟩
            · try simp only [decide_eq_true_eq, decide_eq_false_iff_not, Bool.not_eq_true', Bool.not_eq_false', Bool.not_true, Bool.not_false, Option.isNone_iff_eq_none, Bool.false_eq_true, Bool.true_eq_false] at ht33
              refine R_skip rfl rfl rfl rfl ?_
              refine R_skip rfl rfl rfl rfl ?_
              refine O_pickF rfl rfl rfl rfl rfl rfl ?_
              refine O_move rfl rfl rfl rfl rfl ?_
              refine R_skip rfl rfl rfl rfl ?_
              refine R_skip rfl rfl rfl rfl ?_
              refine O_pickF rfl rfl rfl rfl rfl rfl ?_
              refine O_pickF rfl rfl rfl rfl rfl rfl ?_
              refine O_pickT rfl rfl rfl rfl rfl rfl ?_
              refine R_nil ?_
              refine tn ?_
              refine F_false rfl rfl ?_
              refine F_skip ?_
              refine bn ?_
              refine tn ?_
              refine F_region (p := ⟨_, [0, 0, 0], []⟩) rfl [0, 1, 2] rfl ?_
              refine O_move rfl rfl rfl rfl rfl ?_
              refine O_addN rfl rfl rfl rfl rfl rfl (by first | omega | (dsimp only; omega)) ?_
              refine O_assign rfl rfl rfl rfl rfl ?_
              refine R_nil ?_
              refine tn ⟨rfl, rfl, (), Sup.app ⟨rfl, trivial⟩ ⟨congrArg (fun z : Nat => some (Value.int .i64 z)) (show pre.length + 1 = (pre ++ [x]).length by simp), trivial⟩, nameI_snoc hI (by unfold smallP; omega) (by unfold restP smallP; omega), hS.to (hemp_star _).symm⟩
      · try simp only [decide_eq_true_eq, decide_eq_false_iff_not, Bool.not_eq_true', Bool.not_eq_false', Bool.not_true, Bool.not_false, Option.isNone_iff_eq_none, Bool.false_eq_true, Bool.true_eq_false] at ht23
        refine R_skip rfl rfl rfl rfl ?_
        refine R_skip rfl rfl rfl rfl ?_
        refine R_skip rfl rfl rfl rfl ?_
        refine R_skip rfl rfl rfl rfl ?_
        refine R_skip rfl rfl rfl rfl ?_
        refine R_skip rfl rfl rfl rfl ?_
        refine R_skip rfl rfl rfl rfl ?_
        refine R_skip rfl rfl rfl rfl ?_
        refine R_skip rfl rfl rfl rfl ?_
        refine R_skip rfl rfl rfl rfl ?_
        refine R_skip rfl rfl rfl rfl ?_
        refine R_skip rfl rfl rfl rfl ?_
        refine R_skip rfl rfl rfl rfl ?_
        refine R_skip rfl rfl rfl rfl ?_
        refine R_skip rfl rfl rfl rfl ?_
        refine R_skip rfl rfl rfl rfl ?_
        refine R_skip rfl rfl rfl rfl ?_
        refine R_skip rfl rfl rfl rfl ?_
        refine O_pickF rfl rfl rfl rfl rfl rfl ?_
        refine R_nil ?_
        refine tn ?_
        refine F_false rfl rfl ?_
        refine F_skip ?_
        refine bn ?_
        refine tn ?_
        refine F_region (p := ⟨_, [0, 0, 0], []⟩) rfl [0, 1, 2] rfl ?_
        refine O_move rfl rfl rfl rfl rfl ?_
        refine O_addN rfl rfl rfl rfl rfl rfl (by first | omega | (dsimp only; omega)) ?_
        refine O_assign rfl rfl rfl rfl rfl ?_
        refine R_nil ?_
        refine tn ⟨rfl, rfl, (), Sup.app ⟨rfl, trivial⟩ ⟨congrArg (fun z : Nat => some (Value.int .i64 z)) (show pre.length + 1 = (pre ++ [x]).length by simp), trivial⟩, nameI_snoc hI (by unfold smallP; omega) (by unfold restP smallP; omega), hS.to (hemp_star _).symm⟩
    · try simp only [decide_eq_true_eq, decide_eq_false_iff_not, Bool.not_eq_true', Bool.not_eq_false', Bool.not_true, Bool.not_false, Option.isNone_iff_eq_none, Bool.false_eq_true, Bool.true_eq_false] at ht17
      refine R_skip rfl rfl rfl rfl ?_
      refine R_skip rfl rfl rfl rfl ?_
      refine O_pickF rfl rfl rfl rfl rfl rfl ?_
      refine O_assign rfl rfl rfl rfl rfl ?_
      refine R_nil ?_
      refine tn ?_
      refine F_seq ?_
      refine F_region (p := ⟨_, [0, 0, 0, 0, 0, 0, 0, 0, 0, 0, 0, 0, 0, 0, 0, 0, 0, 0, 0, 0, 0, 0], []⟩) rfl [0, 1, 2, 3, 4, 5, 6, 7, 8, 9, 10, 11, 12, 13, 14, 15, 16, 17, 18, 19, 20, 21] rfl ?_
      refine O_move rfl rfl rfl rfl rfl ?_
      refine O_not rfl rfl rfl rfl rfl ?_
      refine O_move rfl rfl rfl rfl rfl ?_
      refine O_move rfl rfl rfl rfl rfl ?_
      refine O_cmp rfl rfl rfl rfl rfl rfl rfl ?_
      refine O_move rfl rfl rfl rfl rfl ?_
      refine R_case (t := 26) rfl (fun ht26 => ?_) (fun ht26 => ?_)
      · try simp only [decide_eq_true_eq, decide_eq_false_iff_not, Bool.not_eq_true', Bool.not_eq_false', Bool.not_true, Bool.not_false, Option.isNone_iff_eq_none, Bool.false_eq_true, Bool.true_eq_false] at ht26
        refine R_skip rfl rfl rfl rfl ?_
        refine R_skip rfl rfl rfl rfl ?_
        refine R_skip rfl rfl rfl rfl ?_
        refine R_skip rfl rfl rfl rfl ?_
        refine R_skip rfl rfl rfl rfl ?_
        refine R_skip rfl rfl rfl rfl ?_
        refine R_skip rfl rfl rfl rfl ?_
        refine R_skip rfl rfl rfl rfl ?_
        refine R_skip rfl rfl rfl rfl ?_
        refine R_skip rfl rfl rfl rfl ?_
        refine R_skip rfl rfl rfl rfl ?_
        refine R_skip rfl rfl rfl rfl ?_
        refine R_skip rfl rfl rfl rfl ?_
        refine R_skip rfl rfl rfl rfl ?_
        refine O_pickT rfl rfl rfl rfl rfl rfl ?_
        refine O_pickT rfl rfl rfl rfl rfl rfl ?_
        refine R_nil ?_
        refine tn ?_
        refine F_true rfl rfl ?_
        refine F_seq ?_
        refine F_region (p := ⟨_, [0], []⟩) rfl [0] rfl ?_
        refine O_assign rfl rfl rfl rfl rfl ?_
        refine R_nil ?_
        refine tn ?_
        refine F_ret ?_
        refine br ?_
        refine tr ?_
        refine tr ?_
        refine br ?_
        refine tr ?_
        show endF _ _ _ _ _ _
        refine end0 trivial rfl rfl rfl hS ?_
        intro w hS
        replace hS := (hS).drop
        refine ⟨_, rfl, ?_, hS⟩
        show _ ↔ nameP s
        have hn : ¬ nameP s := by rw [hx]; exact nameI_bad (by unfold smallP; omega) (by unfold restP smallP; omega)
        simp [hn]
      · try simp only [decide_eq_true_eq, decide_eq_false_iff_not, Bool.not_eq_true', Bool.not_eq_false', Bool.not_true, Bool.not_false, Option.isNone_iff_eq_none, Bool.false_eq_true, Bool.true_eq_false] at ht26
        refine O_move rfl rfl rfl rfl rfl ?_
        refine O_cmp rfl rfl rfl rfl rfl rfl rfl ?_
        refine O_move rfl rfl rfl rfl rfl ?_
        refine R_case (t := 29) rfl (fun ht29 => ?_) (fun ht29 => ?_)
        · try simp only [decide_eq_true_eq, decide_eq_false_iff_not, Bool.not_eq_true', Bool.not_eq_false', Bool.not_true, Bool.not_false, Option.isNone_iff_eq_none, Bool.false_eq_true, Bool.true_eq_false] at ht29
          refine R_skip rfl rfl rfl rfl ?_
          refine R_skip rfl rfl rfl rfl ?_
          refine O_pickT rfl rfl rfl rfl rfl rfl ?_
          refine O_move rfl rfl rfl rfl rfl ?_
          refine O_move rfl rfl rfl rfl rfl ?_
          refine O_cmp rfl rfl rfl rfl rfl rfl rfl ?_
          refine O_pickT rfl rfl rfl rfl rfl rfl ?_
          refine O_move rfl rfl rfl rfl rfl ?_
          refine R_case (t := 37) rfl (fun ht37 => ?_) (fun ht37 => ?_)
          · try simp only [decide_eq_true_eq, decide_eq_false_iff_not, Bool.not_eq_true', Bool.not_eq_false', Bool.not_true, Bool.not_false, Option.isNone_iff_eq_none, Bool.false_eq_true, Bool.true_eq_false] at ht37
            refine O_move rfl rfl rfl rfl rfl ?_
            refine O_cmp rfl rfl rfl rfl rfl rfl rfl ?_
            refine O_pickT rfl rfl rfl rfl rfl rfl ?_
            refine O_pickF rfl rfl rfl rfl rfl rfl ?_
            refine O_pickT rfl rfl rfl rfl rfl rfl ?_
            refine R_nil ?_
            refine tn ?_
            refine F_cond rfl (fun ht42 => ?_) (fun ht42 => ?_)
            · try simp only [decide_eq_true_eq, decide_eq_false_iff_not, Bool.not_eq_true', Bool.not_eq_false', Bool.not_true, Bool.not_false, Option.isNone_iff_eq_none, Bool.false_eq_true, Bool.true_eq_false] at ht42
              refine F_seq ?_
              refine F_region (p := ⟨_, [0], []⟩) rfl [0] rfl ?_
              refine O_assign rfl rfl rfl rfl rfl ?_
              refine R_nil ?_
              refine tn ?_
              refine F_ret ?_
              refine br ?_
              refine tr ?_
              refine tr ?_
              refine br ?_
              refine tr ?_
              show endF _ _ _ _ _ _
              refine end0 trivial rfl rfl rfl hS ?_
              intro w hS
              replace hS := (hS).drop
              refine ⟨_, rfl, ?_, hS⟩
              show _ ↔ nameP s
              have hn : ¬ nameP s := by rw [hx]; exact nameI_bad (by unfold smallP; omega) (by unfold restP smallP; omega)
              simp [hn]
            · try simp only [decide_eq_true_eq, decide_eq_false_iff_not, Bool.not_eq_true', Bool.not_eq_false', Bool.not_true, Bool.not_false, Option.isNone_iff_eq_none, Bool.false_eq_true, Bool.true_eq_false] at ht42
              refine F_skip ?_
              refine bn ?_
              refine tn ?_
              refine F_region (p := ⟨_, [0, 0, 0], []⟩) rfl [0, 1, 2] rfl ?_
              refine O_move rfl rfl rfl rfl rfl ?_
              refine O_addN rfl rfl rfl rfl rfl rfl (by first | omega | (dsimp only; omega)) ?_
              refine O_assign rfl rfl rfl rfl rfl ?_
              refine R_nil ?_
              refine tn ⟨rfl, rfl, (), Sup.app ⟨rfl, trivial⟩ ⟨congrArg (fun z : Nat => some (Value.int .i64 z)) (show pre.length + 1 = (pre ++ [x]).length by simp), trivial⟩, nameI_snoc hI (by unfold smallP; omega) (by unfold restP smallP; omega), hS.to (hemp_star _).symm⟩
          · try simp only [decide_eq_true_eq, decide_eq_false_iff_not, Bool.not_eq_true', Bool.not_eq_false', Bool.not_true, Bool.not_false, Option.isNone_iff_eq_none, Bool.false_eq_true, Bool.true_eq_false] at ht37
            refine R_skip rfl rfl rfl rfl ?_
            refine R_skip rfl rfl rfl rfl ?_
            refine O_pickF rfl rfl rfl rfl rfl rfl ?_
            refine O_pickF rfl rfl rfl rfl rfl rfl ?_
            refine O_pickT rfl rfl rfl rfl rfl rfl ?_
            refine R_nil ?_
            refine tn ?_
            refine F_false rfl rfl ?_
            refine F_skip ?_
            refine bn ?_
            refine tn ?_
            refine F_region (p := ⟨_, [0, 0, 0], []⟩) rfl [0, 1, 2] rfl ?_
            refine O_move rfl rfl rfl rfl rfl ?_
            refine O_addN rfl rfl rfl rfl rfl rfl (by first | omega | (dsimp only; omega)) ?_
            refine O_assign rfl rfl rfl rfl rfl ?_
            refine R_nil ?_
            refine tn ⟨rfl, rfl, (), Sup.app ⟨rfl, trivial⟩ ⟨congrArg (fun z : Nat => some (Value.int .i64 z)) (show pre.length + 1 = (pre ++ [x]).length by simp), trivial⟩, nameI_snoc hI (by unfold smallP; omega) (by unfold restP smallP; omega), hS.to (hemp_star _).symm⟩
        · try simp only [decide_eq_true_eq, decide_eq_false_iff_not, Bool.not_eq_true', Bool.not_eq_false', Bool.not_true, Bool.not_false, Option.isNone_iff_eq_none, Bool.false_eq_true, Bool.true_eq_false] at ht29
          refine O_move rfl rfl rfl rfl rfl ?_
          refine O_cmp rfl rfl rfl rfl rfl rfl rfl ?_
          refine O_pickF rfl rfl rfl rfl rfl rfl ?_
          refine O_move rfl rfl rfl rfl rfl ?_
          refine R_case (t := 33) rfl (fun ht33 => ?_) (fun ht33 => ?_)
          · try simp only [decide_eq_true_eq, decide_eq_false_iff_not, Bool.not_eq_true', Bool.not_eq_false', Bool.not_true, Bool.not_false, Option.isNone_iff_eq_none, Bool.false_eq_true, Bool.true_eq_false] at ht33
            refine O_move rfl rfl rfl rfl rfl ?_
            refine O_cmp rfl rfl rfl rfl rfl rfl rfl ?_
            refine O_pickT rfl rfl rfl rfl rfl rfl ?_
            refine O_move rfl rfl rfl rfl rfl ?_
            refine R_case (t := 37) rfl (fun ht37 => ?_) (fun ht37 => ?_)
            · try simp only [decide_eq_true_eq, decide_eq_false_iff_not, Bool.not_eq_true', Bool.not_eq_false', Bool.not_true, Bool.not_false, Option.isNone_iff_eq_none, Bool.false_eq_true, Bool.true_eq_false] at ht37
              refine O_move rfl rfl rfl rfl rfl ?_
              refine O_cmp rfl rfl rfl rfl rfl rfl rfl ?_
              refine O_pickT rfl rfl rfl rfl rfl rfl ?_
              refine O_pickF rfl rfl rfl rfl rfl rfl ?_
              refine O_pickT rfl rfl rfl rfl rfl rfl ?_
              refine R_nil ?_
              refine tn ?_
              refine F_cond rfl (fun ht42 => ?_) (fun ht42 => ?_)
              · try simp only [decide_eq_true_eq, decide_eq_false_iff_not, Bool.not_eq_true', Bool.not_eq_false', Bool.not_true, Bool.not_false, Option.isNone_iff_eq_none, Bool.false_eq_true, Bool.true_eq_false] at ht42
                refine F_seq ?_
                refine F_region (p := ⟨_, [0], []⟩) rfl [0] rfl ?_
                refine O_assign rfl rfl rfl rfl rfl ?_
                refine R_nil ?_
                refine tn ?_
                refine F_ret ?_
                refine br ?_
                refine tr ?_
                refine tr ?_
                refine br ?_
                refine tr ?_
                show endF _ _ _ _ _ _
                refine end0 trivial rfl rfl rfl hS ?_
                intro w hS
                replace hS := (hS).drop
                refine ⟨_, rfl, ?_, hS⟩
                show _ ↔ nameP s
                have hn : ¬ nameP s := by rw [hx]; exact nameI_bad (by unfold smallP; omega) (by unfold restP smallP; omega)
                simp [hn]
              · try simp only [decide_eq_true_eq, decide_eq_false_iff_not, Bool.not_eq_true', Bool.not_eq_false', Bool.not_true, Bool.not_false, Option.isNone_iff_eq_none, Bool.false_eq_true, Bool.true_eq_false] at ht42
                refine F_skip ?_
                refine bn ?_
                refine tn ?_
                refine F_region (p := ⟨_, [0, 0, 0], []⟩) rfl [0, 1, 2] rfl ?_
                refine O_move rfl rfl rfl rfl rfl ?_
                refine O_addN rfl rfl rfl rfl rfl rfl (by first | omega | (dsimp only; omega)) ?_
                refine O_assign rfl rfl rfl rfl rfl ?_
                refine R_nil ?_
                refine tn ⟨rfl, rfl, (), Sup.app ⟨rfl, trivial⟩ ⟨congrArg (fun z : Nat => some (Value.int .i64 z)) (show pre.length + 1 = (pre ++ [x]).length by simp), trivial⟩, nameI_snoc hI (by unfold smallP; omega) (by unfold restP smallP; omega), hS.to (hemp_star _).symm⟩
            · try simp only [decide_eq_true_eq, decide_eq_false_iff_not, Bool.not_eq_true', Bool.not_eq_false', Bool.not_true, Bool.not_false, Option.isNone_iff_eq_none, Bool.false_eq_true, Bool.true_eq_false] at ht37
              refine R_skip rfl rfl rfl rfl ?_
              refine R_skip rfl rfl rfl rfl ?_
              refine O_pickF rfl rfl rfl rfl rfl rfl ?_
              refine O_pickF rfl rfl rfl rfl rfl rfl ?_
              refine O_pickT rfl rfl rfl rfl rfl rfl ?_
              refine R_nil ?_
              refine tn ?_
              refine F_false rfl rfl ?_
              refine F_skip ?_
              refine bn ?_
              refine tn ?_
              refine F_region (p := ⟨_, [0, 0, 0], []⟩) rfl [0, 1, 2] rfl ?_
              refine O_move rfl rfl rfl rfl rfl ?_
              refine O_addN rfl rfl rfl rfl rfl rfl (by first | omega | (dsimp only; omega)) ?_
              refine O_assign rfl rfl rfl rfl rfl ?_
              refine R_nil ?_
              refine tn ⟨rfl, rfl, (), Sup.app ⟨rfl, trivial⟩ ⟨congrArg (fun z : Nat => some (Value.int .i64 z)) (show pre.length + 1 = (pre ++ [x]).length by simp), trivial⟩, nameI_snoc hI (by unfold smallP; omega) (by unfold restP smallP; omega), hS.to (hemp_star _).symm⟩
          · try simp only [decide_eq_true_eq, decide_eq_false_iff_not, Bool.not_eq_true', Bool.not_eq_false', Bool.not_true, Bool.not_false, Option.isNone_iff_eq_none, Bool.false_eq_true, Bool.true_eq_false] at ht33
            refine R_skip rfl rfl rfl rfl ?_
            refine R_skip rfl rfl rfl rfl ?_
            refine O_pickF rfl rfl rfl rfl rfl rfl ?_
            refine O_move rfl rfl rfl rfl rfl ?_
            refine R_skip rfl rfl rfl rfl ?_
            refine R_skip rfl rfl rfl rfl ?_
            refine O_pickF rfl rfl rfl rfl rfl rfl ?_
            refine O_pickF rfl rfl rfl rfl rfl rfl ?_
            refine O_pickT rfl rfl rfl rfl rfl rfl ?_
            refine R_nil ?_
            refine tn ?_
            refine F_false rfl rfl ?_
            refine F_skip ?_
            refine bn ?_
            refine tn ?_
            refine F_region (p := ⟨_, [0, 0, 0], []⟩) rfl [0, 1, 2] rfl ?_
            refine O_move rfl rfl rfl rfl rfl ?_
            refine O_addN rfl rfl rfl rfl rfl rfl (by first | omega | (dsimp only; omega)) ?_
            refine O_assign rfl rfl rfl rfl rfl ?_
            refine R_nil ?_
            refine tn ⟨rfl, rfl, (), Sup.app ⟨rfl, trivial⟩ ⟨congrArg (fun z : Nat => some (Value.int .i64 z)) (show pre.length + 1 = (pre ++ [x]).length by simp), trivial⟩, nameI_snoc hI (by unfold smallP; omega) (by unfold restP smallP; omega), hS.to (hemp_star _).symm⟩
theorem rWord {w0 w : World} {R : HProp} (s : ByteArray) (hb : s.size ≤ 9223372036854775807) (hS : Sat w0 R w) : Calls Try.prog 27 #[.string s] w (ret fun u w' => ∃ b, u = .bool b ∧ (b = true ↔ wordP s.data.toList) ∧ Sat w0 R w') := by
  replace hS := hS.noblks
  refine enterF (args := [_]) Try.func27 rfl Try.ntmps27 rfl rfl ?_
  refine F_seq ?_
  refine F_region (p := ⟨_, [0], []⟩) rfl [0] rfl ?_
  refine O_assign rfl rfl rfl rfl rfl ?_
  refine R_nil ?_
  refine tn ?_
  refine F_seq ?_
  refine F_region (p := ⟨_, [0, 2, 0, 0, 0, 0, 0, 0, 0], []⟩) rfl [0, 1, 2, 3, 4, 5, 6, 7, 8] rfl ?_
  refine O_move rfl rfl rfl rfl rfl ?_
  refine O_call rfl rfl rfl rfl Try.call52 rfl (cut s 46 hb (hS)) (fun _ _ hv => trivial) ?_
  rintro _ w (⟨a, b, hs, hn, rfl, hS⟩ | ⟨hn, rfl, hS⟩)
  · refine O_move rfl rfl rfl rfl rfl ?_
    refine O_extract rfl rfl rfl rfl rfl rfl ?_
    refine O_extract rfl rfl rfl rfl rfl rfl ?_
    refine O_extract rfl rfl rfl rfl rfl rfl ?_
    refine O_assign rfl rfl rfl rfl rfl ?_
    refine O_assign rfl rfl rfl rfl rfl ?_
    refine O_assign rfl rfl rfl rfl rfl ?_
    refine R_nil ?_
    refine tn ?_
    refine F_seq ?_
    refine F_region (p := ⟨_, [0, 2, 0, 0, 0, 0, 0], []⟩) rfl [0, 1, 2, 3, 4, 5, 6] rfl ?_
    refine O_move rfl rfl rfl rfl rfl ?_
    refine O_call rfl rfl rfl rfl Try.call53 rfl (rName s hb (hS)) (fun _ _ hv => trivial) ?_
    rintro _ w ⟨b2, rfl, hb2, hS⟩
    refine O_move rfl rfl rfl rfl rfl ?_
    refine R_case (t := 14) rfl (fun ht14 => ?_) (fun ht14 => ?_)
    · try simp only [decide_eq_true_eq, decide_eq_false_iff_not, Bool.not_eq_true', Bool.not_eq_false', Bool.not_true, Bool.not_false, Option.isNone_iff_eq_none, Bool.false_eq_true, Bool.true_eq_false] at ht14
      refine O_move rfl rfl rfl rfl rfl ?_
      refine O_not rfl rfl rfl rfl rfl ?_
      refine O_pickT rfl rfl rfl rfl rfl rfl ?_
      refine O_assign rfl rfl rfl rfl rfl ?_
      refine R_nil ?_
      refine tn ?_
      refine F_ret ?_
      show endF _ _ _ _ _ _
      refine end0 trivial rfl rfl rfl hS ?_
      intro w hS
      replace hS := (hS).drop
      refine ⟨_, rfl, ?_, hS⟩
      have hm : (46 : UInt8) ∈ s.data.toList := by rw [hs]; simp
      simp_all [wordP]
    · try simp only [decide_eq_true_eq, decide_eq_false_iff_not, Bool.not_eq_true', Bool.not_eq_false', Bool.not_true, Bool.not_false, Option.isNone_iff_eq_none, Bool.false_eq_true, Bool.true_eq_false] at ht14
      refine R_skip rfl rfl rfl rfl ?_
      refine R_skip rfl rfl rfl rfl ?_
      refine O_pickF rfl rfl rfl rfl rfl rfl ?_
      refine O_assign rfl rfl rfl rfl rfl ?_
      refine R_nil ?_
      refine tn ?_
      refine F_ret ?_
      show endF _ _ _ _ _ _
      refine end0 trivial rfl rfl rfl hS ?_
      intro w hS
      replace hS := (hS).drop
      refine ⟨_, rfl, ?_, hS⟩
      have hm : (46 : UInt8) ∈ s.data.toList := by rw [hs]; simp
      simp_all [wordP]
  · refine O_move rfl rfl rfl rfl rfl ?_
    refine O_extract rfl rfl rfl rfl rfl rfl ?_
    refine O_extract rfl rfl rfl rfl rfl rfl ?_
    refine O_extract rfl rfl rfl rfl rfl rfl ?_
    refine O_assign rfl rfl rfl rfl rfl ?_
    refine O_assign rfl rfl rfl rfl rfl ?_
    refine O_assign rfl rfl rfl rfl rfl ?_
    refine R_nil ?_
    refine tn ?_
    refine F_seq ?_
    refine F_region (p := ⟨_, [0, 2, 0, 0, 0, 0, 0], []⟩) rfl [0, 1, 2, 3, 4, 5, 6] rfl ?_
    refine O_move rfl rfl rfl rfl rfl ?_
    refine O_call rfl rfl rfl rfl Try.call53 rfl (rName s hb (hS)) (fun _ _ hv => trivial) ?_
    rintro _ w ⟨b2, rfl, hb2, hS⟩
    refine O_move rfl rfl rfl rfl rfl ?_
    refine R_case (t := 14) rfl (fun ht14 => ?_) (fun ht14 => ?_)
    · try simp only [decide_eq_true_eq, decide_eq_false_iff_not, Bool.not_eq_true', Bool.not_eq_false', Bool.not_true, Bool.not_false, Option.isNone_iff_eq_none, Bool.false_eq_true, Bool.true_eq_false] at ht14
      refine O_move rfl rfl rfl rfl rfl ?_
      refine O_not rfl rfl rfl rfl rfl ?_
      refine O_pickT rfl rfl rfl rfl rfl rfl ?_
      refine O_assign rfl rfl rfl rfl rfl ?_
      refine R_nil ?_
      refine tn ?_
      refine F_ret ?_
      show endF _ _ _ _ _ _
      refine end0 trivial rfl rfl rfl hS ?_
      intro w hS
      replace hS := (hS).drop
      refine ⟨_, rfl, ?_, hS⟩
      unfold wordP; simp_all
    · try simp only [decide_eq_true_eq, decide_eq_false_iff_not, Bool.not_eq_true', Bool.not_eq_false', Bool.not_true, Bool.not_false, Option.isNone_iff_eq_none, Bool.false_eq_true, Bool.true_eq_false] at ht14
      refine R_skip rfl rfl rfl rfl ?_
      refine R_skip rfl rfl rfl rfl ?_
      refine O_pickF rfl rfl rfl rfl rfl rfl ?_
      refine O_assign rfl rfl rfl rfl rfl ?_
      refine R_nil ?_
      refine tn ?_
      refine F_ret ?_
      show endF _ _ _ _ _ _
      refine end0 trivial rfl rfl rfl hS ?_
      intro w hS
      replace hS := (hS).drop
      refine ⟨_, rfl, ?_, hS⟩
      unfold wordP; simp_all
end Go.Proofs.Ytpnigaoibhogfaa
