/- YtpnigaoibhogfaaR24: a part of the proof: walks over the translated code, and plain facts on lists beside. -/
import Derived.Test.YtpnigaoibhogfaaR23
import Derived.Test.YtpnigaoibhogfaaR20
set_option linter.all false
namespace Go.Proofs.Ytpnigaoibhogfaa
open Go Go.RowKit Go.Sl
set_option linter.unusedVariables false
theorem rising {w0 w : World} {R A : HProp} {ad : Option Addr} {c : Nat} {l : List Int} (hA : Rds A ad (l.map fun n => .int .i64 n)) (hl : l.length ≤ 1000000) (a b : Int) (hS : Sat w0 (A * R) w) : Calls Try.prog 84 #[.slice ad l.length c, .int .i64 a, .int .i64 b] w (ret fun u w' => ∃ t, u = .bool t ∧ (t = true ↔ risP l a b) ∧ Sat w0 (A * R) w') := by
  replace hS := hS.noblks
  refine enterF (args := [_, _, _]) Try.func84 rfl Try.ntmps84 rfl rfl ?_
  refine F_seq ?_
  refine F_region (p := ⟨_, [0], []⟩) rfl [0] rfl ?_
  refine O_assign rfl rfl rfl rfl rfl ?_
  refine R_nil ?_
  refine tn ?_
  refine F_seq ?_
  refine F_seq ?_
  refine F_region (p := ⟨_, [0, 0, 0], []⟩) rfl [0, 1, 2] rfl ?_
  refine O_move rfl rfl rfl rfl rfl ?_
  refine O_lenSl rfl rfl rfl rfl rfl Try.runUnderlying28 ?_
  refine O_move rfl rfl rfl rfl rfl ?_
  refine R_nil ?_
  refine tn ?_
  refine F_block ?_
  refine F_loopL (α := (Int)) (σ := (Unit)) (l) [(0, _), (1, _), (2, _), (9, _), (10, _)] (fun (pre : List (Int)) (st : Unit) => [(11, (.int .i64 (pre.length : Nat)))]) (fun (pre : List (Int)) (st : Unit) => hemp) (fun (pre : List (Int)) (st : Unit) => risP pre a b) () (Sup.app ⟨rfl, rfl, rfl, rfl, rfl, trivial⟩ ⟨rfl, trivial⟩) (hS.to (hemp_star _).symm) ris_nil ?_ ?_
  · clear hS
    intro st w hI hS
    replace hS := hS.to (hemp_star _)
    refine wpF.sup (L := [(0, _), (1, _), (2, _), (9, _), (10, _), (11, _)]) ?_ ⟨rfl, rfl, rfl, rfl, rfl, rfl, trivial⟩
    refine F_seq ?_
    refine F_region (p := ⟨_, [0], []⟩) rfl [0] rfl ?_
    refine O_cmp rfl rfl rfl rfl rfl rfl rfl ?_
    refine R_nil ?_
    refine tn ?_
    refine F_seq ?_
    refine F_false rfl (decide_eq_false (by omega)) ?_
    refine F_exit ?_
    refine tx ?_
    refine tx ?_
    refine Go.Sl.bx rfl ?_
    refine tn ?_
    refine F_seq ?_
    refine F_region (p := ⟨_, [0], []⟩) rfl [0] rfl ?_
    refine O_assign rfl rfl rfl rfl rfl ?_
    refine R_nil ?_
    refine tn ?_
    refine F_ret ?_
    show endF _ _ _ _ _ _
    refine end0 trivial rfl rfl rfl hS ?_
    intro w hS
    replace hS := (hS).drop
    exact ⟨_, rfl, by simp [hI], hS⟩
  · clear hS
    intro pre x post st w hx hI hS
    replace hS := hS.to (hemp_star _)
    refine wpF.sup (L := [(0, _), (1, _), (2, _), (9, _), (10, _), (11, _)]) ?_ ⟨rfl, rfl, rfl, rfl, rfl, rfl, trivial⟩
    have hlx : pre.length + (post.length + 1) = l.length := by rw [hx]; simp
    by_cases hp : pre.length = 0
    · have hp2 : ∀ p z, pre = p ++ [z] → z < x := fun p z e => by rw [e] at hp; simp at hp
      refine F_seq ?_
      refine F_region (p := ⟨_, [0], []⟩) rfl [0] rfl ?_
      refine O_cmp rfl rfl rfl rfl rfl rfl rfl ?_
      refine R_nil ?_
      refine tn ?_
      refine F_seq ?_
      refine F_true rfl (decide_eq_true (by omega)) ?_
      refine F_skip ?_
      refine tn ?_
      refine F_seq ?_
      refine F_block ?_
      refine F_seq ?_
      refine F_region (p := ⟨_, [0, 0, 1, 0, 0], []⟩) rfl [0, 1, 2, 3, 4] rfl ?_
      refine O_move rfl rfl rfl rfl rfl ?_
      obtain ⟨ebq1, eoq1, hadq1⟩ := Rds.ad (k := pre.length) (u := (.int .i64 x)) (hA) (hS.u2) (by rw [hx]; simp)
      refine O_indexSlE (m := pre.length) rfl rfl rfl rfl Try.runUnderlying28 Try.sizeOf3 rfl hadq1 rfl rfl (by omega) ?_
      refine O_load rfl rfl rfl rfl rfl Try.isAgg3 (Rds.at (k := pre.length * 1) (u := (.int .i64 x)) (hA) (hS.u2) hadq1 (by rw [hx]; simp)) (by trivial) ?_
      refine O_assign rfl rfl rfl rfl rfl ?_
      refine O_assign rfl rfl rfl rfl rfl ?_
      refine R_nil ?_
      refine tn ?_
      refine F_seq ?_
      refine F_region (p := ⟨_, [0, 0, 0, 0, 0, 0, 0, 0, 0, 0, 0, 0, 0, 0, 0, 0, 1, 0, 0, 0, 0], []⟩) rfl [0, 1, 2, 3, 4, 5, 6, 7, 8, 9, 10, 11, 12, 13, 14, 15, 16, 17, 18, 19, 20] rfl ?_
      refine O_move rfl rfl rfl rfl rfl ?_
      refine O_move rfl rfl rfl rfl rfl ?_
      refine O_cmp rfl rfl rfl rfl rfl rfl rfl ?_
      refine O_move rfl rfl rfl rfl rfl ?_
      refine R_case (t := 19) rfl (fun ht19 => ?_) (fun ht19 => ?_)
      · try simp only [decide_eq_true_eq, decide_eq_false_iff_not, Bool.not_eq_true', Bool.not_eq_false', Bool.not_true, Bool.not_false, Option.isNone_iff_eq_none, Bool.false_eq_true, Bool.true_eq_false] at ht19
        refine R_skip rfl rfl rfl rfl ?_
        refine R_skip rfl rfl rfl rfl ?_
        refine R_skip rfl rfl rfl rfl ?_
        refine O_pickT rfl rfl rfl rfl rfl rfl ?_
        refine O_move rfl rfl rfl rfl rfl ?_
        refine R_skip rfl rfl rfl rfl ?_
        refine R_skip rfl rfl rfl rfl ?_
        refine R_skip rfl rfl rfl rfl ?_
        refine R_skip rfl rfl rfl rfl ?_
        refine R_skip rfl rfl rfl rfl ?_
        refine R_skip rfl rfl rfl rfl ?_
        refine R_skip rfl rfl rfl rfl ?_
        refine R_skip rfl rfl rfl rfl ?_
        refine R_skip rfl rfl rfl rfl ?_
        refine R_skip rfl rfl rfl rfl ?_
        refine R_skip rfl rfl rfl rfl ?_
        refine O_pickT rfl rfl rfl rfl rfl rfl ?_
        refine R_nil ?_
        refine tn ?_
        refine F_true rfl rfl ?_
        refine F_seq ?_
        refine F_region (p := ⟨_, [0], []⟩) rfl [0] rfl ?_
        refine O_assign rfl rfl rfl rfl rfl ?_
        refine R_nil ?_
        refine tn ?_
        refine F_ret ?_
        refine br ?_
        refine tr ?_
        refine tr ?_
        refine br ?_
        refine tr ?_
        show endF _ _ _ _ _ _
        refine end0 trivial rfl rfl rfl hS ?_
        intro w hS
        replace hS := (hS).drop
        refine ⟨_, rfl, ?_, hS⟩
        have hn : ¬ risP l a b := by rw [hx]; exact ris_bad (by first | (exact .inl (by omega)) )
        simp [hn]
      · try simp only [decide_eq_true_eq, decide_eq_false_iff_not, Bool.not_eq_true', Bool.not_eq_false', Bool.not_true, Bool.not_false, Option.isNone_iff_eq_none, Bool.false_eq_true, Bool.true_eq_false] at ht19
        refine O_move rfl rfl rfl rfl rfl ?_
        refine O_move rfl rfl rfl rfl rfl ?_
        refine O_cmp rfl rfl rfl rfl rfl rfl rfl ?_
        refine O_pickF rfl rfl rfl rfl rfl rfl ?_
        refine O_move rfl rfl rfl rfl rfl ?_
        refine R_case (t := 24) rfl (fun ht24 => ?_) (fun ht24 => ?_)
        · try simp only [decide_eq_true_eq, decide_eq_false_iff_not, Bool.not_eq_true', Bool.not_eq_false', Bool.not_true, Bool.not_false, Option.isNone_iff_eq_none, Bool.false_eq_true, Bool.true_eq_false] at ht24
          refine R_skip rfl rfl rfl rfl ?_
          refine R_skip rfl rfl rfl rfl ?_
          refine R_skip rfl rfl rfl rfl ?_
          refine R_skip rfl rfl rfl rfl ?_
          refine R_skip rfl rfl rfl rfl ?_
          refine R_skip rfl rfl rfl rfl ?_
          refine R_skip rfl rfl rfl rfl ?_
          refine R_skip rfl rfl rfl rfl ?_
          refine R_skip rfl rfl rfl rfl ?_
          refine R_skip rfl rfl rfl rfl ?_
          refine R_skip rfl rfl rfl rfl ?_
          refine O_pickT rfl rfl rfl rfl rfl rfl ?_
          refine R_nil ?_
          refine tn ?_
          refine F_true rfl rfl ?_
          refine F_seq ?_
          refine F_region (p := ⟨_, [0], []⟩) rfl [0] rfl ?_
          refine O_assign rfl rfl rfl rfl rfl ?_
          refine R_nil ?_
          refine tn ?_
          refine F_ret ?_
          refine br ?_
          refine tr ?_
          refine tr ?_
          refine br ?_
          refine tr ?_
          show endF _ _ _ _ _ _
          refine end0 trivial rfl rfl rfl hS ?_
          intro w hS
          replace hS := (hS).drop
          refine ⟨_, rfl, ?_, hS⟩
          have hn : ¬ risP l a b := by rw [hx]; exact ris_bad (by first | (exact .inl (by omega)) )
          simp [hn]
        · try simp only [decide_eq_true_eq, decide_eq_false_iff_not, Bool.not_eq_true', Bool.not_eq_false', Bool.not_true, Bool.not_false, Option.isNone_iff_eq_none, Bool.false_eq_true, Bool.true_eq_false] at ht24
          refine O_move rfl rfl rfl rfl rfl ?_
          refine O_cmp rfl rfl rfl rfl rfl rfl rfl ?_
          refine O_move rfl rfl rfl rfl rfl ?_
          refine R_caseF (t := 27) rfl (decide_eq_false (by omega)) ?_
          refine R_skip rfl rfl rfl rfl ?_
          refine R_skip rfl rfl rfl rfl ?_
          refine R_skip rfl rfl rfl rfl ?_
          refine R_skip rfl rfl rfl rfl ?_
          refine R_skip rfl rfl rfl rfl ?_
          refine R_skip rfl rfl rfl rfl ?_
          refine R_skip rfl rfl rfl rfl ?_
          refine O_pickF rfl rfl rfl rfl rfl rfl ?_
          refine O_pickF rfl rfl rfl rfl rfl rfl ?_
          refine R_nil ?_
          refine tn ?_
          refine F_false rfl rfl ?_
          refine F_skip ?_
          refine bn ?_
          refine tn ?_
          refine F_region (p := ⟨_, [0, 0], []⟩) rfl [0, 1] rfl ?_
          refine O_addN rfl rfl rfl rfl rfl rfl (by first | omega | (dsimp only; omega)) ?_
          refine O_move rfl rfl rfl rfl rfl ?_
          refine R_nil ?_
          replace hS := hS.u2.u2
          refine tn ⟨rfl, rfl, (), Sup.app ⟨rfl, rfl, rfl, rfl, rfl, trivial⟩ ⟨congrArg (fun z : Nat => some (Value.int .i64 z)) (show pre.length + 1 = (pre ++ [x]).length by simp), trivial⟩, ris_snoc hI (by omega) hp2, hS.to (hemp_star _).symm⟩
    · obtain ⟨p', z, hz, hpl⟩ := snoc_of (n := pre.length - 1) (l := pre) (by omega)
      refine F_seq ?_
      refine F_region (p := ⟨_, [0], []⟩) rfl [0] rfl ?_
      refine O_cmp rfl rfl rfl rfl rfl rfl rfl ?_
      refine R_nil ?_
      refine tn ?_
      refine F_seq ?_
      refine F_true rfl (decide_eq_true (by omega)) ?_
      refine F_skip ?_
      refine tn ?_
      refine F_seq ?_
      refine F_block ?_
      refine F_seq ?_
      refine F_region (p := ⟨_, [0, 0, 1, 0, 0], []⟩) rfl [0, 1, 2, 3, 4] rfl ?_
      refine O_move rfl rfl rfl rfl rfl ?_
      obtain ⟨ebq1, eoq1, hadq1⟩ := Rds.ad (k := pre.length) (u := (.int .i64 x)) (hA) (hS.u2) (by rw [hx]; simp)
      refine O_indexSlE (m := pre.length) rfl rfl rfl rfl Try.runUnderlying28 Try.sizeOf3 rfl hadq1 rfl rfl (by omega) ?_
      refine O_load rfl rfl rfl rfl rfl Try.isAgg3 (Rds.at (k := pre.length * 1) (u := (.int .i64 x)) (hA) (hS.u2) hadq1 (by rw [hx]; simp)) (by trivial) ?_
      refine O_assign rfl rfl rfl rfl rfl ?_
      refine O_assign rfl rfl rfl rfl rfl ?_
      refine R_nil ?_
      refine tn ?_
      refine F_seq ?_
      refine F_region (p := ⟨_, [0, 0, 0, 0, 0, 0, 0, 0, 0, 0, 0, 0, 0, 0, 0, 0, 1, 0, 0, 0, 0], []⟩) rfl [0, 1, 2, 3, 4, 5, 6, 7, 8, 9, 10, 11, 12, 13, 14, 15, 16, 17, 18, 19, 20] rfl ?_
      refine O_move rfl rfl rfl rfl rfl ?_
      refine O_move rfl rfl rfl rfl rfl ?_
      refine O_cmp rfl rfl rfl rfl rfl rfl rfl ?_
      refine O_move rfl rfl rfl rfl rfl ?_
      refine R_case (t := 19) rfl (fun ht19 => ?_) (fun ht19 => ?_)
      · try simp only [decide_eq_true_eq, decide_eq_false_iff_not, Bool.not_eq_true', Bool.not_eq_false', Bool.not_true, Bool.not_false, Option.isNone_iff_eq_none, Bool.false_eq_true, Bool.true_eq_false] at ht19
        refine R_skip rfl rfl rfl rfl ?_
        refine R_skip rfl rfl rfl rfl ?_
        refine R_skip rfl rfl rfl rfl ?_
        refine O_pickT rfl rfl rfl rfl rfl rfl ?_
        refine O_move rfl rfl rfl rfl rfl ?_
        refine R_skip rfl rfl rfl rfl ?_
        refine R_skip rfl rfl rfl rfl ?_
        refine R_skip rfl rfl rfl rfl ?_
        refine R_skip rfl rfl rfl rfl ?_
        refine R_skip rfl rfl rfl rfl ?_
        refine R_skip rfl rfl rfl rfl ?_
        refine R_skip rfl rfl rfl rfl ?_
        refine R_skip rfl rfl rfl rfl ?_
        refine R_skip rfl rfl rfl rfl ?_
        refine R_skip rfl rfl rfl rfl ?_
        refine R_skip rfl rfl rfl rfl ?_
        refine O_pickT rfl rfl rfl rfl rfl rfl ?_
        refine R_nil ?_
        refine tn ?_
        refine F_true rfl rfl ?_
        refine F_seq ?_
        refine F_region (p := ⟨_, [0], []⟩) rfl [0] rfl ?_
        refine O_assign rfl rfl rfl rfl rfl ?_
        refine R_nil ?_
        refine tn ?_
        refine F_ret ?_
        refine br ?_
        refine tr ?_
        refine tr ?_
        refine br ?_
        refine tr ?_
        show endF _ _ _ _ _ _
        refine end0 trivial rfl rfl rfl hS ?_
        intro w hS
        replace hS := (hS).drop
        refine ⟨_, rfl, ?_, hS⟩
        have hn : ¬ risP l a b := by rw [hx]; exact ris_bad (by first | (exact .inl (by omega)) | exact .inr ⟨p', z, hz, by omega⟩)
        simp [hn]
      · try simp only [decide_eq_true_eq, decide_eq_false_iff_not, Bool.not_eq_true', Bool.not_eq_false', Bool.not_true, Bool.not_false, Option.isNone_iff_eq_none, Bool.false_eq_true, Bool.true_eq_false] at ht19
        refine O_move rfl rfl rfl rfl rfl ?_
        refine O_move rfl rfl rfl rfl rfl ?_
        refine O_cmp rfl rfl rfl rfl rfl rfl rfl ?_
        refine O_pickF rfl rfl rfl rfl rfl rfl ?_
        refine O_move rfl rfl rfl rfl rfl ?_
        refine R_case (t := 24) rfl (fun ht24 => ?_) (fun ht24 => ?_)
        · try simp only [decide_eq_true_eq, decide_eq_false_iff_not, Bool.not_eq_true', Bool.not_eq_false', Bool.not_true, Bool.not_false, Option.isNone_iff_eq_none, Bool.false_eq_true, Bool.true_eq_false] at ht24
          refine R_skip rfl rfl rfl rfl ?_
          refine R_skip rfl rfl rfl rfl ?_
          refine R_skip rfl rfl rfl rfl ?_
          refine R_skip rfl rfl rfl rfl ?_
          refine R_skip rfl rfl rfl rfl ?_
          refine R_skip rfl rfl rfl rfl ?_
          refine R_skip rfl rfl rfl rfl ?_
          refine R_skip rfl rfl rfl rfl ?_
          refine R_skip rfl rfl rfl rfl ?_
          refine R_skip rfl rfl rfl rfl ?_
          refine R_skip rfl rfl rfl rfl ?_
          refine O_pickT rfl rfl rfl rfl rfl rfl ?_
          refine R_nil ?_
          refine tn ?_
          refine F_true rfl rfl ?_
          refine F_seq ?_
          refine F_region (p := ⟨_, [0], []⟩) rfl [0] rfl ?_
          refine O_assign rfl rfl rfl rfl rfl ?_
          refine R_nil ?_
          refine tn ?_
          refine F_ret ?_
          refine br ?_
          refine tr ?_
          refine tr ?_
          refine br ?_
          refine tr ?_
          show endF _ _ _ _ _ _
          refine end0 trivial rfl rfl rfl hS ?_
          intro w hS
          replace hS := (hS).drop
          refine ⟨_, rfl, ?_, hS⟩
          have hn : ¬ risP l a b := by rw [hx]; exact ris_bad (by first | (exact .inl (by omega)) | exact .inr ⟨p', z, hz, by omega⟩)
          simp [hn]
        · try simp only [decide_eq_true_eq, decide_eq_false_iff_not, Bool.not_eq_true', Bool.not_eq_false', Bool.not_true, Bool.not_false, Option.isNone_iff_eq_none, Bool.false_eq_true, Bool.true_eq_false] at ht24
          refine O_move rfl rfl rfl rfl rfl ?_
          refine O_cmp rfl rfl rfl rfl rfl rfl rfl ?_
          refine O_move rfl rfl rfl rfl rfl ?_
          refine R_caseT (t := 27) rfl (decide_eq_true (by omega)) ?_
          refine O_move rfl rfl rfl rfl rfl ?_
          refine O_move rfl rfl rfl rfl rfl ?_
          refine O_subN rfl rfl rfl rfl rfl rfl (by first | omega | (dsimp only; omega)) ?_
          obtain ⟨ebq2, eoq2, hadq2⟩ := Rds.ad (k := (pre.length - 1)) (u := (.int .i64 z)) (hA) (hS.u2) (by rw [hx, hz]; simp)
          refine O_indexSlE (m := (pre.length - 1)) rfl rfl rfl rfl Try.runUnderlying28 Try.sizeOf3 rfl hadq2 rfl (by omega) (by omega) ?_
          refine O_load rfl rfl rfl rfl rfl Try.isAgg3 (Rds.at (k := (pre.length - 1) * 1) (u := (.int .i64 z)) (hA) (hS.u2) hadq2 (by rw [hx, hz]; simp)) (by trivial) ?_
          refine O_move rfl rfl rfl rfl rfl ?_
          refine O_cmp rfl rfl rfl rfl rfl rfl rfl ?_
          refine O_pickT rfl rfl rfl rfl rfl rfl ?_
          refine O_pickF rfl rfl rfl rfl rfl rfl ?_
          refine R_nil ?_
          refine tn ?_
          refine F_cond rfl (fun ht36 => ?_) (fun ht36 => ?_)
          · try simp only [decide_eq_true_eq, decide_eq_false_iff_not, Bool.not_eq_true', Bool.not_eq_false', Bool.not_true, Bool.not_false, Option.isNone_iff_eq_none, Bool.false_eq_true, Bool.true_eq_false] at ht36
            refine F_seq ?_
            refine F_region (p := ⟨_, [0], []⟩) rfl [0] rfl ?_
            refine O_assign rfl rfl rfl rfl rfl ?_
            refine R_nil ?_
            refine tn ?_
            refine F_ret ?_
            refine br ?_
            refine tr ?_
            refine tr ?_
            refine br ?_
            refine tr ?_
            show endF _ _ _ _ _ _
            refine end0 trivial rfl rfl rfl hS ?_
            intro w hS
            replace hS := (hS).drop
            refine ⟨_, rfl, ?_, hS⟩
            have hn : ¬ risP l a b := by rw [hx]; exact ris_bad (by first | (exact .inl (by omega)) | exact .inr ⟨p', z, hz, by omega⟩)
            simp [hn]
          · try simp only [decide_eq_true_eq, decide_eq_false_iff_not, Bool.not_eq_true', Bool.not_eq_false', Bool.not_true, Bool.not_false, Option.isNone_iff_eq_none, Bool.false_eq_true, Bool.true_eq_false] at ht36
            refine F_skip ?_
            refine bn ?_
            refine tn ?_
            refine F_region (p := ⟨_, [0, 0], []⟩) rfl [0, 1] rfl ?_
            refine O_addN rfl rfl rfl rfl rfl rfl (by first | omega | (dsimp only; omega)) ?_
            refine O_move rfl rfl rfl rfl rfl ?_
            refine R_nil ?_
            have hzx : z < x := by omega
            have hp2 : ∀ p y, pre = p ++ [y] → y < x := fun p y e => by rw [← (List.cons.inj (List.append_inj' (hz.symm.trans e) rfl).2).1]; exact hzx
            replace hS := hS.u2.u2
            refine tn ⟨rfl, rfl, (), Sup.app ⟨rfl, rfl, rfl, rfl, rfl, trivial⟩ ⟨congrArg (fun z : Nat => some (Value.int .i64 z)) (show pre.length + 1 = (pre ++ [x]).length by simp), trivial⟩, ris_snoc hI (by omega) hp2, hS.to (hemp_star _).symm⟩
theorem srcRight {w0 w : World} {R A : HProp} {y : Src} {ad : Option Addr} {c : Nat} (hyv : y.v = .slice ad y.seqs.length c) (hA : Rds A ad (y.seqs.map fun n => .int .i64 n)) (hl : y.seqs.length ≤ 1000000) (hb : y.name.size ≤ 9223372036854775807) (hS : Sat w0 (A * R) w) :
    Calls Try.prog 60 #[.agg (srcE y).toArray] w (ret fun u w' => ∃ t, u = .bool t ∧ (t = true ↔ okS y.tell) ∧ Sat w0 (A * R) w') := by
  obtain ⟨yn, yf, yv, ys⟩ := y
  simp only at hyv hA hl hb
  subst hyv
  replace hS := hS.noblks
  refine enterF (args := [_]) Try.func60 rfl Try.ntmps60 rfl rfl ?_
  refine F_seq ?_
  refine F_region (p := ⟨_, [2, 0], []⟩) rfl [0, 1] rfl ?_
  refine O_boxS hS rfl rfl rfl rfl rfl (fun _ _ hv => trivial) ?_
  intro b1 w hS
  refine O_assign rfl rfl rfl rfl rfl ?_
  refine R_nil ?_
  refine tn ?_
  refine F_seq ?_
  refine F_region (p := ⟨_, [0, 1, 2, 0, 0, 1, 2, 0, 0, 0, 0, 1, 0, 0, 0, 0, 1, 0, 0, 0, 0, 1, 0, 0, 0, 0, 0, 1, 0, 0, 0, 0, 0, 1, 0, 1, 0, 2, 0, 0], []⟩) rfl [0, 1, 2, 3, 4, 5, 6, 7, 8, 9, 10, 11, 12, 13, 14, 15, 16, 17, 18, 19, 20, 21, 22, 23, 24, 25, 26, 27, 28, 29, 30, 31, 32, 33, 34, 35, 36, 37, 38, 39] rfl ?_
  refine O_fieldAddr rfl rfl rfl rfl rfl Try.runUnderlying65 rfl Try.sizeOf9 ?_
  refine O_loadS hS rfl rfl rfl rfl rfl Try.isAgg9 (by repeat (first | exact .here rfl | apply CellAt.there)) (by trivial) ?_
  refine O_call rfl rfl rfl rfl Try.call82 rfl (tagName yn hb (hS)) (fun _ _ hv => trivial) ?_
  rintro _ w ⟨b1, rfl, hb1, hS⟩
  refine O_move rfl rfl rfl rfl rfl ?_
  refine R_case (t := 6) rfl (fun ht6 => ?_) (fun ht6 => ?_)
  · try simp only [decide_eq_true_eq, decide_eq_false_iff_not, Bool.not_eq_true', Bool.not_eq_false', Bool.not_true, Bool.not_false, Option.isNone_iff_eq_none, Bool.false_eq_true, Bool.true_eq_false] at ht6
    refine O_fieldAddr rfl rfl rfl rfl rfl Try.runUnderlying65 rfl Try.sizeOf9 ?_
    refine O_loadS hS rfl rfl rfl rfl rfl Try.isAgg9 (by repeat (first | exact .here rfl | apply CellAt.there)) (by trivial) ?_
    refine O_call rfl rfl rfl rfl Try.call83 rfl (contains1 yn 46 (hS)) (fun _ _ hv => trivial) ?_
    rintro _ w ⟨b2, rfl, hb2, hS⟩
    refine O_not rfl rfl rfl rfl rfl ?_
    refine O_pickT rfl rfl rfl rfl rfl rfl ?_
    refine O_move rfl rfl rfl rfl rfl ?_
    refine R_case (t := 12) rfl (fun ht12 => ?_) (fun ht12 => ?_)
    · try simp only [decide_eq_true_eq, decide_eq_false_iff_not, Bool.not_eq_true', Bool.not_eq_false', Bool.not_true, Bool.not_false, Option.isNone_iff_eq_none, Bool.false_eq_true, Bool.true_eq_false] at ht12
      refine O_fieldAddr rfl rfl rfl rfl rfl Try.runUnderlying65 rfl Try.sizeOf3 ?_
      refine O_loadS hS rfl rfl rfl rfl rfl Try.isAgg3 (by repeat (first | exact .here rfl | apply CellAt.there)) (by trivial) ?_
      refine O_cmp rfl rfl rfl rfl rfl rfl rfl ?_
      refine O_pickT rfl rfl rfl rfl rfl rfl ?_
      refine O_move rfl rfl rfl rfl rfl ?_
      refine R_case (t := 17) rfl (fun ht17 => ?_) (fun ht17 => ?_)
      · try simp only [decide_eq_true_eq, decide_eq_false_iff_not, Bool.not_eq_true', Bool.not_eq_false', Bool.not_true, Bool.not_false, Option.isNone_iff_eq_none, Bool.false_eq_true, Bool.true_eq_false] at ht17
        refine O_fieldAddr rfl rfl rfl rfl rfl Try.runUnderlying65 rfl Try.sizeOf3 ?_
        refine O_loadS hS rfl rfl rfl rfl rfl Try.isAgg3 (by repeat (first | exact .here rfl | apply CellAt.there)) (by trivial) ?_
        refine O_cmp rfl rfl rfl rfl rfl rfl rfl ?_
        refine O_pickT rfl rfl rfl rfl rfl rfl ?_
        refine O_move rfl rfl rfl rfl rfl ?_
        refine R_case (t := 22) rfl (fun ht22 => ?_) (fun ht22 => ?_)
        · try simp only [decide_eq_true_eq, decide_eq_false_iff_not, Bool.not_eq_true', Bool.not_eq_false', Bool.not_true, Bool.not_false, Option.isNone_iff_eq_none, Bool.false_eq_true, Bool.true_eq_false] at ht22
          refine O_fieldAddr rfl rfl rfl rfl rfl Try.runUnderlying65 rfl Try.sizeOf28 ?_
          refine O_loadS hS rfl rfl rfl rfl rfl Try.isAgg28 (by repeat (first | exact .here rfl | apply CellAt.there)) (by trivial) ?_
          refine O_lenSl rfl rfl rfl rfl rfl Try.runUnderlying28 ?_
          refine O_cmp rfl rfl rfl rfl rfl rfl rfl ?_
          refine O_pickT rfl rfl rfl rfl rfl rfl ?_
          refine O_move rfl rfl rfl rfl rfl ?_
          refine R_case (t := 28) rfl (fun ht28 => ?_) (fun ht28 => ?_)
          · try simp only [decide_eq_true_eq, decide_eq_false_iff_not, Bool.not_eq_true', Bool.not_eq_false', Bool.not_true, Bool.not_false, Option.isNone_iff_eq_none, Bool.false_eq_true, Bool.true_eq_false] at ht28
            refine O_fieldAddr rfl rfl rfl rfl rfl Try.runUnderlying65 rfl Try.sizeOf28 ?_
            refine O_loadS hS rfl rfl rfl rfl rfl Try.isAgg28 (by repeat (first | exact .here rfl | apply CellAt.there)) (by trivial) ?_
            refine O_lenSl rfl rfl rfl rfl rfl Try.runUnderlying28 ?_
            refine O_cmp rfl rfl rfl rfl rfl rfl rfl ?_
            refine O_pickT rfl rfl rfl rfl rfl rfl ?_
            refine O_move rfl rfl rfl rfl rfl ?_
            refine R_case (t := 34) rfl (fun ht34 => ?_) (fun ht34 => ?_)
            · try simp only [decide_eq_true_eq, decide_eq_false_iff_not, Bool.not_eq_true', Bool.not_eq_false', Bool.not_true, Bool.not_false, Option.isNone_iff_eq_none, Bool.false_eq_true, Bool.true_eq_false] at ht34
              refine O_fieldAddr rfl rfl rfl rfl rfl Try.runUnderlying65 rfl Try.sizeOf28 ?_
              refine O_loadS hS rfl rfl rfl rfl rfl Try.isAgg28 (by repeat (first | exact .here rfl | apply CellAt.there)) (by trivial) ?_
              refine O_fieldAddr rfl rfl rfl rfl rfl Try.runUnderlying65 rfl Try.sizeOf3 ?_
              refine O_loadS hS rfl rfl rfl rfl rfl Try.isAgg3 (by repeat (first | exact .here rfl | apply CellAt.there)) (by trivial) ?_
              refine O_addN rfl rfl rfl rfl rfl rfl (by first | omega | (dsimp only; omega)) ?_
              refine O_call rfl rfl rfl rfl Try.call84 rfl (rising hA hl _ _ (hS.u2)) (fun _ _ hv => trivial) ?_
              rintro _ w ⟨b3, rfl, hb3, hS⟩
              replace hS := hS.u2
              refine O_pickT rfl rfl rfl rfl rfl rfl ?_
              refine O_assign rfl rfl rfl rfl rfl ?_
              refine R_nil ?_
              refine tn ?_
              refine F_ret ?_
              show endF _ _ _ _ _ _
              refine end0 trivial rfl rfl rfl hS ?_
              intro w hS
              replace hS := (hS).drop
              refine ⟨_, rfl, ?_, hS⟩
              unfold okS wordP
              simp only [Src.tell]
              try rw [← hb1]
              try rw [← hb2]
              try rw [← hb3]
              simp_all
              try exact ⟨fun h => ⟨by omega, by omega, h⟩, fun h => h.2.2⟩
              try omega
            · try simp only [decide_eq_true_eq, decide_eq_false_iff_not, Bool.not_eq_true', Bool.not_eq_false', Bool.not_true, Bool.not_false, Option.isNone_iff_eq_none, Bool.false_eq_true, Bool.true_eq_false] at ht34
              refine R_skip rfl rfl rfl rfl ?_
              refine R_skip rfl rfl rfl rfl ?_
              refine R_skip rfl rfl rfl rfl ?_
              refine R_skip rfl rfl rfl rfl ?_
              refine R_skip rfl rfl rfl rfl ?_
              refine R_skip rfl rfl rfl rfl ?_
              refine O_pickF rfl rfl rfl rfl rfl rfl ?_
              refine O_assign rfl rfl rfl rfl rfl ?_
              refine R_nil ?_
              refine tn ?_
              refine F_ret ?_
              show endF _ _ _ _ _ _
              refine end0 trivial rfl rfl rfl hS ?_
              intro w hS
              replace hS := (hS).drop
              refine ⟨_, rfl, ?_, hS⟩
              unfold okS wordP
              simp only [Src.tell]
              try rw [← hb1]
              try rw [← hb2]
              try rw [← hb3]
              simp_all
              try exact ⟨fun h => ⟨by omega, by omega, h⟩, fun h => h.2.2⟩
              try omega
          · try simp only [decide_eq_true_eq, decide_eq_false_iff_not, Bool.not_eq_true', Bool.not_eq_false', Bool.not_true, Bool.not_false, Option.isNone_iff_eq_none, Bool.false_eq_true, Bool.true_eq_false] at ht28
            refine R_skip rfl rfl rfl rfl ?_
            refine R_skip rfl rfl rfl rfl ?_
            refine R_skip rfl rfl rfl rfl ?_
            refine R_skip rfl rfl rfl rfl ?_
            refine O_pickF rfl rfl rfl rfl rfl rfl ?_
            refine O_move rfl rfl rfl rfl rfl ?_
            refine R_skip rfl rfl rfl rfl ?_
            refine R_skip rfl rfl rfl rfl ?_
            refine R_skip rfl rfl rfl rfl ?_
            refine R_skip rfl rfl rfl rfl ?_
            refine R_skip rfl rfl rfl rfl ?_
            refine R_skip rfl rfl rfl rfl ?_
            refine O_pickF rfl rfl rfl rfl rfl rfl ?_
            refine O_assign rfl rfl rfl rfl rfl ?_
            refine R_nil ?_
            refine tn ?_
            refine F_ret ?_
            show endF _ _ _ _ _ _
            refine end0 trivial rfl rfl rfl hS ?_
            intro w hS
            replace hS := (hS).drop
            refine ⟨_, rfl, ?_, hS⟩
            unfold okS wordP
            simp only [Src.tell]
            try rw [← hb1]
            try rw [← hb2]
            try rw [← hb3]
            simp_all
            try exact ⟨fun h => ⟨by omega, by omega, h⟩, fun h => h.2.2⟩
            try omega
        · try simp only [decide_eq_true_eq, decide_eq_false_iff_not, Bool.not_eq_true', Bool.not_eq_false', Bool.not_true, Bool.not_false, Option.isNone_iff_eq_none, Bool.false_eq_true, Bool.true_eq_false] at ht22
          refine R_skip rfl rfl rfl rfl ?_
          refine R_skip rfl rfl rfl rfl ?_
          refine R_skip rfl rfl rfl rfl ?_
          refine R_skip rfl rfl rfl rfl ?_
          refine O_pickF rfl rfl rfl rfl rfl rfl ?_
          refine O_move rfl rfl rfl rfl rfl ?_
          refine R_skip rfl rfl rfl rfl ?_
          refine R_skip rfl rfl rfl rfl ?_
          refine R_skip rfl rfl rfl rfl ?_
          refine R_skip rfl rfl rfl rfl ?_
          refine O_pickF rfl rfl rfl rfl rfl rfl ?_
          refine O_move rfl rfl rfl rfl rfl ?_
          refine R_skip rfl rfl rfl rfl ?_
          refine R_skip rfl rfl rfl rfl ?_
          refine R_skip rfl rfl rfl rfl ?_
          refine R_skip rfl rfl rfl rfl ?_
          refine R_skip rfl rfl rfl rfl ?_
          refine R_skip rfl rfl rfl rfl ?_
          refine O_pickF rfl rfl rfl rfl rfl rfl ?_
          refine O_assign rfl rfl rfl rfl rfl ?_
          refine R_nil ?_
          refine tn ?_
          refine F_ret ?_
          show endF _ _ _ _ _ _
          refine end0 trivial rfl rfl rfl hS ?_
          intro w hS
          replace hS := (hS).drop
          refine ⟨_, rfl, ?_, hS⟩
          unfold okS wordP
          simp only [Src.tell]
          try rw [← hb1]
          try rw [← hb2]
          try rw [← hb3]
          simp_all
          try exact ⟨fun h => ⟨by omega, by omega, h⟩, fun h => h.2.2⟩
          try omega
      · try simp only [decide_eq_true_eq, decide_eq_false_iff_not, Bool.not_eq_true', Bool.not_eq_false', Bool.not_true, Bool.not_false, Option.isNone_iff_eq_none, Bool.false_eq_true, Bool.true_eq_false] at ht17
        refine R_skip rfl rfl rfl rfl ?_
        refine R_skip rfl rfl rfl rfl ?_
        refine R_skip rfl rfl rfl rfl ?_
        refine O_pickF rfl rfl rfl rfl rfl rfl ?_
        refine O_move rfl rfl rfl rfl rfl ?_
        refine R_skip rfl rfl rfl rfl ?_
        refine R_skip rfl rfl rfl rfl ?_
        refine R_skip rfl rfl rfl rfl ?_
        refine R_skip rfl rfl rfl rfl ?_
        refine O_pickF rfl rfl rfl rfl rfl rfl ?_
        refine O_move rfl rfl rfl rfl rfl ?_
        refine R_skip rfl rfl rfl rfl ?_
        refine R_skip rfl rfl rfl rfl ?_
        refine R_skip rfl rfl rfl rfl ?_
        refine R_skip rfl rfl rfl rfl ?_
        refine O_pickF rfl rfl rfl rfl rfl rfl ?_
        refine O_move rfl rfl rfl rfl rfl ?_
        refine R_skip rfl rfl rfl rfl ?_
        refine R_skip rfl rfl rfl rfl ?_
        refine R_skip rfl rfl rfl rfl ?_
        refine R_skip rfl rfl rfl rfl ?_
        refine R_skip rfl rfl rfl rfl ?_
        refine R_skip rfl rfl rfl rfl ?_
        refine O_pickF rfl rfl rfl rfl rfl rfl ?_
        refine O_assign rfl rfl rfl rfl rfl ?_
        refine R_nil ?_
        refine tn ?_
        refine F_ret ?_
        show endF _ _ _ _ _ _
        refine end0 trivial rfl rfl rfl hS ?_
        intro w hS
        replace hS := (hS).drop
        refine ⟨_, rfl, ?_, hS⟩
        unfold okS wordP
        simp only [Src.tell]
        try rw [← hb1]
        try rw [← hb2]
        try rw [← hb3]
        simp_all
        try exact ⟨fun h => ⟨by omega, by omega, h⟩, fun h => h.2.2⟩
        try omega
    · try simp only [decide_eq_true_eq, decide_eq_false_iff_not, Bool.not_eq_true', Bool.not_eq_false', Bool.not_true, Bool.not_false, Option.isNone_iff_eq_none, Bool.false_eq_true, Bool.true_eq_false] at ht12
      refine R_skip rfl rfl rfl rfl ?_
      refine R_skip rfl rfl rfl rfl ?_
      refine R_skip rfl rfl rfl rfl ?_
      refine O_pickF rfl rfl rfl rfl rfl rfl ?_
      refine O_move rfl rfl rfl rfl rfl ?_
      refine R_skip rfl rfl rfl rfl ?_
      refine R_skip rfl rfl rfl rfl ?_
      refine R_skip rfl rfl rfl rfl ?_
      refine O_pickF rfl rfl rfl rfl rfl rfl ?_
      refine O_move rfl rfl rfl rfl rfl ?_
      refine R_skip rfl rfl rfl rfl ?_
      refine R_skip rfl rfl rfl rfl ?_
      refine R_skip rfl rfl rfl rfl ?_
      refine R_skip rfl rfl rfl rfl ?_
      refine O_pickF rfl rfl rfl rfl rfl rfl ?_
      refine O_move rfl rfl rfl rfl rfl ?_
      refine R_skip rfl rfl rfl rfl ?_
      refine R_skip rfl rfl rfl rfl ?_
      refine R_skip rfl rfl rfl rfl ?_
      refine R_skip rfl rfl rfl rfl ?_
      refine O_pickF rfl rfl rfl rfl rfl rfl ?_
      refine O_move rfl rfl rfl rfl rfl ?_
      refine R_skip rfl rfl rfl rfl ?_
      refine R_skip rfl rfl rfl rfl ?_
      refine R_skip rfl rfl rfl rfl ?_
      refine R_skip rfl rfl rfl rfl ?_
      refine R_skip rfl rfl rfl rfl ?_
      refine R_skip rfl rfl rfl rfl ?_
      refine O_pickF rfl rfl rfl rfl rfl rfl ?_
      refine O_assign rfl rfl rfl rfl rfl ?_
      refine R_nil ?_
      refine tn ?_
      refine F_ret ?_
      show endF _ _ _ _ _ _
      refine end0 trivial rfl rfl rfl hS ?_
      intro w hS
      replace hS := (hS).drop
      refine ⟨_, rfl, ?_, hS⟩
      unfold okS wordP
      simp only [Src.tell]
      try rw [← hb1]
      try rw [← hb2]
      try rw [← hb3]
      simp_all
      try exact ⟨fun h => ⟨by omega, by omega, h⟩, fun h => h.2.2⟩
      try omega
  · try simp only [decide_eq_true_eq, decide_eq_false_iff_not, Bool.not_eq_true', Bool.not_eq_false', Bool.not_true, Bool.not_false, Option.isNone_iff_eq_none, Bool.false_eq_true, Bool.true_eq_false] at ht6
    refine R_skip rfl rfl rfl rfl ?_
    refine R_skip rfl rfl rfl rfl ?_
    refine R_skip rfl rfl rfl rfl ?_
    refine R_skip rfl rfl rfl rfl ?_
    refine O_pickF rfl rfl rfl rfl rfl rfl ?_
    refine O_move rfl rfl rfl rfl rfl ?_
    refine R_skip rfl rfl rfl rfl ?_
    refine R_skip rfl rfl rfl rfl ?_
    refine R_skip rfl rfl rfl rfl ?_
    refine O_pickF rfl rfl rfl rfl rfl rfl ?_
    refine O_move rfl rfl rfl rfl rfl ?_
    refine R_skip rfl rfl rfl rfl ?_
    refine R_skip rfl rfl rfl rfl ?_
    refine R_skip rfl rfl rfl rfl ?_
    refine O_pickF rfl rfl rfl rfl rfl rfl ?_
    refine O_move rfl rfl rfl rfl rfl ?_
    refine R_skip rfl rfl rfl rfl ?_
    refine R_skip rfl rfl rfl rfl ?_
    refine R_skip rfl rfl rfl rfl ?_
    refine R_skip rfl rfl rfl rfl ?_
    refine O_pickF rfl rfl rfl rfl rfl rfl ?_
    refine O_move rfl rfl rfl rfl rfl ?_
    refine R_skip rfl rfl rfl rfl ?_
    refine R_skip rfl rfl rfl rfl ?_
    refine R_skip rfl rfl rfl rfl ?_
    refine R_skip rfl rfl rfl rfl ?_
    refine O_pickF rfl rfl rfl rfl rfl rfl ?_
    refine O_move rfl rfl rfl rfl rfl ?_
    refine R_skip rfl rfl rfl rfl ?_
    refine R_skip rfl rfl rfl rfl ?_
    refine R_skip rfl rfl rfl rfl ?_
    refine R_skip rfl rfl rfl rfl ?_
    refine R_skip rfl rfl rfl rfl ?_
    refine R_skip rfl rfl rfl rfl ?_
    refine O_pickF rfl rfl rfl rfl rfl rfl ?_
    refine O_assign rfl rfl rfl rfl rfl ?_
    refine R_nil ?_
    refine tn ?_
    refine F_ret ?_
    show endF _ _ _ _ _ _
    refine end0 trivial rfl rfl rfl hS ?_
    intro w hS
    replace hS := (hS).drop
    refine ⟨_, rfl, ?_, hS⟩
    unfold okS wordP
    simp only [Src.tell]
    try rw [← hb1]
    try rw [← hb2]
    try rw [← hb3]
    simp_all
    try exact ⟨fun h => ⟨by omega, by omega, h⟩, fun h => h.2.2⟩
    try omega
end Go.Proofs.Ytpnigaoibhogfaa
