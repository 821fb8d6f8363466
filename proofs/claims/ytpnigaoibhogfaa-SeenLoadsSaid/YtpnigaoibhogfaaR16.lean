/- YtpnigaoibhogfaaR16: a part of the proof: walks over the translated code, and plain facts on lists beside. -/
import Derived.Test.YtpnigaoibhogfaaR15
import Derived.Test.YtpnigaoibhogfaaR12
import Derived.Test.YtpnigaoibhogfaaSlX2
set_option linter.all false
namespace Go.Proofs.Ytpnigaoibhogfaa
open Go Go.RowKit Go.Sl
set_option linter.unusedVariables false
theorem rFind {w0 w : World} {R A : HProp} {ad : Option Addr} {c : Nat} {Q : List Src} (hA : RdSrc A ad Q) (hl : Q.length ≤ 1000000) (name : ByteArray) (hb : name.size ≤ 9223372036854775807) (hS : Sat w0 (A * R) w) :
    Calls Try.prog 62 #[.slice ad Q.length c, .string name] w (ret fun u w' => (∃ pre y q, Q = pre ++ y :: q ∧ (∀ x ∈ pre, O_S.lt x.name name = true) ∧ y.name = name ∧ u = .tuple #[.int .i64 (pre.length : Nat), .bool true] ∧ Sat w0 (A * R) w') ∨
      (∃ pre q, Q = pre ++ q ∧ (∀ x ∈ pre, O_S.lt x.name name = true) ∧ (∀ y r, q = y :: r → O_S.lt name y.name = true) ∧ u = .tuple #[.int .i64 (pre.length : Nat), .bool false] ∧ Sat w0 (A * R) w')) := by
  replace hS := hS.noblks
  refine enterF (args := [_, _]) Try.func62 rfl Try.ntmps62 rfl rfl ?_
  refine F_seq ?_
  refine F_region (p := ⟨_, [0, 0], []⟩) rfl [0, 1] rfl ?_
  refine O_assign rfl rfl rfl rfl rfl ?_
  refine O_assign rfl rfl rfl rfl rfl ?_
  refine R_nil ?_
  refine tn ?_
  refine F_seq ?_
  refine F_region (p := ⟨_, [0], []⟩) rfl [0] rfl ?_
  refine O_assign rfl rfl rfl rfl rfl ?_
  refine R_nil ?_
  refine tn ?_
  refine F_seq ?_
  refine F_block ?_
  refine F_loopL (α := (Src)) (σ := (Unit)) (Q) [(0, _), (1, _), (4, _), (5, _)] (fun (pre : List (Src)) (st : Unit) => [(6, (.int .i64 (pre.length : Nat)))]) (fun (pre : List (Src)) (st : Unit) => hemp) (fun (pre : List (Src)) (st : Unit) => ∀ x ∈ pre, O_S.lt x.name name = true) () (Sup.app ⟨rfl, rfl, rfl, rfl, trivial⟩ ⟨rfl, trivial⟩) (hS.to (hemp_star _).symm) (by simp) ?_ ?_
  · clear hS
    intro st w hI hS
    replace hS := hS.to (hemp_star _)
    refine wpF.sup (L := [(0, _), (1, _), (4, _), (5, _), (6, _)]) ?_ ⟨rfl, rfl, rfl, rfl, rfl, trivial⟩
    refine F_seq ?_
    refine F_seq ?_
    refine F_region (p := ⟨_, [0, 0, 0, 0, 0, 0, 0, 0, 0, 1, 0, 2, 0, 0], []⟩) rfl [0, 1, 2, 3, 4, 5, 6, 7, 8, 9, 10, 11, 12, 13] rfl ?_
    refine O_move rfl rfl rfl rfl rfl ?_
    refine O_move rfl rfl rfl rfl rfl ?_
    refine O_lenSl rfl rfl rfl rfl rfl Try.runUnderlying57 ?_
    refine O_cmp rfl rfl rfl rfl rfl rfl rfl ?_
    refine O_move rfl rfl rfl rfl rfl ?_
    refine R_caseF (t := 11) rfl (decide_eq_false (by omega)) ?_
    refine R_skip rfl rfl rfl rfl ?_
    refine R_skip rfl rfl rfl rfl ?_
    refine R_skip rfl rfl rfl rfl ?_
    refine R_skip rfl rfl rfl rfl ?_
    refine R_skip rfl rfl rfl rfl ?_
    refine R_skip rfl rfl rfl rfl ?_
    refine R_skip rfl rfl rfl rfl ?_
    refine R_skip rfl rfl rfl rfl ?_
    refine O_pickF rfl rfl rfl rfl rfl rfl ?_
    refine R_nil ?_
    refine tn ?_
    refine F_false rfl rfl ?_
    refine F_exit ?_
    refine tx ?_
    refine tx ?_
    refine Go.Sl.bx rfl ?_
    refine tn ?_
    refine F_seq ?_
    refine F_drawnS hS (by kernel_rfl) (p := ⟨_, [0, 0, 0, 0, 0, 0, 0, 0, 0, 0, 1, 0, 0, 0, 0, 0], []⟩) rfl (.ofList [0, 1, 2, 3, 4, 5, 6, 7, 8, 9, 10, 11, 12, 13, 14, 15]) (by kernel_rfl) ?_
    intro w hS
    refine O_move rfl rfl rfl rfl rfl ?_
    refine O_move rfl rfl rfl rfl rfl ?_
    refine O_move rfl rfl rfl rfl rfl ?_
    refine O_lenSl rfl rfl rfl rfl rfl Try.runUnderlying57 ?_
    refine O_cmp rfl rfl rfl rfl rfl rfl rfl ?_
    refine O_move rfl rfl rfl rfl rfl ?_
    refine R_caseF (t := 28) rfl (decide_eq_false (by omega)) ?_
    refine R_skip rfl rfl rfl rfl ?_
    refine R_skip rfl rfl rfl rfl ?_
    refine R_skip rfl rfl rfl rfl ?_
    refine R_skip rfl rfl rfl rfl ?_
    refine R_skip rfl rfl rfl rfl ?_
    refine R_skip rfl rfl rfl rfl ?_
    refine R_skip rfl rfl rfl rfl ?_
    refine O_pickF rfl rfl rfl rfl rfl rfl ?_
    refine O_assign rfl rfl rfl rfl rfl ?_
    refine O_assign rfl rfl rfl rfl rfl ?_
    refine R_nil ?_
    refine tn ?_
    refine F_ret ?_
    show endF _ _ _ _ _ _
    refine end0 trivial rfl rfl rfl hS ?_
    intro w hS
    replace hS := (hS).drop
    exact .inr ⟨Q, [], by simp, hI, (fun y r h => by cases h), rfl, hS⟩
  · clear hS
    intro pre x post st w hx hI hS
    replace hS := hS.to (hemp_star _)
    refine wpF.sup (L := [(0, _), (1, _), (4, _), (5, _), (6, _)]) ?_ ⟨rfl, rfl, rfl, rfl, rfl, trivial⟩
    have hlx : pre.length + (post.length + 1) = Q.length := by rw [hx]; simp
    refine F_seq ?_
    refine F_seq ?_
    refine F_region (p := ⟨_, [0, 0, 0, 0, 0, 0, 0, 0, 0, 1, 0, 2, 0, 0], []⟩) rfl [0, 1, 2, 3, 4, 5, 6, 7, 8, 9, 10, 11, 12, 13] rfl ?_
    refine O_move rfl rfl rfl rfl rfl ?_
    refine O_move rfl rfl rfl rfl rfl ?_
    refine O_lenSl rfl rfl rfl rfl rfl Try.runUnderlying57 ?_
    refine O_cmp rfl rfl rfl rfl rfl rfl rfl ?_
    refine O_move rfl rfl rfl rfl rfl ?_
    refine R_caseT (t := 11) rfl (decide_eq_true (by omega)) ?_
    refine O_move rfl rfl rfl rfl rfl ?_
    refine O_move rfl rfl rfl rfl rfl ?_
    obtain ⟨ebq1, eoq1, hadq1⟩ := Rds.adF (m := pre.length) (x := x) (enc := srcE) (size := 3) (fun _ => rfl) (by decide) (hA.1) (hS.u2) (by rw [hx]; simp)
    refine O_indexSlE (m := pre.length) rfl rfl rfl rfl Try.runUnderlying57 Try.sizeOf69 rfl hadq1 rfl rfl (by omega) ?_
    refine O_fieldAddr rfl rfl rfl rfl rfl Try.runUnderlying69 rfl Try.sizeOf9 ?_
    refine O_load rfl rfl rfl rfl rfl Try.isAgg9 (RdW.at (Rds.row (m := pre.length) (x := x) (enc := srcE) (size := 3) (fun _ => rfl) (by decide) (hA.1) (hS.u2) hadq1 (by rw [hx]; simp)) rfl) (by trivial) ?_
    refine O_move rfl rfl rfl rfl rfl ?_
    refine O_call rfl rfl rfl rfl Try.call61 rfl (texts x.name name hb (hS)) (fun _ _ hv => trivial) ?_
    rintro _ w ⟨rfl, hS⟩
    refine O_cmp rfl rfl rfl rfl rfl rfl rfl ?_
    refine O_pickT rfl rfl rfl rfl rfl rfl ?_
    refine R_nil ?_
    refine tn ?_
    refine F_cond rfl (fun ht20 => ?_) (fun ht20 => ?_)
    · try simp only [decide_eq_true_eq, decide_eq_false_iff_not, Bool.not_eq_true', Bool.not_eq_false', Bool.not_true, Bool.not_false, Option.isNone_iff_eq_none, Bool.false_eq_true, Bool.true_eq_false] at ht20
      refine F_skip ?_
      refine tn ?_
      refine F_block ?_
      refine F_region (p := ⟨_, [0, 0, 0], []⟩) rfl [0, 1, 2] rfl ?_
      refine O_move rfl rfl rfl rfl rfl ?_
      refine O_addN rfl rfl rfl rfl rfl rfl (by first | omega | (dsimp only; omega)) ?_
      refine O_assign rfl rfl rfl rfl rfl ?_
      refine R_nil ?_
      refine bn ?_
      replace hS := hS.u2.u2
      refine tn ⟨rfl, rfl, (), Sup.app ⟨rfl, rfl, rfl, rfl, trivial⟩ ⟨congrArg (fun z : Nat => some (Value.int .i64 z)) (show pre.length + 1 = (pre ++ [x]).length by simp), trivial⟩, (by intro y hy; rcases List.mem_append.1 hy with h | h; (exact hI y h); (rw [List.mem_singleton.1 h]; exact lt_S ht20)), hS.to (hemp_star _).symm⟩
    · try simp only [decide_eq_true_eq, decide_eq_false_iff_not, Bool.not_eq_true', Bool.not_eq_false', Bool.not_true, Bool.not_false, Option.isNone_iff_eq_none, Bool.false_eq_true, Bool.true_eq_false] at ht20
      refine F_exit ?_
      refine tx ?_
      refine tx ?_
      refine Go.Sl.bx rfl ?_
      refine tn ?_
      refine F_seq ?_
      refine F_drawnS hS (by kernel_rfl) (p := ⟨_, [0, 0, 0, 0, 0, 0, 0, 0, 0, 0, 1, 0, 0, 0, 0, 0], []⟩) rfl (.ofList [0, 1, 2, 3, 4, 5, 6, 7, 8, 9, 10, 11, 12, 13, 14, 15]) (by kernel_rfl) ?_
      intro w hS
      refine O_move rfl rfl rfl rfl rfl ?_
      refine O_move rfl rfl rfl rfl rfl ?_
      refine O_move rfl rfl rfl rfl rfl ?_
      refine O_lenSl rfl rfl rfl rfl rfl Try.runUnderlying57 ?_
      refine O_cmp rfl rfl rfl rfl rfl rfl rfl ?_
      refine O_move rfl rfl rfl rfl rfl ?_
      refine R_caseT (t := 28) rfl (decide_eq_true (by omega)) ?_
      refine O_move rfl rfl rfl rfl rfl ?_
      refine O_move rfl rfl rfl rfl rfl ?_
      obtain ⟨ebq2, eoq2, hadq2⟩ := Rds.adF (m := pre.length) (x := x) (enc := srcE) (size := 3) (fun _ => rfl) (by decide) (hA.1) (hS.u2) (by rw [hx]; simp)
      refine O_indexSlE (m := pre.length) rfl rfl rfl rfl Try.runUnderlying57 Try.sizeOf69 rfl hadq2 rfl rfl (by omega) ?_
      refine O_fieldAddr rfl rfl rfl rfl rfl Try.runUnderlying69 rfl Try.sizeOf9 ?_
      refine O_load rfl rfl rfl rfl rfl Try.isAgg9 (RdW.at (Rds.row (m := pre.length) (x := x) (enc := srcE) (size := 3) (fun _ => rfl) (by decide) (hA.1) (hS.u2) hadq2 (by rw [hx]; simp)) rfl) (by trivial) ?_
      refine O_move rfl rfl rfl rfl rfl ?_
      refine O_cmpStr rfl rfl rfl rfl rfl rfl rfl ?_
      refine O_pickT rfl rfl rfl rfl rfl rfl ?_
      refine O_assign rfl rfl rfl rfl rfl ?_
      refine O_assign rfl rfl rfl rfl rfl ?_
      refine R_nil ?_
      refine tn ?_
      refine F_ret ?_
      show endF _ _ _ _ _ _
      refine end0 trivial rfl rfl rfl hS ?_
      intro w hS
      replace hS := (hS).drop
      by_cases hn : x.name = name
      · refine .inl ⟨pre, x, post, hx, hI, hn, ?_, hS⟩
        show oneRes [.int .i64 (pre.length : Nat), .bool (decide (x.name = name))] = _
        rw [decide_eq_true hn]; rfl
      · refine .inr ⟨pre, x :: post, hx, hI, (fun y r h => by cases h; exact gt_S ht20 hn), ?_, hS⟩
        show oneRes [.int .i64 (pre.length : Nat), .bool (decide (x.name = name))] = _
        rw [decide_eq_false hn]; rfl
theorem rCan {w0 w : World} {R A : HProp} {ad : Option Addr} {c : Nat} {Q : List Src} (hA : RdSrc A ad Q) (hl : Q.length ≤ 1000000) (hl2 : ∀ x ∈ Q, x.seqs.length ≤ 100000) (name : ByteArray) (hb : name.size ≤ 9223372036854775807) (seq : Int) (hS : Sat w0 (A * R) w) :
    Calls Try.prog 50 #[.slice ad Q.length c, .string name, .int .i64 seq] w (ret fun u w' => u = .int .i64 (canL name seq O_ii (Q.map Src.tell)) ∧ Sat w0 (A * R) w') := by
  replace hS := hS.noblks
  refine enterF (args := [_, _, _]) Try.func50 rfl Try.ntmps50 rfl rfl ?_
  refine F_seq ?_
  refine F_region (p := ⟨_, [0], []⟩) rfl [0] rfl ?_
  refine O_assign rfl rfl rfl rfl rfl ?_
  refine R_nil ?_
  refine tn ?_
  refine F_seq ?_
  refine F_region (p := ⟨_, [0, 0, 2, 0, 0, 0, 0, 0], []⟩) rfl [0, 1, 2, 3, 4, 5, 6, 7] rfl ?_
  refine O_move rfl rfl rfl rfl rfl ?_
  refine O_move rfl rfl rfl rfl rfl ?_
  refine O_call rfl rfl rfl rfl Try.call62 rfl (rFind hA hl name hb (hS.u2)) (fun _ _ hv => trivial) ?_
  rintro _ w (⟨pre, y, q, hx, hp, hn, rfl, hS⟩ | ⟨pre, q, hx, hp, hn, rfl, hS⟩)
  · have hg : Go.Sl.get O_S name (Q.map Src.tell) = some (y.floor, y.seqs) := by rw [hx, ← hn, List.map_append, List.map_cons]; exact get_there (by intro z hz; obtain ⟨z0, hz0, rfl⟩ := List.mem_map.1 hz; rw [hn]; exact hp z0 hz0)
    have hv : canL name seq O_ii (Q.map Src.tell) = if seq ≤ y.floor ∨ 0 < cntR O_ii seq y.seqs then 13 else 0 := by unfold canL; rw [hg]
    have hlx : pre.length + (q.length + 1) = Q.length := by rw [hx]; simp
    obtain ⟨ad2, c2, hyv, hle2, hcm2, hni2, hA2⟩ := hA.2 y (by rw [hx]; simp)
    have hly := hl2 y (by rw [hx]; simp)
    replace hS := hS.u2
    refine O_move rfl rfl rfl rfl rfl ?_
    refine O_extract rfl rfl rfl rfl rfl rfl ?_
    refine O_extract rfl rfl rfl rfl rfl rfl ?_
    refine O_assign rfl rfl rfl rfl rfl ?_
    refine O_assign rfl rfl rfl rfl rfl ?_
    refine R_nil ?_
    refine tn ?_
    refine F_seq ?_
    refine F_seq ?_
    refine F_region (p := ⟨_, [0, 0, 0, 0, 0, 0, 0, 1, 0, 0, 0, 0, 0, 0, 1, 0, 2, 0, 0, 0], []⟩) rfl [0, 1, 2, 3, 4, 5, 6, 7, 8, 9, 10, 11, 12, 13, 14, 15, 16, 17, 18, 19] rfl ?_
    refine O_move rfl rfl rfl rfl rfl ?_
    refine O_move rfl rfl rfl rfl rfl ?_
    refine O_move rfl rfl rfl rfl rfl ?_
    refine O_move rfl rfl rfl rfl rfl ?_
    refine O_move rfl rfl rfl rfl rfl ?_
    obtain ⟨ebq1, eoq1, hadq1⟩ := Rds.adF (m := pre.length) (x := y) (enc := srcE) (size := 3) (fun _ => rfl) (by decide) (hA.1) (hS.u2) (by rw [hx]; simp)
    refine O_indexSlE (m := pre.length) rfl rfl rfl rfl Try.runUnderlying57 Try.sizeOf69 rfl hadq1 rfl rfl (by omega) ?_
    refine O_fieldAddr rfl rfl rfl rfl rfl Try.runUnderlying69 rfl Try.sizeOf3 ?_
    refine O_load rfl rfl rfl rfl rfl Try.isAgg3 (RdW.at (Rds.row (m := pre.length) (x := y) (enc := srcE) (size := 3) (fun _ => rfl) (by decide) (hA.1) (hS.u2) hadq1 (by rw [hx]; simp)) rfl) (by trivial) ?_
    refine O_cmp rfl rfl rfl rfl rfl rfl rfl ?_
    refine O_move rfl rfl rfl rfl rfl ?_
    refine R_case (t := 24) rfl (fun ht24 => ?_) (fun ht24 => ?_)
    · try simp only [decide_eq_true_eq, decide_eq_false_iff_not, Bool.not_eq_true', Bool.not_eq_false', Bool.not_true, Bool.not_false, Option.isNone_iff_eq_none, Bool.false_eq_true, Bool.true_eq_false] at ht24
      refine R_skip rfl rfl rfl rfl ?_
      refine R_skip rfl rfl rfl rfl ?_
      refine R_skip rfl rfl rfl rfl ?_
      refine R_skip rfl rfl rfl rfl ?_
      refine R_skip rfl rfl rfl rfl ?_
      refine R_skip rfl rfl rfl rfl ?_
      refine R_skip rfl rfl rfl rfl ?_
      refine R_skip rfl rfl rfl rfl ?_
      refine O_pickT rfl rfl rfl rfl rfl rfl ?_
      refine O_pickT rfl rfl rfl rfl rfl rfl ?_
      refine R_nil ?_
      refine tn ?_
      refine F_true rfl rfl ?_
      refine F_seq ?_
      refine F_region (p := ⟨_, [0], []⟩) rfl [0] rfl ?_
      refine O_assign rfl rfl rfl rfl rfl ?_
      refine R_nil ?_
      refine tn ?_
      refine F_ret ?_
      refine tr ?_
      show endF _ _ _ _ _ _
      refine end0 trivial rfl rfl rfl hS ?_
      intro w hS
      replace hS := (hS).drop
      refine ⟨congrArg (Value.int .i64) ?_, hS⟩
      rw [hv]
      first | (rw [if_pos (by omega)]) | (rw [if_neg (by omega)])
    · try simp only [decide_eq_true_eq, decide_eq_false_iff_not, Bool.not_eq_true', Bool.not_eq_false', Bool.not_true, Bool.not_false, Option.isNone_iff_eq_none, Bool.false_eq_true, Bool.true_eq_false] at ht24
      refine O_move rfl rfl rfl rfl rfl ?_
      refine O_move rfl rfl rfl rfl rfl ?_
      obtain ⟨ebq2, eoq2, hadq2⟩ := Rds.adF (m := pre.length) (x := y) (enc := srcE) (size := 3) (fun _ => rfl) (by decide) (hA.1) (hS.u2) (by rw [hx]; simp)
      refine O_indexSlE (m := pre.length) rfl rfl rfl rfl Try.runUnderlying57 Try.sizeOf69 rfl hadq2 rfl rfl (by omega) ?_
      refine O_fieldAddr rfl rfl rfl rfl rfl Try.runUnderlying69 rfl Try.sizeOf28 ?_
      refine O_load rfl rfl rfl rfl rfl Try.isAgg28 (RdW.at (Rds.row (m := pre.length) (x := y) (enc := srcE) (size := 3) (fun _ => rfl) (by decide) (hA.1) (hS.u2) hadq2 (by rw [hx]; simp)) rfl) (by trivial) ?_
      refine O_move rfl rfl rfl rfl rfl ?_
      rw [hyv]
      refine O_call rfl rfl rfl rfl Try.call12 rfl (rMany_ii hA2 rfl hly seq (hS.u2)) (fun _ _ hv => trivial) ?_
      rintro _ w ⟨rfl, hS⟩
      replace hS := hS.u2
      refine O_cmp rfl rfl rfl rfl rfl rfl rfl ?_
      refine O_pickF rfl rfl rfl rfl rfl rfl ?_
      refine O_pickT rfl rfl rfl rfl rfl rfl ?_
      refine R_nil ?_
      refine tn ?_
      refine F_cond rfl (fun ht34 => ?_) (fun ht34 => ?_)
      · try simp only [decide_eq_true_eq, decide_eq_false_iff_not, Bool.not_eq_true', Bool.not_eq_false', Bool.not_true, Bool.not_false, Option.isNone_iff_eq_none, Bool.false_eq_true, Bool.true_eq_false] at ht34
        refine F_seq ?_
        refine F_region (p := ⟨_, [0], []⟩) rfl [0] rfl ?_
        refine O_assign rfl rfl rfl rfl rfl ?_
        refine R_nil ?_
        refine tn ?_
        refine F_ret ?_
        refine tr ?_
        show endF _ _ _ _ _ _
        refine end0 trivial rfl rfl rfl hS ?_
        intro w hS
        replace hS := (hS).drop
        refine ⟨congrArg (Value.int .i64) ?_, hS⟩
        rw [hv]
        first | (rw [if_pos (by omega)]) | (rw [if_neg (by omega)])
      · try simp only [decide_eq_true_eq, decide_eq_false_iff_not, Bool.not_eq_true', Bool.not_eq_false', Bool.not_true, Bool.not_false, Option.isNone_iff_eq_none, Bool.false_eq_true, Bool.true_eq_false] at ht34
        refine F_skip ?_
        refine tn ?_
        refine F_seq ?_
        refine F_seq ?_
        refine F_region (p := ⟨_, [0, 0, 0, 0, 0, 0, 0], []⟩) rfl [0, 1, 2, 3, 4, 5, 6] rfl ?_
        refine O_move rfl rfl rfl rfl rfl ?_
        refine O_not rfl rfl rfl rfl rfl ?_
        refine O_move rfl rfl rfl rfl rfl ?_
        refine R_skip rfl rfl rfl rfl ?_
        refine R_skip rfl rfl rfl rfl ?_
        refine R_skip rfl rfl rfl rfl ?_
        refine O_pickF rfl rfl rfl rfl rfl rfl ?_
        refine R_nil ?_
        refine tn ?_
        refine F_false rfl rfl ?_
        refine F_skip ?_
        refine tn ?_
        refine F_seq ?_
        refine F_region (p := ⟨_, [0], []⟩) rfl [0] rfl ?_
        refine O_assign rfl rfl rfl rfl rfl ?_
        refine R_nil ?_
        refine tn ?_
        refine F_ret ?_
        show endF _ _ _ _ _ _
        refine end0 trivial rfl rfl rfl hS ?_
        intro w hS
        replace hS := (hS).drop
        refine ⟨congrArg (Value.int .i64) ?_, hS⟩
        rw [hv]
        first | (rw [if_pos (by omega)]) | (rw [if_neg (by omega)])
  · have hg : Go.Sl.get O_S name (Q.map Src.tell) = none := by rw [hx, List.map_append]; exact get_gone (by intro z hz; obtain ⟨z0, hz0, rfl⟩ := List.mem_map.1 hz; exact hp z0 hz0) (by intro z r hz; cases q with | nil => cases hz | cons y r2 => simp only [List.map_cons, List.cons.injEq] at hz; rw [← hz.1]; exact hn y r2 rfl)
    have hv : canL name seq O_ii (Q.map Src.tell) = if 8 ≤ (Q.length : Int) then 16 else 0 := by unfold canL; rw [hg, List.length_map]
    replace hS := hS.u2
    refine O_move rfl rfl rfl rfl rfl ?_
    refine O_extract rfl rfl rfl rfl rfl rfl ?_
    refine O_extract rfl rfl rfl rfl rfl rfl ?_
    refine O_assign rfl rfl rfl rfl rfl ?_
    refine O_assign rfl rfl rfl rfl rfl ?_
    refine R_nil ?_
    refine tn ?_
    refine F_seq ?_
    refine F_seq ?_
    refine F_region (p := ⟨_, [0, 0, 0, 0, 0, 0, 0, 1, 0, 0, 0, 0, 0, 0, 1, 0, 2, 0, 0, 0], []⟩) rfl [0, 1, 2, 3, 4, 5, 6, 7, 8, 9, 10, 11, 12, 13, 14, 15, 16, 17, 18, 19] rfl ?_
    refine O_move rfl rfl rfl rfl rfl ?_
    refine O_move rfl rfl rfl rfl rfl ?_
    refine R_skip rfl rfl rfl rfl ?_
    refine R_skip rfl rfl rfl rfl ?_
    refine R_skip rfl rfl rfl rfl ?_
    refine R_skip rfl rfl rfl rfl ?_
    refine R_skip rfl rfl rfl rfl ?_
    refine R_skip rfl rfl rfl rfl ?_
    refine R_skip rfl rfl rfl rfl ?_
    refine R_skip rfl rfl rfl rfl ?_
    refine R_skip rfl rfl rfl rfl ?_
    refine R_skip rfl rfl rfl rfl ?_
    refine R_skip rfl rfl rfl rfl ?_
    refine R_skip rfl rfl rfl rfl ?_
    refine R_skip rfl rfl rfl rfl ?_
    refine R_skip rfl rfl rfl rfl ?_
    refine R_skip rfl rfl rfl rfl ?_
    refine R_skip rfl rfl rfl rfl ?_
    refine R_skip rfl rfl rfl rfl ?_
    refine O_pickF rfl rfl rfl rfl rfl rfl ?_
    refine R_nil ?_
    refine tn ?_
    refine F_false rfl rfl ?_
    refine F_skip ?_
    refine tn ?_
    refine F_seq ?_
    refine F_seq ?_
    refine F_region (p := ⟨_, [0, 0, 0, 0, 0, 0, 0], []⟩) rfl [0, 1, 2, 3, 4, 5, 6] rfl ?_
    refine O_move rfl rfl rfl rfl rfl ?_
    refine O_not rfl rfl rfl rfl rfl ?_
    refine O_move rfl rfl rfl rfl rfl ?_
    refine O_move rfl rfl rfl rfl rfl ?_
    refine O_lenSl rfl rfl rfl rfl rfl Try.runUnderlying57 ?_
    refine O_cmp rfl rfl rfl rfl rfl rfl rfl ?_
    refine O_pickT rfl rfl rfl rfl rfl rfl ?_
    refine R_nil ?_
    refine tn ?_
    refine F_cond rfl (fun ht41 => ?_) (fun ht41 => ?_)
    · try simp only [decide_eq_true_eq, decide_eq_false_iff_not, Bool.not_eq_true', Bool.not_eq_false', Bool.not_true, Bool.not_false, Option.isNone_iff_eq_none, Bool.false_eq_true, Bool.true_eq_false] at ht41
      refine F_seq ?_
      refine F_region (p := ⟨_, [0], []⟩) rfl [0] rfl ?_
      refine O_assign rfl rfl rfl rfl rfl ?_
      refine R_nil ?_
      refine tn ?_
      refine F_ret ?_
      refine tr ?_
      show endF _ _ _ _ _ _
      refine end0 trivial rfl rfl rfl hS ?_
      intro w hS
      replace hS := (hS).drop
      refine ⟨congrArg (Value.int .i64) ?_, hS⟩
      rw [hv]
      first | (rw [if_pos (by omega)]) | (rw [if_neg (by omega)])
    · try simp only [decide_eq_true_eq, decide_eq_false_iff_not, Bool.not_eq_true', Bool.not_eq_false', Bool.not_true, Bool.not_false, Option.isNone_iff_eq_none, Bool.false_eq_true, Bool.true_eq_false] at ht41
      refine F_skip ?_
      refine tn ?_
      refine F_seq ?_
      refine F_region (p := ⟨_, [0], []⟩) rfl [0] rfl ?_
      refine O_assign rfl rfl rfl rfl rfl ?_
      refine R_nil ?_
      refine tn ?_
      refine F_ret ?_
      show endF _ _ _ _ _ _
      refine end0 trivial rfl rfl rfl hS ?_
      intro w hS
      replace hS := (hS).drop
      refine ⟨congrArg (Value.int .i64) ?_, hS⟩
      rw [hv]
      first | (rw [if_pos (by omega)]) | (rw [if_neg (by omega)])
end Go.Proofs.Ytpnigaoibhogfaa
