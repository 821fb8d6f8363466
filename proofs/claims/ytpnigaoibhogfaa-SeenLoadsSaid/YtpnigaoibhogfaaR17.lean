/- YtpnigaoibhogfaaR17: a part of the proof: walks over the translated code, and plain facts on lists beside. -/
import Derived.Test.YtpnigaoibhogfaaR16
import Derived.Test.YtpnigaoibhogfaaSlX3
set_option linter.all false
namespace Go.Proofs.Ytpnigaoibhogfaa
open Go Go.RowKit Go.Sl
set_option linter.unusedVariables false
theorem rSame {w0 w : World} {R A : HProp} {ad1 ad2 : Option Addr} {c1 c2 : Nat} {Q1 Q2 : List Src} (hA : RdSrc A ad1 Q1) (hB : RdSrc A ad2 Q2) (hQ : Q1.map Src.tell = Q2.map Src.tell) (hl : Q1.length ≤ 1000000) (hl2 : ∀ x ∈ Q1, x.seqs.length ≤ 100000) (hS : Sat w0 (A * R) w) :
    Calls Try.prog 29 #[.slice ad1 Q1.length c1, .slice ad2 Q2.length c2] w (ret fun u w' => u = .bool true ∧ Sat w0 (A * R) w') := by
  have hlen : Q1.length = Q2.length := by have := congrArg List.length hQ; simpa using this
  replace hS := hS.noblks
  refine enterF (args := [_, _]) Try.func29 rfl Try.ntmps29 rfl rfl ?_
  refine F_seq ?_
  refine F_region (p := ⟨_, [0], []⟩) rfl [0] rfl ?_
  refine O_assign rfl rfl rfl rfl rfl ?_
  refine R_nil ?_
  refine tn ?_
  refine F_seq ?_
  refine F_seq ?_
  refine F_region (p := ⟨_, [0, 0, 0, 0, 0], []⟩) rfl [0, 1, 2, 3, 4] rfl ?_
  refine O_move rfl rfl rfl rfl rfl ?_
  refine O_lenSl rfl rfl rfl rfl rfl Try.runUnderlying57 ?_
  refine O_move rfl rfl rfl rfl rfl ?_
  refine O_lenSl rfl rfl rfl rfl rfl Try.runUnderlying57 ?_
  refine O_cmp rfl rfl rfl rfl rfl rfl rfl ?_
  refine R_nil ?_
  refine tn ?_
  refine F_false rfl (by simp [hlen]) ?_
  refine F_skip ?_
  refine tn ?_
  refine F_seq ?_
  refine F_seq ?_
  refine F_region (p := ⟨_, [0, 0, 0], []⟩) rfl [0, 1, 2] rfl ?_
  refine O_move rfl rfl rfl rfl rfl ?_
  refine O_lenSl rfl rfl rfl rfl rfl Try.runUnderlying57 ?_
  refine O_move rfl rfl rfl rfl rfl ?_
  refine R_nil ?_
  refine tn ?_
  refine F_block ?_
  refine F_loopL (α := (Src)) (σ := (Unit)) (Q1) [(0, _), (1, _), (13, _)] (fun (pre : List (Src)) (st : Unit) => [(14, (.int .i64 (pre.length : Nat)))]) (fun (pre : List (Src)) (st : Unit) => hemp) (fun (pre : List (Src)) (st : Unit) => True) () (Sup.app ⟨rfl, rfl, rfl, trivial⟩ ⟨rfl, trivial⟩) (hS.to (hemp_star _).symm) trivial ?_ ?_
  · clear hS
    intro st w hI hS
    replace hS := hS.to (hemp_star _)
    refine wpF.sup (L := [(0, _), (1, _), (13, _), (14, _)]) ?_ ⟨rfl, rfl, rfl, rfl, trivial⟩
    refine F_seq ?_
    refine F_region (p := ⟨_, [0], []⟩) rfl [0] rfl ?_
    refine O_cmp rfl rfl rfl rfl rfl rfl rfl ?_
    refine R_nil ?_
    refine tn ?_
    refine F_seq ?_
    refine F_false rfl (decide_eq_false (by omega)) ?_
    refine F_exit ?_
    refine tx ?_
    refine tx ?_
    refine Go.Sl.bx rfl ?_
    refine tn ?_
    refine F_seq ?_
    refine F_region (p := ⟨_, [0], []⟩) rfl [0] rfl ?_
    refine O_assign rfl rfl rfl rfl rfl ?_
    refine R_nil ?_
    refine tn ?_
    refine F_ret ?_
    show endF _ _ _ _ _ _
    refine end0 trivial rfl rfl rfl hS ?_
    intro w hS
    replace hS := (hS).drop
    exact ⟨rfl, hS⟩
  · clear hS
    intro pre x post st w hx hI hS
    replace hS := hS.to (hemp_star _)
    refine wpF.sup (L := [(0, _), (1, _), (13, _), (14, _)]) ?_ ⟨rfl, rfl, rfl, rfl, trivial⟩
    have hlx : pre.length + (post.length + 1) = Q1.length := by rw [hx]; simp
    obtain ⟨y, hy, hn, hf, hsq⟩ := tell_at hQ hx
    have hly := lt_at hy
    obtain ⟨adx, cx, hxv, _, _, _, hxA⟩ := hA.2 x (by rw [hx]; simp)
    obtain ⟨ady, cy, hyv, _, _, _, hyA⟩ := hB.2 y (mem_at hy)
    rw [hsq] at hyv hyA
    have hx2 := hl2 x (by rw [hx]; simp)
    refine F_seq ?_
    refine F_region (p := ⟨_, [0], []⟩) rfl [0] rfl ?_
    refine O_cmp rfl rfl rfl rfl rfl rfl rfl ?_
    refine R_nil ?_
    refine tn ?_
    refine F_seq ?_
    refine F_true rfl (decide_eq_true (by omega)) ?_
    refine F_skip ?_
    refine tn ?_
    refine F_seq ?_
    refine F_block ?_
    refine F_seq ?_
    refine F_region (p := ⟨_, [0, 0], []⟩) rfl [0, 1] rfl ?_
    refine O_move rfl rfl rfl rfl rfl ?_
    refine O_assign rfl rfl rfl rfl rfl ?_
    refine R_nil ?_
    refine tn ?_
    refine F_seq ?_
    refine F_seq ?_
    refine F_drawnS hS (by kernel_rfl) (p := ⟨_, [0, 0, 0, 0, 1, 0, 0, 0, 0, 1, 0, 0, 0, 0, 0, 0, 1, 0, 0, 0, 0, 1, 0, 0, 0, 0, 0, 0, 0, 1, 0, 0, 0, 0, 0, 1, 0, 0, 0], []⟩) rfl (.ofList [0, 1, 2, 3, 4, 5, 6, 7, 8, 9, 10, 11, 12, 13, 14, 15, 16, 17, 18, 19, 20, 21, 22, 23, 24, 25, 26, 27, 28, 29, 30, 31, 32, 33, 34, 35, 36, 37, 38]) (by kernel_rfl) ?_
    intro w hS
    refine O_move rfl rfl rfl rfl rfl ?_
    refine O_move rfl rfl rfl rfl rfl ?_
    obtain ⟨ebq1, eoq1, hadq1⟩ := Rds.adF (m := pre.length) (x := x) (enc := srcE) (size := 3) (fun _ => rfl) (by decide) (hA.1) (hS.u2) (by rw [hx]; simp)
    refine O_indexSlE (m := pre.length) rfl rfl rfl rfl Try.runUnderlying57 Try.sizeOf69 rfl hadq1 rfl rfl (by omega) ?_
    refine O_fieldAddr rfl rfl rfl rfl rfl Try.runUnderlying69 rfl Try.sizeOf9 ?_
    refine O_load rfl rfl rfl rfl rfl Try.isAgg9 (RdW.at (Rds.row (m := pre.length) (x := x) (enc := srcE) (size := 3) (fun _ => rfl) (by decide) (hA.1) (hS.u2) hadq1 (by rw [hx]; simp)) rfl) (by trivial) ?_
    refine O_move rfl rfl rfl rfl rfl ?_
    refine O_move rfl rfl rfl rfl rfl ?_
    obtain ⟨ebq2, eoq2, hadq2⟩ := Rds.adF (m := pre.length) (x := y) (enc := srcE) (size := 3) (fun _ => rfl) (by decide) (hB.1) (hS.u2) hy
    refine O_indexSlE (m := pre.length) rfl rfl rfl rfl Try.runUnderlying57 Try.sizeOf69 rfl hadq2 rfl rfl (by omega) ?_
    refine O_fieldAddr rfl rfl rfl rfl rfl Try.runUnderlying69 rfl Try.sizeOf9 ?_
    refine O_load rfl rfl rfl rfl rfl Try.isAgg9 (RdW.at (Rds.row (m := pre.length) (x := y) (enc := srcE) (size := 3) (fun _ => rfl) (by decide) (hB.1) (hS.u2) hadq2 hy) rfl) (by trivial) ?_
    refine O_cmpStr rfl rfl rfl rfl rfl rfl rfl ?_
    refine O_move rfl rfl rfl rfl rfl ?_
    refine R_caseF (t := 28) rfl (by simp [hn, hf]) ?_
    refine O_move rfl rfl rfl rfl rfl ?_
    refine O_move rfl rfl rfl rfl rfl ?_
    obtain ⟨ebq3, eoq3, hadq3⟩ := Rds.adF (m := pre.length) (x := x) (enc := srcE) (size := 3) (fun _ => rfl) (by decide) (hA.1) (hS.u2) (by rw [hx]; simp)
    refine O_indexSlE (m := pre.length) rfl rfl rfl rfl Try.runUnderlying57 Try.sizeOf69 rfl hadq3 rfl rfl (by omega) ?_
    refine O_fieldAddr rfl rfl rfl rfl rfl Try.runUnderlying69 rfl Try.sizeOf3 ?_
    refine O_load rfl rfl rfl rfl rfl Try.isAgg3 (RdW.at (Rds.row (m := pre.length) (x := x) (enc := srcE) (size := 3) (fun _ => rfl) (by decide) (hA.1) (hS.u2) hadq3 (by rw [hx]; simp)) rfl) (by trivial) ?_
    refine O_move rfl rfl rfl rfl rfl ?_
    refine O_move rfl rfl rfl rfl rfl ?_
    obtain ⟨ebq4, eoq4, hadq4⟩ := Rds.adF (m := pre.length) (x := y) (enc := srcE) (size := 3) (fun _ => rfl) (by decide) (hB.1) (hS.u2) hy
    refine O_indexSlE (m := pre.length) rfl rfl rfl rfl Try.runUnderlying57 Try.sizeOf69 rfl hadq4 rfl rfl (by omega) ?_
    refine O_fieldAddr rfl rfl rfl rfl rfl Try.runUnderlying69 rfl Try.sizeOf3 ?_
    refine O_load rfl rfl rfl rfl rfl Try.isAgg3 (RdW.at (Rds.row (m := pre.length) (x := y) (enc := srcE) (size := 3) (fun _ => rfl) (by decide) (hB.1) (hS.u2) hadq4 hy) rfl) (by trivial) ?_
    refine O_cmp rfl rfl rfl rfl rfl rfl rfl ?_
    refine O_pickF rfl rfl rfl rfl rfl rfl ?_
    refine O_move rfl rfl rfl rfl rfl ?_
    refine R_caseF (t := 41) rfl (by simp [hn, hf]) ?_
    refine O_move rfl rfl rfl rfl rfl ?_
    refine O_move rfl rfl rfl rfl rfl ?_
    obtain ⟨ebq5, eoq5, hadq5⟩ := Rds.adF (m := pre.length) (x := x) (enc := srcE) (size := 3) (fun _ => rfl) (by decide) (hA.1) (hS.u2) (by rw [hx]; simp)
    refine O_indexSlE (m := pre.length) rfl rfl rfl rfl Try.runUnderlying57 Try.sizeOf69 rfl hadq5 rfl rfl (by omega) ?_
    refine O_fieldAddr rfl rfl rfl rfl rfl Try.runUnderlying69 rfl Try.sizeOf28 ?_
    refine O_load rfl rfl rfl rfl rfl Try.isAgg28 (RdW.at (Rds.row (m := pre.length) (x := x) (enc := srcE) (size := 3) (fun _ => rfl) (by decide) (hA.1) (hS.u2) hadq5 (by rw [hx]; simp)) rfl) (by trivial) ?_
    rw [hxv]
    refine O_lenSl rfl rfl rfl rfl rfl Try.runUnderlying28 ?_
    refine O_move rfl rfl rfl rfl rfl ?_
    refine O_move rfl rfl rfl rfl rfl ?_
    obtain ⟨ebq6, eoq6, hadq6⟩ := Rds.adF (m := pre.length) (x := y) (enc := srcE) (size := 3) (fun _ => rfl) (by decide) (hB.1) (hS.u2) hy
    refine O_indexSlE (m := pre.length) rfl rfl rfl rfl Try.runUnderlying57 Try.sizeOf69 rfl hadq6 rfl rfl (by omega) ?_
    refine O_fieldAddr rfl rfl rfl rfl rfl Try.runUnderlying69 rfl Try.sizeOf28 ?_
    refine O_load rfl rfl rfl rfl rfl Try.isAgg28 (RdW.at (Rds.row (m := pre.length) (x := y) (enc := srcE) (size := 3) (fun _ => rfl) (by decide) (hB.1) (hS.u2) hadq6 hy) rfl) (by trivial) ?_
    rw [hyv]
    refine O_lenSl rfl rfl rfl rfl rfl Try.runUnderlying28 ?_
    refine O_cmp rfl rfl rfl rfl rfl rfl rfl ?_
    refine O_pickF rfl rfl rfl rfl rfl rfl ?_
    refine R_nil ?_
    refine tn ?_
    refine F_false rfl (by simp [hn, hf]) ?_
    refine F_skip ?_
    refine tn ?_
    refine F_seq ?_
    refine F_region (p := ⟨_, [0, 0, 0, 0, 1, 0, 0], []⟩) rfl [0, 1, 2, 3, 4, 5, 6] rfl ?_
    refine O_move rfl rfl rfl rfl rfl ?_
    refine O_move rfl rfl rfl rfl rfl ?_
    obtain ⟨ebq7, eoq7, hadq7⟩ := Rds.adF (m := pre.length) (x := x) (enc := srcE) (size := 3) (fun _ => rfl) (by decide) (hA.1) (hS.u2) (by rw [hx]; simp)
    refine O_indexSlE (m := pre.length) rfl rfl rfl rfl Try.runUnderlying57 Try.sizeOf69 rfl hadq7 rfl rfl (by omega) ?_
    refine O_fieldAddr rfl rfl rfl rfl rfl Try.runUnderlying69 rfl Try.sizeOf28 ?_
    refine O_load rfl rfl rfl rfl rfl Try.isAgg28 (RdW.at (Rds.row (m := pre.length) (x := x) (enc := srcE) (size := 3) (fun _ => rfl) (by decide) (hA.1) (hS.u2) hadq7 (by rw [hx]; simp)) rfl) (by trivial) ?_
    rw [hxv]
    refine O_lenSl rfl rfl rfl rfl rfl Try.runUnderlying28 ?_
    refine O_move rfl rfl rfl rfl rfl ?_
    refine R_nil ?_
    refine tn ?_
    refine F_block ?_
    refine F_loopL (α := (Int)) (σ := (Unit)) (x.seqs) [(0, _), (1, _), (5, _), (13, _), (14, _), (61, _)] (fun (pre2 : List (Int)) (st2 : Unit) => [(62, (.int .i64 (pre2.length : Nat)))]) (fun (pre2 : List (Int)) (st2 : Unit) => hemp) (fun (pre2 : List (Int)) (st2 : Unit) => True) () (Sup.app ⟨rfl, rfl, rfl, rfl, rfl, rfl, trivial⟩ ⟨rfl, trivial⟩) (hS.to (hemp_star _).symm) trivial ?_ ?_
    · clear hS
      intro st2 w hI hS
      replace hS := hS.to (hemp_star _)
      refine wpF.sup (L := [(0, _), (1, _), (5, _), (13, _), (14, _), (61, _), (62, _)]) ?_ ⟨rfl, rfl, rfl, rfl, rfl, rfl, rfl, trivial⟩
      refine F_seq ?_
      refine F_region (p := ⟨_, [0], []⟩) rfl [0] rfl ?_
      refine O_cmp rfl rfl rfl rfl rfl rfl rfl ?_
      refine R_nil ?_
      refine tn ?_
      refine F_seq ?_
      refine F_false rfl (decide_eq_false (by omega)) ?_
      refine F_exit ?_
      refine tx ?_
      refine tx ?_
      refine Go.Sl.bx rfl ?_
      refine bn ?_
      refine tn ?_
      refine F_region (p := ⟨_, [0, 0], []⟩) rfl [0, 1] rfl ?_
      refine O_addN rfl rfl rfl rfl rfl rfl (by first | omega | (dsimp only; omega)) ?_
      refine O_move rfl rfl rfl rfl rfl ?_
      refine R_nil ?_
      replace hS := hS.u2.u2
      refine tn ⟨rfl, rfl, (), Sup.app ⟨rfl, rfl, rfl, trivial⟩ ⟨congrArg (fun z : Nat => some (Value.int .i64 z)) (show pre.length + 1 = (pre ++ [x]).length by simp), trivial⟩, trivial, hS.to (hemp_star _).symm⟩
    · clear hS
      intro pre2 z post2 st2 w hx3 hI hS
      replace hS := hS.to (hemp_star _)
      refine wpF.sup (L := [(0, _), (1, _), (5, _), (13, _), (14, _), (61, _), (62, _)]) ?_ ⟨rfl, rfl, rfl, rfl, rfl, rfl, rfl, trivial⟩
      have hlk : pre2.length + (post2.length + 1) = x.seqs.length := by rw [hx3]; simp
      refine F_seq ?_
      refine F_region (p := ⟨_, [0], []⟩) rfl [0] rfl ?_
      refine O_cmp rfl rfl rfl rfl rfl rfl rfl ?_
      refine R_nil ?_
      refine tn ?_
      refine F_seq ?_
      refine F_true rfl (decide_eq_true (by omega)) ?_
      refine F_skip ?_
      refine tn ?_
      refine F_seq ?_
      refine F_block ?_
      refine F_seq ?_
      refine F_region (p := ⟨_, [0, 0], []⟩) rfl [0, 1] rfl ?_
      refine O_move rfl rfl rfl rfl rfl ?_
      refine O_assign rfl rfl rfl rfl rfl ?_
      refine R_nil ?_
      refine tn ?_
      refine F_seq ?_
      refine F_drawnS hS (by kernel_rfl) (p := ⟨_, [0, 0, 0, 0, 1, 0, 0, 1, 0, 0, 0, 0, 1, 0, 0, 1, 0], []⟩) rfl (.ofList [0, 1, 2, 3, 4, 5, 6, 7, 8, 9, 10, 11, 12, 13, 14, 15, 16]) (by kernel_rfl) ?_
      intro w hS
      refine O_move rfl rfl rfl rfl rfl ?_
      refine O_move rfl rfl rfl rfl rfl ?_
      obtain ⟨ebq8, eoq8, hadq8⟩ := Rds.adF (m := pre.length) (x := x) (enc := srcE) (size := 3) (fun _ => rfl) (by decide) (hA.1) (hS.u2) (by rw [hx]; simp)
      refine O_indexSlE (m := pre.length) rfl rfl rfl rfl Try.runUnderlying57 Try.sizeOf69 rfl hadq8 rfl rfl (by omega) ?_
      refine O_fieldAddr rfl rfl rfl rfl rfl Try.runUnderlying69 rfl Try.sizeOf28 ?_
      refine O_load rfl rfl rfl rfl rfl Try.isAgg28 (RdW.at (Rds.row (m := pre.length) (x := x) (enc := srcE) (size := 3) (fun _ => rfl) (by decide) (hA.1) (hS.u2) hadq8 (by rw [hx]; simp)) rfl) (by trivial) ?_
      refine O_move rfl rfl rfl rfl rfl ?_
      rw [hxv]
      obtain ⟨ebq9, eoq9, hadq9⟩ := Rds.ad (k := pre2.length) (u := eI z) (hxA) (hS.u2) (by rw [hx3]; simp)
      refine O_indexSlE (m := pre2.length) rfl rfl rfl rfl Try.runUnderlying28 Try.sizeOf3 rfl hadq9 rfl rfl (by omega) ?_
      refine O_load rfl rfl rfl rfl rfl Try.isAgg3 (Rds.at (k := pre2.length * 1) (u := eI z) (hxA) (hS.u2) hadq9 (by rw [hx3]; simp)) (by trivial) ?_
      refine O_move rfl rfl rfl rfl rfl ?_
      refine O_move rfl rfl rfl rfl rfl ?_
      obtain ⟨ebq10, eoq10, hadq10⟩ := Rds.adF (m := pre.length) (x := y) (enc := srcE) (size := 3) (fun _ => rfl) (by decide) (hB.1) (hS.u2) hy
      refine O_indexSlE (m := pre.length) rfl rfl rfl rfl Try.runUnderlying57 Try.sizeOf69 rfl hadq10 rfl rfl (by omega) ?_
      refine O_fieldAddr rfl rfl rfl rfl rfl Try.runUnderlying69 rfl Try.sizeOf28 ?_
      refine O_load rfl rfl rfl rfl rfl Try.isAgg28 (RdW.at (Rds.row (m := pre.length) (x := y) (enc := srcE) (size := 3) (fun _ => rfl) (by decide) (hB.1) (hS.u2) hadq10 hy) rfl) (by trivial) ?_
      refine O_move rfl rfl rfl rfl rfl ?_
      rw [hyv]
      obtain ⟨ebq11, eoq11, hadq11⟩ := Rds.ad (k := pre2.length) (u := eI z) (hyA) (hS.u2) (by rw [hx3]; simp)
      refine O_indexSlE (m := pre2.length) rfl rfl rfl rfl Try.runUnderlying28 Try.sizeOf3 rfl hadq11 rfl rfl (by omega) ?_
      refine O_load rfl rfl rfl rfl rfl Try.isAgg3 (Rds.at (k := pre2.length * 1) (u := eI z) (hyA) (hS.u2) hadq11 (by rw [hx3]; simp)) (by trivial) ?_
      refine O_cmp rfl rfl rfl rfl rfl rfl rfl ?_
      refine R_nil ?_
      refine tn ?_
      refine F_false rfl (by simp [hn, hf]) ?_
      refine F_skip ?_
      refine bn ?_
      refine tn ?_
      refine F_region (p := ⟨_, [0, 0], []⟩) rfl [0, 1] rfl ?_
      refine O_addN rfl rfl rfl rfl rfl rfl (by first | omega | (dsimp only; omega)) ?_
      refine O_move rfl rfl rfl rfl rfl ?_
      refine R_nil ?_
      replace hS := hS.u2.u2
      refine tn ⟨rfl, rfl, (), Sup.app ⟨rfl, rfl, rfl, rfl, rfl, rfl, trivial⟩ ⟨congrArg (fun z : Nat => some (Value.int .i64 z)) (show pre2.length + 1 = (pre2 ++ [z]).length by simp), trivial⟩, trivial, hS.to (hemp_star _).symm⟩
theorem info_src : (Try.prog.info? 69).map (fun i => (i.zero, i.size, i.bytes)) = some (some (.agg #[.string ⟨#[]⟩, .int .i64 0, .slice none 0 0]), 3, 48) := by kernel_rfl
theorem lawRef {w0 w : World} {R A : HProp} {ad : Option Addr} {c : Nat} {Q : List Src} (hA : RdSrc A ad Q) (hl : Q.length ≤ 1000000) (hS : Sat w0 (A * R) w) :
    Calls Try.prog 30 #[.agg #[.slice ad Q.length c]] w (ret fun u w' => ∃ ad' c', u = .slice ad' Q.length c' ∧ Sat w0 (sl 69 3 u Q.length (Q.flatMap srcE) * (A * R)) w') := by
  replace hS := sl_nil (e := 69) (size := 3) hS
  replace hS := hS.noblks
  refine enterF (args := [_]) Try.func30 rfl Try.ntmps30 rfl rfl ?_
  refine F_seq ?_
  refine F_region (p := ⟨_, [2, 0], []⟩) rfl [0, 1] rfl ?_
  refine O_boxS hS rfl rfl rfl rfl rfl (fun _ _ hv => trivial) ?_
  intro b1 w hS
  refine O_assign rfl rfl rfl rfl rfl ?_
  refine R_nil ?_
  refine tn ?_
  refine F_seq ?_
  refine F_region (p := ⟨_, [0], []⟩) rfl [0] rfl ?_
  refine O_assign rfl rfl rfl rfl rfl ?_
  refine R_nil ?_
  refine tn ?_
  refine F_seq ?_
  refine F_seq ?_
  refine F_region (p := ⟨_, [0, 1, 0, 0], []⟩) rfl [0, 1, 2, 3] rfl ?_
  refine O_fieldAddr rfl rfl rfl rfl rfl Try.runUnderlying61 rfl Try.sizeOf59 ?_
  refine O_loadS hS rfl rfl rfl rfl rfl Try.isAgg59 (by repeat (first | exact .here rfl | apply CellAt.there)) (by trivial) ?_
  refine O_lenSl rfl rfl rfl rfl rfl Try.runUnderlying59 ?_
  refine O_move rfl rfl rfl rfl rfl ?_
  refine R_nil ?_
  refine tn ?_
  refine F_block ?_
  refine F_loopL (α := (Src)) (σ := (Value)) (Q) [(2, _), (7, _), (8, _)] (fun (pre : List (Src)) (st : Value) => [(3, st), (9, (.int .i64 (pre.length : Nat)))]) (fun (pre : List (Src)) (st : Value) => sl 69 3 st pre.length (pre.flatMap srcE)) (fun (pre : List (Src)) (st : Value) => True) (.slice none 0 0) (Sup.app ⟨rfl, rfl, rfl, trivial⟩ ⟨rfl, rfl, trivial⟩) (hS.u2) trivial ?_ ?_
  · clear hS
    intro st w hI hS
    replace hS := hS
    refine wpF.sup (L := [(2, _), (7, _), (8, _), (3, _), (9, _)]) ?_ ⟨rfl, rfl, rfl, rfl, rfl, trivial⟩
    replace hS := hS.u2
    refine F_seq ?_
    refine F_region (p := ⟨_, [0], []⟩) rfl [0] rfl ?_
    refine O_cmp rfl rfl rfl rfl rfl rfl rfl ?_
    refine R_nil ?_
    refine tn ?_
    refine F_seq ?_
    refine F_false rfl (decide_eq_false (by omega)) ?_
    refine F_exit ?_
    refine tx ?_
    refine tx ?_
    refine Go.Sl.bx rfl ?_
    refine tn ?_
    refine F_seq ?_
    refine F_region (p := ⟨_, [0, 0], []⟩) rfl [0, 1] rfl ?_
    refine O_move rfl rfl rfl rfl rfl ?_
    refine O_assign rfl rfl rfl rfl rfl ?_
    refine R_nil ?_
    refine tn ?_
    refine F_ret ?_
    replace hS := hS.u2
    obtain ⟨ad', c', rfl, _, _, _⟩ := sl_form hS
    show endF _ _ _ _ _ _
    refine end0 trivial rfl rfl rfl hS ?_
    intro w hS
    replace hS := (hS.u2).drop
    replace hS := hS.u2.u2
    exact ⟨ad', c', rfl, hS⟩
  · clear hS
    intro pre x post st w hx hI hS
    replace hS := hS
    refine wpF.sup (L := [(2, _), (7, _), (8, _), (3, _), (9, _)]) ?_ ⟨rfl, rfl, rfl, rfl, rfl, trivial⟩
    replace hS := hS.u2
    have hlx : pre.length + (post.length + 1) = Q.length := by rw [hx]; simp
    obtain ⟨adx, cx, hxv, _, _, _, hxA⟩ := hA.2 x (by rw [hx]; simp)
    refine F_seq ?_
    refine F_region (p := ⟨_, [0], []⟩) rfl [0] rfl ?_
    refine O_cmp rfl rfl rfl rfl rfl rfl rfl ?_
    refine R_nil ?_
    refine tn ?_
    refine F_seq ?_
    refine F_true rfl (decide_eq_true (by omega)) ?_
    refine F_skip ?_
    refine tn ?_
    refine F_seq ?_
    refine F_block ?_
    refine F_seq ?_
    refine F_region (p := ⟨_, [0, 1, 2, 2], []⟩) rfl [0, 1, 2, 3] rfl ?_
    obtain ⟨ebq1, eoq1, hadq1⟩ := Rds.adF (m := pre.length) (x := x) (enc := srcE) (size := 3) (fun _ => rfl) (by decide) (hA.1) (hS.u3) (by rw [hx]; simp)
    refine O_indexSlE (m := pre.length) rfl rfl rfl rfl Try.runUnderlying59 Try.sizeOf65 rfl hadq1 rfl rfl (by omega) ?_
    refine O_loadAgg ((srcE x)) rfl rfl rfl rfl rfl Try.isAgg65 Try.sizeOf65 rfl (Rds.row (m := pre.length) (x := x) (enc := srcE) (size := 3) (fun _ => rfl) (by decide) (hA.1) (hS.u3) hadq1 (by rw [hx]; simp)) (by trivial) ?_
    refine O_allocS hS rfl rfl rfl rfl Try.zeroValue65 (fun _ _ hv => trivial) ?_
    intro b2 w hS
    refine O_storeAgg (cs := [_, _, _]) hS rfl rfl rfl rfl rfl rfl Try.sizeOf65 rfl (Nat.le_of_ble_eq_true rfl) (by simp [one, srcE, hxv]) (fun _ hv => trivial) ?_
    intro w hS
    dsimp only [setsL, List.set_cons_zero, List.set_cons_succ, Value.cells] at hS
    refine R_nil ?_
    refine tn ?_
    refine F_region (p := ⟨_, [0, 1, 2, 2, 0], []⟩) rfl [0, 1, 2, 3, 4] rfl ?_
    refine O_move rfl rfl rfl rfl rfl ?_
    refine O_loadAgg [_, _, _] rfl rfl rfl rfl rfl Try.isAgg65 Try.sizeOf65 rfl (CellsAt.rd ⟨(by repeat (first | exact .here rfl | apply CellAt.there)), (by repeat (first | exact .here rfl | apply CellAt.there)), (by repeat (first | exact .here rfl | apply CellAt.there)), trivial⟩ (hS)) (by trivial) ?_
    refine O_sliceLit hS rfl rfl rfl rfl Try.runUnderlying57 Try.sizeOf69 Try.zeroValue69 rfl (by decide) rfl rfl rfl (cs := [_, _, _]) rfl rfl (fun _ _ hv => trivial) ?_
    intro z1 w hS
    replace hS := hS.u2
    have hrdv1 := sl_rd (hS.u2)
    replace hS := hS.u3
    refine O_append (m := 1) (news := (srcE x)) hS rfl rfl rfl rfl Try.underlying57 info_src rfl (by decide) rfl rfl rfl (by intro e; cases e) hrdv1 (by simp [srcE, Value.oneCell', hxv]) (by simp only [maxLen]; omega) (by omega) (fun _ _ hv => trivial) ?_
    intro v1 w hnilv1 hS
    obtain ⟨adv1, capv1, rfl, hlev1, hcapv1, _⟩ := sl_form hS
    replace hS := hS.u2
    refine O_assign rfl rfl rfl rfl rfl ?_
    refine R_nil ?_
    refine bn ?_
    refine tn ?_
    refine F_region (p := ⟨_, [0, 0], []⟩) rfl [0, 1] rfl ?_
    refine O_addN rfl rfl rfl rfl rfl rfl (by first | omega | (dsimp only; omega)) ?_
    refine O_move rfl rfl rfl rfl rfl ?_
    refine R_nil ?_
    replace hS := hS.sp1.drop
    replace hS := (hS.u3).drop
    replace hS := hS.u3.u2.u3
    refine tn ⟨rfl, rfl, (.slice adv1 (pre.length + 1) capv1), Sup.app ⟨rfl, rfl, rfl, trivial⟩ ⟨rfl, congrArg (fun z : Nat => some (Value.int .i64 z)) (show pre.length + 1 = (pre ++ [x]).length by simp), trivial⟩, trivial, Sat.slc hS (by simp) (by simp [List.flatMap_append])⟩
end Go.Proofs.Ytpnigaoibhogfaa
