/- YtpnigaoibhogfaaR26: a part of the proof: walks over the translated code, and plain facts on lists beside. -/
import Derived.Test.YtpnigaoibhogfaaR25
set_option linter.all false
namespace Go.Proofs.Ytpnigaoibhogfaa
open Go Go.RowKit Go.Sl
set_option linter.unusedVariables false
theorem seenLoad {w0 w : World} {R A : HProp} {ad : Option Addr} {c : Nat} {Q : List Src} (hA : RdSrc A ad Q) (hl : Q.length ≤ 1000000) (hl2 : ∀ x ∈ Q, x.seqs.length ≤ 100000) (hn : ∀ x ∈ Q, x.name.size ≤ 9223372036854775807) (hS : Sat w0 (A * R) w) :
    Calls Try.prog 32 #[.agg #[.slice ad Q.length c]] w (ret fun u w' => (okL (Q.map Src.tell) ∧ ∃ sb, u = .tuple #[.pointer (some ⟨sb, 0, none⟩), .int .i64 0] ∧ Sat w0 (seenP E_sc O_S E_ib O_ib 94 103 sb (bldL (Q.map Src.tell)) * (A * R)) w') ∨ (¬ okL (Q.map Src.tell) ∧ u = .tuple #[.pointer none, .int .i64 2] ∧ Sat w0 (A * R) w')) := by
  replace hS := hS.noblks
  refine enterF (args := [_]) Try.func32 rfl Try.ntmps32 rfl rfl ?_
  refine F_seq ?_
  refine F_region (p := ⟨_, [2, 0, 0], []⟩) rfl [0, 1, 2] rfl ?_
  refine O_boxS hS rfl rfl rfl rfl rfl (fun _ _ hv => trivial) ?_
  intro b1 w hS
  refine O_assign rfl rfl rfl rfl rfl ?_
  refine O_assign rfl rfl rfl rfl rfl ?_
  refine R_nil ?_
  refine tn ?_
  refine F_seq ?_
  refine F_region (p := ⟨_, [2, 0], []⟩) rfl [0, 1] rfl ?_
  refine O_call rfl rfl rfl rfl Try.call24 rfl (seenNew (hS)) (fun _ _ hv => trivial) ?_
  rintro _ w ⟨sb, rfl, hS⟩
  replace hS := hS.u2
  refine O_assign rfl rfl rfl rfl rfl ?_
  refine R_nil ?_
  refine tn ?_
  refine F_seq ?_
  refine F_seq ?_
  refine F_region (p := ⟨_, [0, 1, 0, 0], []⟩) rfl [0, 1, 2, 3] rfl ?_
  refine O_fieldAddr rfl rfl rfl rfl rfl Try.runUnderlying61 rfl Try.sizeOf59 ?_
  refine O_loadS hS rfl rfl rfl rfl rfl Try.isAgg59 (by repeat (first | exact .here rfl | apply CellAt.there)) (by trivial) ?_
  refine O_lenSl rfl rfl rfl rfl rfl Try.runUnderlying59 ?_
  refine O_move rfl rfl rfl rfl rfl ?_
  refine R_nil ?_
  refine tn ?_
  refine F_block ?_
  refine F_loopL (α := (Src)) (σ := (Unit)) (Q) [(1, _), (4, _), (12, _), (13, _)] (fun (pre : List (Src)) (st : Unit) => [(14, (.int .i64 (pre.length : Nat)))]) (fun (pre : List (Src)) (st : Unit) => seenP E_sc O_S E_ib O_ib 94 103 sb (bldL (pre.map Src.tell))) (fun (pre : List (Src)) (st : Unit) => (∀ y ∈ pre.map Src.tell, okS y) ∧ upN (pre.map Src.tell) ∧ pre.length ≤ 8) () (Sup.app ⟨rfl, rfl, rfl, rfl, trivial⟩ ⟨rfl, trivial⟩) (hS.u2) ⟨by simp, List.Pairwise.nil, by simp⟩ ?_ ?_
  · clear hS
    intro st w hI hS
    replace hS := hS
    refine wpF.sup (L := [(1, _), (4, _), (12, _), (13, _), (14, _)]) ?_ ⟨rfl, rfl, rfl, rfl, rfl, trivial⟩
    replace hS := hS.u2
    refine F_seq ?_
    refine F_region (p := ⟨_, [0], []⟩) rfl [0] rfl ?_
    refine O_cmp rfl rfl rfl rfl rfl rfl rfl ?_
    refine R_nil ?_
    refine tn ?_
    refine F_seq ?_
    refine F_false rfl (decide_eq_false (by omega)) ?_
    refine F_exit ?_
    refine tx ?_
    refine tx ?_
    refine Go.Sl.bx rfl ?_
    refine tn ?_
    refine F_seq ?_
    refine F_region (p := ⟨_, [0, 0, 0], []⟩) rfl [0, 1, 2] rfl ?_
    refine O_move rfl rfl rfl rfl rfl ?_
    refine O_assign rfl rfl rfl rfl rfl ?_
    refine O_assign rfl rfl rfl rfl rfl ?_
    refine R_nil ?_
    refine tn ?_
    refine F_ret ?_
    show endF _ _ _ _ _ _
    refine end0 trivial rfl rfl rfl hS ?_
    intro w hS
    replace hS := (hS).drop
    replace hS := hS.u2.u2
    exact .inl ⟨⟨by rw [List.length_map]; exact hI.2.2, hI.1, hI.2.1⟩, sb, rfl, hS⟩
  · clear hS
    intro pre x post st w hx hI hS
    replace hS := hS
    refine wpF.sup (L := [(1, _), (4, _), (12, _), (13, _), (14, _)]) ?_ ⟨rfl, rfl, rfl, rfl, rfl, trivial⟩
    replace hS := hS.u2
    have hlx : pre.length + (post.length + 1) = Q.length := by rw [hx]; simp
    have hxQ : x ∈ Q := by rw [hx]; simp
    obtain ⟨adx, cx, hxv, _, _, _, hxA⟩ := hA.2 x hxQ
    have hx2 := hl2 x hxQ
    have hxn := hn x hxQ
    obtain ⟨xn, xf, xv, xs⟩ := x
    simp only at hxv hxA hx2 hxn
    subst hxv
    by_cases hp : pre.length = 0
    · have hp2 : ∀ p z, pre.map Src.tell = p ++ [z] → O_S.lt z.1 xn = true := fun p z e => by have := congrArg List.length e; rw [List.length_map, hp] at this; simp at this
      refine F_seq ?_
      refine F_region (p := ⟨_, [0], []⟩) rfl [0] rfl ?_
      refine O_cmp rfl rfl rfl rfl rfl rfl rfl ?_
      refine R_nil ?_
      refine tn ?_
      refine F_seq ?_
      refine F_true rfl (decide_eq_true (by omega)) ?_
      refine F_skip ?_
      refine tn ?_
      refine F_seq ?_
      refine F_block ?_
      refine F_seq ?_
      refine F_region (p := ⟨_, [0, 0, 1, 2, 0, 2], []⟩) rfl [0, 1, 2, 3, 4, 5] rfl ?_
      refine O_move rfl rfl rfl rfl rfl ?_
      obtain ⟨ebq1, eoq1, hadq1⟩ := Rds.adF (m := pre.length) (x := (Src.mk xn xf (.slice adx xs.length cx) xs)) (enc := srcE) (size := 3) (fun _ => rfl) (by decide) (hA.1) (hS.u3) (by rw [hx]; simp)
      refine O_indexSlE (m := pre.length) rfl rfl rfl rfl Try.runUnderlying59 Try.sizeOf65 rfl hadq1 rfl rfl (by omega) ?_
      refine O_loadAgg ((srcE (Src.mk xn xf (.slice adx xs.length cx) xs))) rfl rfl rfl rfl rfl Try.isAgg65 Try.sizeOf65 rfl (Rds.row (m := pre.length) (x := (Src.mk xn xf (.slice adx xs.length cx) xs)) (enc := srcE) (size := 3) (fun _ => rfl) (by decide) (hA.1) (hS.u3) hadq1 (by rw [hx]; simp)) (by trivial) ?_
      refine O_allocS hS rfl rfl rfl rfl Try.zeroValue65 (fun _ _ hv => trivial) ?_
      intro b2 w hS
      refine O_assign rfl rfl rfl rfl rfl ?_
      refine O_storeAgg (cs := [_, _, _]) hS rfl rfl rfl rfl rfl rfl Try.sizeOf65 rfl (Nat.le_of_ble_eq_true rfl) (by simp [one, srcE]) (fun _ hv => trivial) ?_
      intro w hS
      dsimp only [setsL, List.set_cons_zero, List.set_cons_succ, Value.cells] at hS
      refine R_nil ?_
      refine tn ?_
      refine F_seq ?_
      refine F_seq ?_
      refine F_drawnS hS (by kernel_rfl) (p := ⟨_, [0, 0, 0, 1, 2, 0, 0, 0, 0, 0, 0, 0, 1, 0, 0, 0, 0, 1, 0, 1, 0, 0, 0], []⟩) rfl (.ofList [0, 1, 2, 3, 4, 5, 6, 7, 8, 9, 10, 11, 12, 13, 14, 15, 16, 17, 18, 19, 20, 21, 22]) (by kernel_rfl) ?_
      intro w hS
      refine O_move rfl rfl rfl rfl rfl ?_
      refine O_cmp rfl rfl rfl rfl rfl rfl rfl ?_
      refine O_move rfl rfl rfl rfl rfl ?_
      refine R_case (t := 21) rfl (fun ht21 => ?_) (fun ht21 => ?_)
      · try simp only [decide_eq_true_eq, decide_eq_false_iff_not, Bool.not_eq_true', Bool.not_eq_false', Bool.not_true, Bool.not_false, Option.isNone_iff_eq_none, Bool.false_eq_true, Bool.true_eq_false] at ht21
        refine R_skip rfl rfl rfl rfl ?_
        refine R_skip rfl rfl rfl rfl ?_
        refine R_skip rfl rfl rfl rfl ?_
        refine O_pickT rfl rfl rfl rfl rfl rfl ?_
        refine O_move rfl rfl rfl rfl rfl ?_
        refine R_skip rfl rfl rfl rfl ?_
        refine R_skip rfl rfl rfl rfl ?_
        refine R_skip rfl rfl rfl rfl ?_
        refine R_skip rfl rfl rfl rfl ?_
        refine R_skip rfl rfl rfl rfl ?_
        refine R_skip rfl rfl rfl rfl ?_
        refine R_skip rfl rfl rfl rfl ?_
        refine R_skip rfl rfl rfl rfl ?_
        refine R_skip rfl rfl rfl rfl ?_
        refine R_skip rfl rfl rfl rfl ?_
        refine R_skip rfl rfl rfl rfl ?_
        refine R_skip rfl rfl rfl rfl ?_
        refine R_skip rfl rfl rfl rfl ?_
        refine R_skip rfl rfl rfl rfl ?_
        refine O_pickT rfl rfl rfl rfl rfl rfl ?_
        refine R_nil ?_
        refine tn ?_
        refine F_true rfl rfl ?_
        refine F_seq ?_
        refine F_region (p := ⟨_, [0, 0], []⟩) rfl [0, 1] rfl ?_
        refine O_assign rfl rfl rfl rfl rfl ?_
        refine O_assign rfl rfl rfl rfl rfl ?_
        refine R_nil ?_
        refine tn ?_
        refine F_ret ?_
        refine tr ?_
        refine br ?_
        refine tr ?_
        refine tr ?_
        refine br ?_
        refine tr ?_
        show endF _ _ _ _ _ _
        refine end0 trivial rfl rfl rfl hS ?_
        intro w hS
        replace hS := (hS).drop
        replace hS := (hS).drop
        refine .inr ⟨?_, rfl, hS⟩
        intro h; first | (have h2 := h.1; rw [List.length_map] at h2; omega) | (have h2 := (h.2.1 _ (List.mem_map.2 ⟨_, hxQ, rfl⟩)); exact Bool.noConfusion ((hbr.2 h2).symm.trans (by assumption : brr = false)))
      · try simp only [decide_eq_true_eq, decide_eq_false_iff_not, Bool.not_eq_true', Bool.not_eq_false', Bool.not_true, Bool.not_false, Option.isNone_iff_eq_none, Bool.false_eq_true, Bool.true_eq_false] at ht21
        refine O_loadAgg [_, _, _] rfl rfl rfl rfl rfl Try.isAgg65 Try.sizeOf65 rfl (CellsAt.rd ⟨(by repeat (first | exact .here rfl | apply CellAt.there)), (by repeat (first | exact .here rfl | apply CellAt.there)), (by repeat (first | exact .here rfl | apply CellAt.there)), trivial⟩ (hS)) (by trivial) ?_
        refine O_call rfl rfl rfl rfl Try.call60 rfl (srcRight (y := Src.mk xn xf (.slice adx xs.length cx) xs) rfl hxA (by simp only; omega) hxn (hS.u3)) (fun _ _ hv => trivial) ?_
        rintro _ w ⟨brr, rfl, hbr, hS⟩
        replace hS := hS.u2
        refine O_not rfl rfl rfl rfl rfl ?_
        refine O_pickF rfl rfl rfl rfl rfl rfl ?_
        refine O_move rfl rfl rfl rfl rfl ?_
        refine R_case (t := 26) rfl (fun ht26 => ?_) (fun ht26 => ?_)
        · try simp only [decide_eq_true_eq, decide_eq_false_iff_not, Bool.not_eq_true', Bool.not_eq_false', Bool.not_true, Bool.not_false, Option.isNone_iff_eq_none, Bool.false_eq_true, Bool.true_eq_false] at ht26
          refine R_skip rfl rfl rfl rfl ?_
          refine R_skip rfl rfl rfl rfl ?_
          refine R_skip rfl rfl rfl rfl ?_
          refine R_skip rfl rfl rfl rfl ?_
          refine R_skip rfl rfl rfl rfl ?_
          refine R_skip rfl rfl rfl rfl ?_
          refine R_skip rfl rfl rfl rfl ?_
          refine R_skip rfl rfl rfl rfl ?_
          refine R_skip rfl rfl rfl rfl ?_
          refine R_skip rfl rfl rfl rfl ?_
          refine R_skip rfl rfl rfl rfl ?_
          refine R_skip rfl rfl rfl rfl ?_
          refine R_skip rfl rfl rfl rfl ?_
          refine R_skip rfl rfl rfl rfl ?_
          refine O_pickT rfl rfl rfl rfl rfl rfl ?_
          refine R_nil ?_
          refine tn ?_
          refine F_true rfl rfl ?_
          refine F_seq ?_
          refine F_region (p := ⟨_, [0, 0], []⟩) rfl [0, 1] rfl ?_
          refine O_assign rfl rfl rfl rfl rfl ?_
          refine O_assign rfl rfl rfl rfl rfl ?_
          refine R_nil ?_
          refine tn ?_
          refine F_ret ?_
          refine tr ?_
          refine br ?_
          refine tr ?_
          refine tr ?_
          refine br ?_
          refine tr ?_
          show endF _ _ _ _ _ _
          refine end0 trivial rfl rfl rfl hS ?_
          intro w hS
          replace hS := (hS).drop
          replace hS := (hS.u2).drop
          refine .inr ⟨?_, rfl, hS⟩
          intro h; first | (have h2 := h.1; rw [List.length_map] at h2; omega) | (have h2 := (h.2.1 _ (List.mem_map.2 ⟨_, hxQ, rfl⟩)); exact Bool.noConfusion ((hbr.2 h2).symm.trans (by assumption : brr = false)))
        · try simp only [decide_eq_true_eq, decide_eq_false_iff_not, Bool.not_eq_true', Bool.not_eq_false', Bool.not_true, Bool.not_false, Option.isNone_iff_eq_none, Bool.false_eq_true, Bool.true_eq_false] at ht26
          refine O_move rfl rfl rfl rfl rfl ?_
          refine O_cmp rfl rfl rfl rfl rfl rfl rfl ?_
          refine O_move rfl rfl rfl rfl rfl ?_
          refine R_caseF (t := 29) rfl (decide_eq_false (by omega)) ?_
          refine R_skip rfl rfl rfl rfl ?_
          refine R_skip rfl rfl rfl rfl ?_
          refine R_skip rfl rfl rfl rfl ?_
          refine R_skip rfl rfl rfl rfl ?_
          refine R_skip rfl rfl rfl rfl ?_
          refine R_skip rfl rfl rfl rfl ?_
          refine R_skip rfl rfl rfl rfl ?_
          refine R_skip rfl rfl rfl rfl ?_
          refine R_skip rfl rfl rfl rfl ?_
          refine R_skip rfl rfl rfl rfl ?_
          refine O_pickF rfl rfl rfl rfl rfl rfl ?_
          refine O_pickF rfl rfl rfl rfl rfl rfl ?_
          refine R_nil ?_
          refine tn ?_
          refine F_false rfl rfl ?_
          refine F_skip ?_
          refine tn ?_
          refine F_seq ?_
          refine F_region (p := ⟨_, [0, 0, 1, 2, 0], []⟩) rfl [0, 1, 2, 3, 4] rfl ?_
          refine O_move rfl rfl rfl rfl rfl ?_
          refine O_fieldAddr rfl rfl rfl rfl rfl Try.runUnderlying65 rfl Try.sizeOf9 ?_
          refine O_loadS hS rfl rfl rfl rfl rfl Try.isAgg9 (by repeat (first | exact .here rfl | apply CellAt.there)) (by trivial) ?_
          refine O_call rfl rfl rfl rfl Try.call54 rfl (seenOf (by simp only [bldL, List.length_map]; omega) xn (hS.u3)) (fun _ _ hv => trivial) ?_
          rintro _ w ⟨rb, cb, M, d, rfl, hd, hM, hg, hS⟩
          replace hS := hS.u4.u2
          replace hS := hS.jn1
          have hup : ∀ y ∈ pre.map Src.tell, O_S.lt y.1 xn = true := by
            by_cases hp0 : pre.length = 0
            · rw [List.eq_nil_of_length_eq_zero hp0]; simp
            · obtain ⟨p', z, hz, _⟩ := snoc_of (n := pre.length - 1) (l := pre) (by omega)
              have h3 := hI.2.1
              rw [hz, List.map_append] at h3 ⊢
              exact up_last (x := (xn, (xf, xs))) h3 (hp2 _ _ (by rw [hz, List.map_append]; rfl))
          have hok : okS (xn, (xf, xs)) := hbr.1 (by assumption)
          have hd2 : d = (0, []) := by rw [hd, show Go.Sl.get O_sc xn (bldL (pre.map Src.tell)) = none from (bld_snoc (x := (xn, (xf, xs))) (d := (0, [])) hup).2]; rfl
          subst hd2
          replace hS := hS.u3
          rw [bigS_get hg] at hS
          replace hS := hS.n2
          obtain ⟨rk, hS⟩ := came_open (hS)
          replace hS := hS.u4.u2
          replace hS := hS.jn1
          refine O_assign rfl rfl rfl rfl rfl ?_
          refine R_nil ?_
          refine tn ?_
          refine F_seq ?_
          refine F_region (p := ⟨_, [0, 0, 1, 0, 0, 2], []⟩) rfl [0, 1, 2, 3, 4, 5] rfl ?_
          refine O_move rfl rfl rfl rfl rfl ?_
          refine O_fieldAddr rfl rfl rfl rfl rfl Try.runUnderlying65 rfl Try.sizeOf3 ?_
          refine O_loadS hS rfl rfl rfl rfl rfl Try.isAgg3 (by repeat (first | exact .here rfl | apply CellAt.there)) (by trivial) ?_
          refine O_nilCheck rfl rfl rfl rfl rfl ?_
          refine O_fieldAddr rfl rfl rfl rfl rfl Try.runUnderlying103 rfl Try.sizeOf3 ?_
          refine O_storeS hS rfl rfl rfl rfl rfl rfl rfl Try.sizeOf3 (by repeat (first | exact .here rfl rfl | apply SetAt.there)) (fun w' hv => trivial) ?_
          intro w hS
          refine R_nil ?_
          refine tn ?_
          refine F_seq ?_
          refine F_region (p := ⟨_, [0, 1, 0, 0], []⟩) rfl [0, 1, 2, 3] rfl ?_
          refine O_fieldAddr rfl rfl rfl rfl rfl Try.runUnderlying65 rfl Try.sizeOf28 ?_
          refine O_loadS hS rfl rfl rfl rfl rfl Try.isAgg28 (by repeat (first | exact .here rfl | apply CellAt.there)) (by trivial) ?_
          refine O_lenSl rfl rfl rfl rfl rfl Try.runUnderlying28 ?_
          refine O_move rfl rfl rfl rfl rfl ?_
          refine R_nil ?_
          refine tn ?_
          refine F_block ?_
          refine F_loopL (α := (Int)) (σ := (Unit)) (xs) [(1, _), (4, _), (7, _), (12, _), (13, _), (14, _), (52, _), (53, _)] (fun (pre2 : List (Int)) (st2 : Unit) => [(54, (.int .i64 (pre2.length : Nat)))]) (fun (pre2 : List (Int)) (st2 : Unit) => rackP E_ib O_ib rk (pre2.map fun n => (n, true))) (fun (pre2 : List (Int)) (st2 : Unit) => True) () (Sup.app ⟨rfl, rfl, rfl, rfl, rfl, rfl, rfl, rfl, trivial⟩ ⟨rfl, trivial⟩) (hS.u2) trivial ?_ ?_
          · clear hS
            intro st2 w hI2 hS
            replace hS := hS
            refine wpF.sup (L := [(1, _), (4, _), (7, _), (12, _), (13, _), (14, _), (52, _), (53, _), (54, _)]) ?_ ⟨rfl, rfl, rfl, rfl, rfl, rfl, rfl, rfl, rfl, trivial⟩
            replace hS := hS.u2
            refine F_seq ?_
            refine F_region (p := ⟨_, [0], []⟩) rfl [0] rfl ?_
            refine O_cmp rfl rfl rfl rfl rfl rfl rfl ?_
            refine R_nil ?_
            refine tn ?_
            refine F_seq ?_
            refine F_false rfl (decide_eq_false (by omega)) ?_
            refine F_exit ?_
            refine tx ?_
            refine tx ?_
            refine Go.Sl.bx rfl ?_
            refine bn ?_
            refine tn ?_
            refine F_region (p := ⟨_, [0, 0], []⟩) rfl [0, 1] rfl ?_
            refine O_addN rfl rfl rfl rfl rfl rfl (by first | omega | (dsimp only; omega)) ?_
            refine O_move rfl rfl rfl rfl rfl ?_
            refine R_nil ?_
            replace hS := hS.sp1
            replace hS := hS.u3.u2
            replace hS := came_mk hS
            replace hS := hS.u2
            replace hS := hS.sp1
            replace hS := hS.u4.u4.u5.u4
            replace hS := seen_more (x := (xn, (xf, xs))) hup hM hg hS
            rw [show pre.map Src.tell ++ [(xn, (xf, xs))] = (pre ++ [(⟨xn, xf, .slice adx xs.length cx, xs⟩ : Src)]).map Src.tell by simp [Src.tell]] at hS
            replace hS := hS.u2
            replace hS := hS.sp1.drop
            replace hS := hS.u3.u2.u3
            refine tn ⟨rfl, rfl, (), Sup.app ⟨rfl, rfl, rfl, rfl, trivial⟩ ⟨congrArg (fun z : Nat => some (Value.int .i64 z)) (show pre.length + 1 = (pre ++ [_]).length by simp), trivial⟩, ⟨by intro y hy; rw [List.map_append] at hy; rcases List.mem_append.1 hy with h | h; (exact hI.1 y h); (simp only [List.map_cons, List.map_nil, List.mem_singleton] at h; rw [h]; exact hok), by rw [List.map_append]; exact up_snoc hI.2.1 hp2, by simp; omega⟩, hS⟩
          · clear hS
            intro pre2 n post2 st2 w hx3 hI2 hS
            replace hS := hS
            refine wpF.sup (L := [(1, _), (4, _), (7, _), (12, _), (13, _), (14, _), (52, _), (53, _), (54, _)]) ?_ ⟨rfl, rfl, rfl, rfl, rfl, rfl, rfl, rfl, rfl, trivial⟩
            replace hS := hS.u2
            have hlk : pre2.length + (post2.length + 1) = xs.length := by rw [hx3]; simp
            have hlt : ∀ a ∈ pre2, a < n := by have h3 := hok.2.2.2.2.2.2; simp only at h3; rw [hx3] at h3; exact fun a ha => (List.pairwise_append.1 h3).2.2 a ha n (by simp)
            refine F_seq ?_
            refine F_region (p := ⟨_, [0], []⟩) rfl [0] rfl ?_
            refine O_cmp rfl rfl rfl rfl rfl rfl rfl ?_
            refine R_nil ?_
            refine tn ?_
            refine F_seq ?_
            refine F_true rfl (decide_eq_true (by omega)) ?_
            refine F_skip ?_
            refine tn ?_
            refine F_seq ?_
            refine F_block ?_
            refine F_seq ?_
            refine F_region (p := ⟨_, [0, 1, 0], []⟩) rfl [0, 1, 2] rfl ?_
            obtain ⟨ebq2, eoq2, hadq2⟩ := Rds.ad (k := pre2.length) (u := (.int .i64 n)) (hxA) (hS.u5) (by rw [hx3]; simp)
            refine O_indexSlE (m := pre2.length) rfl rfl rfl rfl Try.runUnderlying28 Try.sizeOf3 rfl hadq2 rfl rfl (by omega) ?_
            refine O_load rfl rfl rfl rfl rfl Try.isAgg3 (Rds.at (k := pre2.length * 1) (u := (.int .i64 n)) (hxA) (hS.u5) hadq2 (by rw [hx3]; simp)) (by trivial) ?_
            refine O_assign rfl rfl rfl rfl rfl ?_
            refine R_nil ?_
            refine tn ?_
            refine F_region (p := ⟨_, [0, 0, 0, 1, 0, 2], []⟩) rfl [0, 1, 2, 3, 4, 5] rfl ?_
            refine O_move rfl rfl rfl rfl rfl ?_
            refine O_nilCheck rfl rfl rfl rfl rfl ?_
            refine O_fieldAddr rfl rfl rfl rfl rfl Try.runUnderlying103 rfl Try.sizeOf101 ?_
            refine O_loadS hS rfl rfl rfl rfl rfl Try.isAgg101 (by repeat (first | exact .here rfl | apply CellAt.there)) (by trivial) ?_
            refine O_move rfl rfl rfl rfl rfl ?_
            refine O_call rfl rfl rfl rfl Try.call55 rfl (Put_ib n true (by simp only [List.length_map]; omega) (hS.u2)) (fun _ _ hv => trivial) ?_
            rintro _ w ⟨rfl, hS⟩
            replace hS := hS.u2
            refine R_nil ?_
            refine bn ?_
            refine tn ?_
            refine F_region (p := ⟨_, [0, 0], []⟩) rfl [0, 1] rfl ?_
            refine O_addN rfl rfl rfl rfl rfl rfl (by first | omega | (dsimp only; omega)) ?_
            refine O_move rfl rfl rfl rfl rfl ?_
            refine R_nil ?_
            replace hS := hS.u2
            rw [keys_snoc (fun _ _ => rfl) hlt] at hS
            replace hS := hS.u2
            replace hS := hS.lk4.lk4.lk4.lk4
            replace hS := hS.u5.u5.u5.u4.u5
            refine tn ⟨rfl, rfl, (), Sup.app ⟨rfl, rfl, rfl, rfl, rfl, rfl, rfl, rfl, trivial⟩ ⟨congrArg (fun z : Nat => some (Value.int .i64 z)) (show pre2.length + 1 = (pre2 ++ [n]).length by simp), trivial⟩, trivial, hS⟩
    · obtain ⟨p', z, hz, hpl⟩ := snoc_of (n := pre.length - 1) (l := pre) (by omega)
      refine F_seq ?_
      refine F_region (p := ⟨_, [0], []⟩) rfl [0] rfl ?_
      refine O_cmp rfl rfl rfl rfl rfl rfl rfl ?_
      refine R_nil ?_
      refine tn ?_
      refine F_seq ?_
      refine F_true rfl (decide_eq_true (by omega)) ?_
      refine F_skip ?_
      refine tn ?_
      refine F_seq ?_
      refine F_block ?_
      refine F_seq ?_
      refine F_region (p := ⟨_, [0, 0, 1, 2, 0, 2], []⟩) rfl [0, 1, 2, 3, 4, 5] rfl ?_
      refine O_move rfl rfl rfl rfl rfl ?_
      obtain ⟨ebq1, eoq1, hadq1⟩ := Rds.adF (m := pre.length) (x := (Src.mk xn xf (.slice adx xs.length cx) xs)) (enc := srcE) (size := 3) (fun _ => rfl) (by decide) (hA.1) (hS.u3) (by rw [hx]; simp)
      refine O_indexSlE (m := pre.length) rfl rfl rfl rfl Try.runUnderlying59 Try.sizeOf65 rfl hadq1 rfl rfl (by omega) ?_
      refine O_loadAgg ((srcE (Src.mk xn xf (.slice adx xs.length cx) xs))) rfl rfl rfl rfl rfl Try.isAgg65 Try.sizeOf65 rfl (Rds.row (m := pre.length) (x := (Src.mk xn xf (.slice adx xs.length cx) xs)) (enc := srcE) (size := 3) (fun _ => rfl) (by decide) (hA.1) (hS.u3) hadq1 (by rw [hx]; simp)) (by trivial) ?_
      refine O_allocS hS rfl rfl rfl rfl Try.zeroValue65 (fun _ _ hv => trivial) ?_
      intro b2 w hS
      refine O_assign rfl rfl rfl rfl rfl ?_
      refine O_storeAgg (cs := [_, _, _]) hS rfl rfl rfl rfl rfl rfl Try.sizeOf65 rfl (Nat.le_of_ble_eq_true rfl) (by simp [one, srcE]) (fun _ hv => trivial) ?_
      intro w hS
      dsimp only [setsL, List.set_cons_zero, List.set_cons_succ, Value.cells] at hS
      refine R_nil ?_
      refine tn ?_
      refine F_seq ?_
      refine F_seq ?_
      refine F_drawnS hS (by kernel_rfl) (p := ⟨_, [0, 0, 0, 1, 2, 0, 0, 0, 0, 0, 0, 0, 1, 0, 0, 0, 0, 1, 0, 1, 0, 0, 0], []⟩) rfl (.ofList [0, 1, 2, 3, 4, 5, 6, 7, 8, 9, 10, 11, 12, 13, 14, 15, 16, 17, 18, 19, 20, 21, 22]) (by kernel_rfl) ?_
      intro w hS
      refine O_move rfl rfl rfl rfl rfl ?_
      refine O_cmp rfl rfl rfl rfl rfl rfl rfl ?_
      refine O_move rfl rfl rfl rfl rfl ?_
      refine R_case (t := 21) rfl (fun ht21 => ?_) (fun ht21 => ?_)
      · try simp only [decide_eq_true_eq, decide_eq_false_iff_not, Bool.not_eq_true', Bool.not_eq_false', Bool.not_true, Bool.not_false, Option.isNone_iff_eq_none, Bool.false_eq_true, Bool.true_eq_false] at ht21
        refine R_skip rfl rfl rfl rfl ?_
        refine R_skip rfl rfl rfl rfl ?_
        refine R_skip rfl rfl rfl rfl ?_
        refine O_pickT rfl rfl rfl rfl rfl rfl ?_
        refine O_move rfl rfl rfl rfl rfl ?_
        refine R_skip rfl rfl rfl rfl ?_
        refine R_skip rfl rfl rfl rfl ?_
        refine R_skip rfl rfl rfl rfl ?_
        refine R_skip rfl rfl rfl rfl ?_
        refine R_skip rfl rfl rfl rfl ?_
        refine R_skip rfl rfl rfl rfl ?_
        refine R_skip rfl rfl rfl rfl ?_
        refine R_skip rfl rfl rfl rfl ?_
        refine R_skip rfl rfl rfl rfl ?_
        refine R_skip rfl rfl rfl rfl ?_
        refine R_skip rfl rfl rfl rfl ?_
        refine R_skip rfl rfl rfl rfl ?_
        refine R_skip rfl rfl rfl rfl ?_
        refine R_skip rfl rfl rfl rfl ?_
        refine O_pickT rfl rfl rfl rfl rfl rfl ?_
        refine R_nil ?_
        refine tn ?_
        refine F_true rfl rfl ?_
        refine F_seq ?_
        refine F_region (p := ⟨_, [0, 0], []⟩) rfl [0, 1] rfl ?_
        refine O_assign rfl rfl rfl rfl rfl ?_
        refine O_assign rfl rfl rfl rfl rfl ?_
        refine R_nil ?_
        refine tn ?_
        refine F_ret ?_
        refine tr ?_
        refine br ?_
        refine tr ?_
        refine tr ?_
        refine br ?_
        refine tr ?_
        show endF _ _ _ _ _ _
        refine end0 trivial rfl rfl rfl hS ?_
        intro w hS
        replace hS := (hS).drop
        replace hS := (hS).drop
        refine .inr ⟨?_, rfl, hS⟩
        intro h; first | (have h2 := h.1; rw [List.length_map] at h2; omega) | (have h2 := (h.2.1 _ (List.mem_map.2 ⟨_, hxQ, rfl⟩)); exact Bool.noConfusion ((hbr.2 h2).symm.trans (by assumption : brr = false))) | (have h2 := h.2.2; rw [hx, hz, List.map_append, List.map_append, List.map_cons] at h2; exact up_bad (not_lt_S hT) h2)
      · try simp only [decide_eq_true_eq, decide_eq_false_iff_not, Bool.not_eq_true', Bool.not_eq_false', Bool.not_true, Bool.not_false, Option.isNone_iff_eq_none, Bool.false_eq_true, Bool.true_eq_false] at ht21
        refine O_loadAgg [_, _, _] rfl rfl rfl rfl rfl Try.isAgg65 Try.sizeOf65 rfl (CellsAt.rd ⟨(by repeat (first | exact .here rfl | apply CellAt.there)), (by repeat (first | exact .here rfl | apply CellAt.there)), (by repeat (first | exact .here rfl | apply CellAt.there)), trivial⟩ (hS)) (by trivial) ?_
        refine O_call rfl rfl rfl rfl Try.call60 rfl (srcRight (y := Src.mk xn xf (.slice adx xs.length cx) xs) rfl hxA (by simp only; omega) hxn (hS.u3)) (fun _ _ hv => trivial) ?_
        rintro _ w ⟨brr, rfl, hbr, hS⟩
        replace hS := hS.u2
        refine O_not rfl rfl rfl rfl rfl ?_
        refine O_pickF rfl rfl rfl rfl rfl rfl ?_
        refine O_move rfl rfl rfl rfl rfl ?_
        refine R_case (t := 26) rfl (fun ht26 => ?_) (fun ht26 => ?_)
        · try simp only [decide_eq_true_eq, decide_eq_false_iff_not, Bool.not_eq_true', Bool.not_eq_false', Bool.not_true, Bool.not_false, Option.isNone_iff_eq_none, Bool.false_eq_true, Bool.true_eq_false] at ht26
          refine R_skip rfl rfl rfl rfl ?_
          refine R_skip rfl rfl rfl rfl ?_
          refine R_skip rfl rfl rfl rfl ?_
          refine R_skip rfl rfl rfl rfl ?_
          refine R_skip rfl rfl rfl rfl ?_
          refine R_skip rfl rfl rfl rfl ?_
          refine R_skip rfl rfl rfl rfl ?_
          refine R_skip rfl rfl rfl rfl ?_
          refine R_skip rfl rfl rfl rfl ?_
          refine R_skip rfl rfl rfl rfl ?_
          refine R_skip rfl rfl rfl rfl ?_
          refine R_skip rfl rfl rfl rfl ?_
          refine R_skip rfl rfl rfl rfl ?_
          refine R_skip rfl rfl rfl rfl ?_
          refine O_pickT rfl rfl rfl rfl rfl rfl ?_
          refine R_nil ?_
          refine tn ?_
          refine F_true rfl rfl ?_
          refine F_seq ?_
          refine F_region (p := ⟨_, [0, 0], []⟩) rfl [0, 1] rfl ?_
          refine O_assign rfl rfl rfl rfl rfl ?_
          refine O_assign rfl rfl rfl rfl rfl ?_
          refine R_nil ?_
          refine tn ?_
          refine F_ret ?_
          refine tr ?_
          refine br ?_
          refine tr ?_
          refine tr ?_
          refine br ?_
          refine tr ?_
          show endF _ _ _ _ _ _
          refine end0 trivial rfl rfl rfl hS ?_
          intro w hS
          replace hS := (hS).drop
          replace hS := (hS.u2).drop
          refine .inr ⟨?_, rfl, hS⟩
          intro h; first | (have h2 := h.1; rw [List.length_map] at h2; omega) | (have h2 := (h.2.1 _ (List.mem_map.2 ⟨_, hxQ, rfl⟩)); exact Bool.noConfusion ((hbr.2 h2).symm.trans (by assumption : brr = false))) | (have h2 := h.2.2; rw [hx, hz, List.map_append, List.map_append, List.map_cons] at h2; exact up_bad (not_lt_S hT) h2)
        · try simp only [decide_eq_true_eq, decide_eq_false_iff_not, Bool.not_eq_true', Bool.not_eq_false', Bool.not_true, Bool.not_false, Option.isNone_iff_eq_none, Bool.false_eq_true, Bool.true_eq_false] at ht26
          refine O_move rfl rfl rfl rfl rfl ?_
          refine O_cmp rfl rfl rfl rfl rfl rfl rfl ?_
          refine O_move rfl rfl rfl rfl rfl ?_
          refine R_caseT (t := 29) rfl (decide_eq_true (by omega)) ?_
          refine O_fieldAddr rfl rfl rfl rfl rfl Try.runUnderlying61 rfl Try.sizeOf59 ?_
          refine O_loadS hS rfl rfl rfl rfl rfl Try.isAgg59 (by repeat (first | exact .here rfl | apply CellAt.there)) (by trivial) ?_
          refine O_move rfl rfl rfl rfl rfl ?_
          refine O_subN rfl rfl rfl rfl rfl rfl (by first | omega | (dsimp only; omega)) ?_
          obtain ⟨ebq2, eoq2, hadq2⟩ := Rds.adF (m := (pre.length - 1)) (x := z) (enc := srcE) (size := 3) (fun _ => rfl) (by decide) (hA.1) (hS.u2) (by rw [hx, hz]; simp)
          refine O_indexSlE (m := (pre.length - 1)) rfl rfl rfl rfl Try.runUnderlying59 Try.sizeOf65 rfl hadq2 rfl (by omega) (by omega) ?_
          refine O_fieldAddr rfl rfl rfl rfl rfl Try.runUnderlying65 rfl Try.sizeOf9 ?_
          refine O_load rfl rfl rfl rfl rfl Try.isAgg9 (RdW.at (Rds.row (m := (pre.length - 1)) (x := z) (enc := srcE) (size := 3) (fun _ => rfl) (by decide) (hA.1) (hS.u2) hadq2 (by rw [hx, hz]; simp)) rfl) (by trivial) ?_
          refine O_fieldAddr rfl rfl rfl rfl rfl Try.runUnderlying65 rfl Try.sizeOf9 ?_
          refine O_loadS hS rfl rfl rfl rfl rfl Try.isAgg9 (by repeat (first | exact .here rfl | apply CellAt.there)) (by trivial) ?_
          refine O_cmpStr rfl rfl rfl rfl rfl rfl rfl ?_
          refine O_pickT rfl rfl rfl rfl rfl rfl ?_
          refine O_pickF rfl rfl rfl rfl rfl rfl ?_
          refine R_nil ?_
          refine tn ?_
          refine F_cond rfl (fun hT => ?_) (fun hT => ?_)
          · try simp only [decide_eq_true_eq, decide_eq_false_iff_not, Bool.not_eq_true', Bool.not_eq_false', Bool.not_true, Bool.not_false, Option.isNone_iff_eq_none, Bool.false_eq_true, Bool.true_eq_false] at hT
            refine F_seq ?_
            refine F_region (p := ⟨_, [0, 0], []⟩) rfl [0, 1] rfl ?_
            refine O_assign rfl rfl rfl rfl rfl ?_
            refine O_assign rfl rfl rfl rfl rfl ?_
            refine R_nil ?_
            refine tn ?_
            refine F_ret ?_
            refine tr ?_
            refine br ?_
            refine tr ?_
            refine tr ?_
            refine br ?_
            refine tr ?_
            show endF _ _ _ _ _ _
            refine end0 trivial rfl rfl rfl hS ?_
            intro w hS
            replace hS := (hS).drop
            replace hS := (hS.u2).drop
            refine .inr ⟨?_, rfl, hS⟩
            intro h; first | (have h2 := h.1; rw [List.length_map] at h2; omega) | (have h2 := (h.2.1 _ (List.mem_map.2 ⟨_, hxQ, rfl⟩)); exact Bool.noConfusion ((hbr.2 h2).symm.trans (by assumption : brr = false))) | (have h2 := h.2.2; rw [hx, hz, List.map_append, List.map_append, List.map_cons] at h2; exact up_bad (not_lt_S hT) h2)
          · try simp only [decide_eq_true_eq, decide_eq_false_iff_not, Bool.not_eq_true', Bool.not_eq_false', Bool.not_true, Bool.not_false, Option.isNone_iff_eq_none, Bool.false_eq_true, Bool.true_eq_false] at hT
            have hp2 : ∀ p y, pre.map Src.tell = p ++ [y] → O_S.lt y.1 xn = true := fun p y e => by rw [hz, List.map_append] at e; rw [last_of rfl e]; exact lt_S' hT
            refine F_skip ?_
            refine tn ?_
            refine F_seq ?_
            refine F_region (p := ⟨_, [0, 0, 1, 2, 0], []⟩) rfl [0, 1, 2, 3, 4] rfl ?_
            refine O_move rfl rfl rfl rfl rfl ?_
            refine O_fieldAddr rfl rfl rfl rfl rfl Try.runUnderlying65 rfl Try.sizeOf9 ?_
            refine O_loadS hS rfl rfl rfl rfl rfl Try.isAgg9 (by repeat (first | exact .here rfl | apply CellAt.there)) (by trivial) ?_
            refine O_call rfl rfl rfl rfl Try.call54 rfl (seenOf (by simp only [bldL, List.length_map]; omega) xn (hS.u3)) (fun _ _ hv => trivial) ?_
            rintro _ w ⟨rb, cb, M, d, rfl, hd, hM, hg, hS⟩
            replace hS := hS.u4.u2
            replace hS := hS.jn1
            have hup : ∀ y ∈ pre.map Src.tell, O_S.lt y.1 xn = true := by
              by_cases hp0 : pre.length = 0
              · rw [List.eq_nil_of_length_eq_zero hp0]; simp
              · obtain ⟨p', z, hz, _⟩ := snoc_of (n := pre.length - 1) (l := pre) (by omega)
                have h3 := hI.2.1
                rw [hz, List.map_append] at h3 ⊢
                exact up_last (x := (xn, (xf, xs))) h3 (hp2 _ _ (by rw [hz, List.map_append]; rfl))
            have hok : okS (xn, (xf, xs)) := hbr.1 (by assumption)
            have hd2 : d = (0, []) := by rw [hd, show Go.Sl.get O_sc xn (bldL (pre.map Src.tell)) = none from (bld_snoc (x := (xn, (xf, xs))) (d := (0, [])) hup).2]; rfl
            subst hd2
            replace hS := hS.u3
            rw [bigS_get hg] at hS
            replace hS := hS.n2
            obtain ⟨rk, hS⟩ := came_open (hS)
            replace hS := hS.u4.u2
            replace hS := hS.jn1
            refine O_assign rfl rfl rfl rfl rfl ?_
            refine R_nil ?_
            refine tn ?_
            refine F_seq ?_
            refine F_region (p := ⟨_, [0, 0, 1, 0, 0, 2], []⟩) rfl [0, 1, 2, 3, 4, 5] rfl ?_
            refine O_move rfl rfl rfl rfl rfl ?_
            refine O_fieldAddr rfl rfl rfl rfl rfl Try.runUnderlying65 rfl Try.sizeOf3 ?_
            refine O_loadS hS rfl rfl rfl rfl rfl Try.isAgg3 (by repeat (first | exact .here rfl | apply CellAt.there)) (by trivial) ?_
            refine O_nilCheck rfl rfl rfl rfl rfl ?_
            refine O_fieldAddr rfl rfl rfl rfl rfl Try.runUnderlying103 rfl Try.sizeOf3 ?_
            refine O_storeS hS rfl rfl rfl rfl rfl rfl rfl Try.sizeOf3 (by repeat (first | exact .here rfl rfl | apply SetAt.there)) (fun w' hv => trivial) ?_
            intro w hS
            refine R_nil ?_
            refine tn ?_
            refine F_seq ?_
            refine F_region (p := ⟨_, [0, 1, 0, 0], []⟩) rfl [0, 1, 2, 3] rfl ?_
            refine O_fieldAddr rfl rfl rfl rfl rfl Try.runUnderlying65 rfl Try.sizeOf28 ?_
            refine O_loadS hS rfl rfl rfl rfl rfl Try.isAgg28 (by repeat (first | exact .here rfl | apply CellAt.there)) (by trivial) ?_
            refine O_lenSl rfl rfl rfl rfl rfl Try.runUnderlying28 ?_
            refine O_move rfl rfl rfl rfl rfl ?_
            refine R_nil ?_
            refine tn ?_
            refine F_block ?_
            refine F_loopL (α := (Int)) (σ := (Unit)) (xs) [(1, _), (4, _), (7, _), (12, _), (13, _), (14, _), (52, _), (53, _)] (fun (pre2 : List (Int)) (st2 : Unit) => [(54, (.int .i64 (pre2.length : Nat)))]) (fun (pre2 : List (Int)) (st2 : Unit) => rackP E_ib O_ib rk (pre2.map fun n => (n, true))) (fun (pre2 : List (Int)) (st2 : Unit) => True) () (Sup.app ⟨rfl, rfl, rfl, rfl, rfl, rfl, rfl, rfl, trivial⟩ ⟨rfl, trivial⟩) (hS.u2) trivial ?_ ?_
            · clear hS
              intro st2 w hI2 hS
              replace hS := hS
              refine wpF.sup (L := [(1, _), (4, _), (7, _), (12, _), (13, _), (14, _), (52, _), (53, _), (54, _)]) ?_ ⟨rfl, rfl, rfl, rfl, rfl, rfl, rfl, rfl, rfl, trivial⟩
              replace hS := hS.u2
              refine F_seq ?_
              refine F_region (p := ⟨_, [0], []⟩) rfl [0] rfl ?_
              refine O_cmp rfl rfl rfl rfl rfl rfl rfl ?_
              refine R_nil ?_
              refine tn ?_
              refine F_seq ?_
              refine F_false rfl (decide_eq_false (by omega)) ?_
              refine F_exit ?_
              refine tx ?_
              refine tx ?_
              refine Go.Sl.bx rfl ?_
              refine bn ?_
              refine tn ?_
              refine F_region (p := ⟨_, [0, 0], []⟩) rfl [0, 1] rfl ?_
              refine O_addN rfl rfl rfl rfl rfl rfl (by first | omega | (dsimp only; omega)) ?_
              refine O_move rfl rfl rfl rfl rfl ?_
              refine R_nil ?_
              replace hS := hS.sp1
              replace hS := hS.u3.u2
              replace hS := came_mk hS
              replace hS := hS.u2
              replace hS := hS.sp1
              replace hS := hS.u4.u4.u5.u4
              replace hS := seen_more (x := (xn, (xf, xs))) hup hM hg hS
              rw [show pre.map Src.tell ++ [(xn, (xf, xs))] = (pre ++ [(⟨xn, xf, .slice adx xs.length cx, xs⟩ : Src)]).map Src.tell by simp [Src.tell]] at hS
              replace hS := hS.u2
              replace hS := hS.sp1.drop
              replace hS := hS.u3.u2.u3
              refine tn ⟨rfl, rfl, (), Sup.app ⟨rfl, rfl, rfl, rfl, trivial⟩ ⟨congrArg (fun z : Nat => some (Value.int .i64 z)) (show pre.length + 1 = (pre ++ [_]).length by simp), trivial⟩, ⟨by intro y hy; rw [List.map_append] at hy; rcases List.mem_append.1 hy with h | h; (exact hI.1 y h); (simp only [List.map_cons, List.map_nil, List.mem_singleton] at h; rw [h]; exact hok), by rw [List.map_append]; exact up_snoc hI.2.1 hp2, by simp; omega⟩, hS⟩
            · clear hS
              intro pre2 n post2 st2 w hx3 hI2 hS
              replace hS := hS
              refine wpF.sup (L := [(1, _), (4, _), (7, _), (12, _), (13, _), (14, _), (52, _), (53, _), (54, _)]) ?_ ⟨rfl, rfl, rfl, rfl, rfl, rfl, rfl, rfl, rfl, trivial⟩
              replace hS := hS.u2
              have hlk : pre2.length + (post2.length + 1) = xs.length := by rw [hx3]; simp
              have hlt : ∀ a ∈ pre2, a < n := by have h3 := hok.2.2.2.2.2.2; simp only at h3; rw [hx3] at h3; exact fun a ha => (List.pairwise_append.1 h3).2.2 a ha n (by simp)
              refine F_seq ?_
              refine F_region (p := ⟨_, [0], []⟩) rfl [0] rfl ?_
              refine O_cmp rfl rfl rfl rfl rfl rfl rfl ?_
              refine R_nil ?_
              refine tn ?_
              refine F_seq ?_
              refine F_true rfl (decide_eq_true (by omega)) ?_
              refine F_skip ?_
              refine tn ?_
              refine F_seq ?_
              refine F_block ?_
              refine F_seq ?_
              refine F_region (p := ⟨_, [0, 1, 0], []⟩) rfl [0, 1, 2] rfl ?_
              obtain ⟨ebq3, eoq3, hadq3⟩ := Rds.ad (k := pre2.length) (u := (.int .i64 n)) (hxA) (hS.u5) (by rw [hx3]; simp)
              refine O_indexSlE (m := pre2.length) rfl rfl rfl rfl Try.runUnderlying28 Try.sizeOf3 rfl hadq3 rfl rfl (by omega) ?_
              refine O_load rfl rfl rfl rfl rfl Try.isAgg3 (Rds.at (k := pre2.length * 1) (u := (.int .i64 n)) (hxA) (hS.u5) hadq3 (by rw [hx3]; simp)) (by trivial) ?_
              refine O_assign rfl rfl rfl rfl rfl ?_
              refine R_nil ?_
              refine tn ?_
              refine F_region (p := ⟨_, [0, 0, 0, 1, 0, 2], []⟩) rfl [0, 1, 2, 3, 4, 5] rfl ?_
              refine O_move rfl rfl rfl rfl rfl ?_
              refine O_nilCheck rfl rfl rfl rfl rfl ?_
              refine O_fieldAddr rfl rfl rfl rfl rfl Try.runUnderlying103 rfl Try.sizeOf101 ?_
              refine O_loadS hS rfl rfl rfl rfl rfl Try.isAgg101 (by repeat (first | exact .here rfl | apply CellAt.there)) (by trivial) ?_
              refine O_move rfl rfl rfl rfl rfl ?_
              refine O_call rfl rfl rfl rfl Try.call55 rfl (Put_ib n true (by simp only [List.length_map]; omega) (hS.u2)) (fun _ _ hv => trivial) ?_
              rintro _ w ⟨rfl, hS⟩
              replace hS := hS.u2
              refine R_nil ?_
              refine bn ?_
              refine tn ?_
              refine F_region (p := ⟨_, [0, 0], []⟩) rfl [0, 1] rfl ?_
              refine O_addN rfl rfl rfl rfl rfl rfl (by first | omega | (dsimp only; omega)) ?_
              refine O_move rfl rfl rfl rfl rfl ?_
              refine R_nil ?_
              replace hS := hS.u2
              rw [keys_snoc (fun _ _ => rfl) hlt] at hS
              replace hS := hS.u2
              replace hS := hS.lk4.lk4.lk4.lk4
              replace hS := hS.u5.u5.u5.u4.u5
              refine tn ⟨rfl, rfl, (), Sup.app ⟨rfl, rfl, rfl, rfl, rfl, rfl, rfl, rfl, trivial⟩ ⟨congrArg (fun z : Nat => some (Value.int .i64 z)) (show pre2.length + 1 = (pre2 ++ [n]).length by simp), trivial⟩, trivial, hS⟩
end Go.Proofs.Ytpnigaoibhogfaa
