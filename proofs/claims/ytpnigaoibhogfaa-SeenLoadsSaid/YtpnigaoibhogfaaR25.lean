/- YtpnigaoibhogfaaR25: a part of the proof: walks over the translated code, and plain facts on lists beside. -/
import Derived.Test.YtpnigaoibhogfaaR24
set_option linter.all false
namespace Go.Proofs.Ytpnigaoibhogfaa
open Go Go.RowKit Go.Sl
set_option linter.unusedVariables false
theorem rRight {w0 w : World} {R A : HProp} {ad : Option Addr} {c : Nat} {Q : List Src} (hA : RdSrc A ad Q) (hl : Q.length ≤ 1000000) (hl2 : ∀ x ∈ Q, x.seqs.length ≤ 100000) (hn : ∀ x ∈ Q, x.name.size ≤ 9223372036854775807) (hS : Sat w0 (A * R) w) :
    Calls Try.prog 33 #[.slice ad Q.length c] w (ret fun u w' => ∃ t, u = .bool t ∧ (t = true ↔ okL (Q.map Src.tell)) ∧ Sat w0 (A * R) w') := by
  replace hS := hS.noblks
  refine enterF (args := [_]) Try.func33 rfl Try.ntmps33 rfl rfl ?_
  refine F_seq ?_
  refine F_region (p := ⟨_, [0], []⟩) rfl [0] rfl ?_
  refine O_assign rfl rfl rfl rfl rfl ?_
  refine R_nil ?_
  refine tn ?_
  refine F_seq ?_
  refine F_seq ?_
  refine F_region (p := ⟨_, [0, 0, 0], []⟩) rfl [0, 1, 2] rfl ?_
  refine O_move rfl rfl rfl rfl rfl ?_
  refine O_lenSl rfl rfl rfl rfl rfl Try.runUnderlying57 ?_
  refine O_move rfl rfl rfl rfl rfl ?_
  refine R_nil ?_
  refine tn ?_
  refine F_block ?_
  refine F_loopL (α := (Src)) (σ := (Unit)) (Q) [(0, _), (8, _)] (fun (pre : List (Src)) (st : Unit) => [(9, (.int .i64 (pre.length : Nat)))]) (fun (pre : List (Src)) (st : Unit) => hemp) (fun (pre : List (Src)) (st : Unit) => (∀ y ∈ pre.map Src.tell, okS y) ∧ upN (pre.map Src.tell)) () (Sup.app ⟨rfl, rfl, trivial⟩ ⟨rfl, trivial⟩) (hS.to (hemp_star _).symm) ⟨by simp, List.Pairwise.nil⟩ ?_ ?_
  · clear hS
    intro st w hI hS
    replace hS := hS.to (hemp_star _)
    refine wpF.sup (L := [(0, _), (8, _), (9, _)]) ?_ ⟨rfl, rfl, rfl, trivial⟩
    refine F_seq ?_
    refine F_region (p := ⟨_, [0], []⟩) rfl [0] rfl ?_
    refine O_cmp rfl rfl rfl rfl rfl rfl rfl ?_
    refine R_nil ?_
    refine tn ?_
    refine F_seq ?_
    refine F_false rfl (decide_eq_false (by omega)) ?_
    refine F_exit ?_
    refine tx ?_
    refine tx ?_
    refine Go.Sl.bx rfl ?_
    refine tn ?_
    refine F_seq ?_
    refine F_region (p := ⟨_, [0, 0, 0, 0], []⟩) rfl [0, 1, 2, 3] rfl ?_
    refine O_move rfl rfl rfl rfl rfl ?_
    refine O_lenSl rfl rfl rfl rfl rfl Try.runUnderlying57 ?_
    refine O_cmp rfl rfl rfl rfl rfl rfl rfl ?_
    refine O_assign rfl rfl rfl rfl rfl ?_
    refine R_nil ?_
    refine tn ?_
    refine F_ret ?_
    show endF _ _ _ _ _ _
    refine end0 trivial rfl rfl rfl hS ?_
    intro w hS
    replace hS := (hS).drop
    refine ⟨_, rfl, ?_, hS⟩
    unfold okL
    simp only [hI.1, hI.2, List.length_map, decide_eq_true_eq, and_true, true_and]
    constructor
    · intro h; exact ⟨by omega, hI.1⟩
    · intro h; have := h.1; omega
  · clear hS
    intro pre x post st w hx hI hS
    replace hS := hS.to (hemp_star _)
    refine wpF.sup (L := [(0, _), (8, _), (9, _)]) ?_ ⟨rfl, rfl, rfl, trivial⟩
    have hlx : pre.length + (post.length + 1) = Q.length := by rw [hx]; simp
    have hxQ : x ∈ Q := by rw [hx]; simp
    obtain ⟨adx, cx, hxv, _, _, _, hxA⟩ := hA.2 x hxQ
    have hx2 := hl2 x hxQ
    have hxn := hn x hxQ
    obtain ⟨xn, xf, xv, xs⟩ := x
    simp only at hxv hxA hx2 hxn
    subst hxv
    by_cases hp : pre.length = 0
    · have hp2 : ∀ p z, pre.map Src.tell = p ++ [z] → O_S.lt z.1 xn = true := fun p z e => by have := congrArg List.length e; rw [List.length_map, hp] at this; simp at this
      refine F_seq ?_
      refine F_region (p := ⟨_, [0], []⟩) rfl [0] rfl ?_
      refine O_cmp rfl rfl rfl rfl rfl rfl rfl ?_
      refine R_nil ?_
      refine tn ?_
      refine F_seq ?_
      refine F_true rfl (decide_eq_true (by omega)) ?_
      refine F_skip ?_
      refine tn ?_
      refine F_seq ?_
      refine F_block ?_
      refine F_seq ?_
      refine F_region (p := ⟨_, [0, 0], []⟩) rfl [0, 1] rfl ?_
      refine O_move rfl rfl rfl rfl rfl ?_
      refine O_assign rfl rfl rfl rfl rfl ?_
      refine R_nil ?_
      refine tn ?_
      refine F_seq ?_
      refine F_region (p := ⟨_, [0, 0, 0, 1, 2, 2], []⟩) rfl [0, 1, 2, 3, 4, 5] rfl ?_
      refine O_move rfl rfl rfl rfl rfl ?_
      refine O_move rfl rfl rfl rfl rfl ?_
      obtain ⟨ebq1, eoq1, hadq1⟩ := Rds.adF (m := pre.length) (x := (Src.mk xn xf (.slice adx xs.length cx) xs)) (enc := srcE) (size := 3) (fun _ => rfl) (by decide) (hA.1) (hS.u2) (by rw [hx]; simp)
      refine O_indexSlE (m := pre.length) rfl rfl rfl rfl Try.runUnderlying57 Try.sizeOf69 rfl hadq1 rfl rfl (by omega) ?_
      refine O_loadAgg ((srcE (Src.mk xn xf (.slice adx xs.length cx) xs))) rfl rfl rfl rfl rfl Try.isAgg69 Try.sizeOf69 rfl (Rds.row (m := pre.length) (x := (Src.mk xn xf (.slice adx xs.length cx) xs)) (enc := srcE) (size := 3) (fun _ => rfl) (by decide) (hA.1) (hS.u2) hadq1 (by rw [hx]; simp)) (by trivial) ?_
      refine O_allocS hS rfl rfl rfl rfl Try.zeroValue69 (fun _ _ hv => trivial) ?_
      intro b1 w hS
      refine O_storeAgg (cs := [_, _, _]) hS rfl rfl rfl rfl rfl rfl Try.sizeOf69 rfl (Nat.le_of_ble_eq_true rfl) (by simp [one, srcE]) (fun _ hv => trivial) ?_
      intro w hS
      dsimp only [setsL, List.set_cons_zero, List.set_cons_succ, Value.cells] at hS
      refine R_nil ?_
      refine tn ?_
      refine F_seq ?_
      refine F_seq ?_
      refine F_drawnS hS (by kernel_rfl) (p := ⟨_, [0, 1, 2, 0, 0, 0, 0, 0, 0, 0, 0, 0, 0, 1, 0, 1, 2, 0, 0, 0, 0, 0, 1, 0, 0, 0, 0, 1, 0, 0, 0, 0, 1, 0, 0, 0, 0, 0, 1, 0, 0, 0], []⟩) rfl (.ofList [0, 1, 2, 3, 4, 5, 6, 7, 8, 9, 10, 11, 12, 13, 14, 15, 16, 17, 18, 19, 20, 21, 22, 23, 24, 25, 26, 27, 28, 29, 30, 31, 32, 33, 34, 35, 36, 37, 38, 39, 40, 41]) (by kernel_rfl) ?_
      intro w hS
      refine O_fieldAddr rfl rfl rfl rfl rfl Try.runUnderlying69 rfl Try.sizeOf9 ?_
      refine O_loadS hS rfl rfl rfl rfl rfl Try.isAgg9 (by repeat (first | exact .here rfl | apply CellAt.there)) (by trivial) ?_
      refine O_call rfl rfl rfl rfl Try.call27 rfl (rWord xn hxn (hS)) (fun _ _ hv => trivial) ?_
      rintro _ w ⟨bw, rfl, hbw, hS⟩
      refine O_not rfl rfl rfl rfl rfl ?_
      refine O_move rfl rfl rfl rfl rfl ?_
      refine R_case (t := 20) rfl (fun ht20 => ?_) (fun ht20 => ?_)
      · try simp only [decide_eq_true_eq, decide_eq_false_iff_not, Bool.not_eq_true', Bool.not_eq_false', Bool.not_true, Bool.not_false, Option.isNone_iff_eq_none, Bool.false_eq_true, Bool.true_eq_false] at ht20
        refine R_skip rfl rfl rfl rfl ?_
        refine R_skip rfl rfl rfl rfl ?_
        refine R_skip rfl rfl rfl rfl ?_
        refine R_skip rfl rfl rfl rfl ?_
        refine R_skip rfl rfl rfl rfl ?_
        refine R_skip rfl rfl rfl rfl ?_
        refine R_skip rfl rfl rfl rfl ?_
        refine R_skip rfl rfl rfl rfl ?_
        refine R_skip rfl rfl rfl rfl ?_
        refine R_skip rfl rfl rfl rfl ?_
        refine R_skip rfl rfl rfl rfl ?_
        refine R_skip rfl rfl rfl rfl ?_
        refine R_skip rfl rfl rfl rfl ?_
        refine R_skip rfl rfl rfl rfl ?_
        refine O_pickT rfl rfl rfl rfl rfl rfl ?_
        refine O_move rfl rfl rfl rfl rfl ?_
        refine R_skip rfl rfl rfl rfl ?_
        refine R_skip rfl rfl rfl rfl ?_
        refine R_skip rfl rfl rfl rfl ?_
        refine O_pickT rfl rfl rfl rfl rfl rfl ?_
        refine O_move rfl rfl rfl rfl rfl ?_
        refine R_skip rfl rfl rfl rfl ?_
        refine R_skip rfl rfl rfl rfl ?_
        refine R_skip rfl rfl rfl rfl ?_
        refine O_pickT rfl rfl rfl rfl rfl rfl ?_
        refine O_move rfl rfl rfl rfl rfl ?_
        refine R_skip rfl rfl rfl rfl ?_
        refine R_skip rfl rfl rfl rfl ?_
        refine R_skip rfl rfl rfl rfl ?_
        refine R_skip rfl rfl rfl rfl ?_
        refine O_pickT rfl rfl rfl rfl rfl rfl ?_
        refine O_move rfl rfl rfl rfl rfl ?_
        refine R_skip rfl rfl rfl rfl ?_
        refine R_skip rfl rfl rfl rfl ?_
        refine R_skip rfl rfl rfl rfl ?_
        refine R_skip rfl rfl rfl rfl ?_
        refine O_pickT rfl rfl rfl rfl rfl rfl ?_
        refine R_nil ?_
        refine tn ?_
        refine F_true rfl rfl ?_
        refine F_seq ?_
        refine F_region (p := ⟨_, [0], []⟩) rfl [0] rfl ?_
        refine O_assign rfl rfl rfl rfl rfl ?_
        refine R_nil ?_
        refine tn ?_
        refine F_ret ?_
        refine tr ?_
        refine br ?_
        refine tr ?_
        refine tr ?_
        refine br ?_
        refine tr ?_
        show endF _ _ _ _ _ _
        refine end0 trivial rfl rfl rfl hS ?_
        intro w hS
        replace hS := (hS).drop
        refine ⟨_, rfl, ?_, hS⟩
        have hbad : ¬ okL (Q.map Src.tell) := by
          intro h; first | (have h2 := (h.2.1 _ (List.mem_map.2 ⟨_, hxQ, rfl⟩)); exact Bool.noConfusion ((hbw.2 h2.1).symm.trans (by assumption : bw = false))) | (have h2 := (h.2.1 _ (List.mem_map.2 ⟨_, hxQ, rfl⟩)); have h3 := h2.2; simp only [Src.tell] at h3; omega)
        simp [hbad]
      · try simp only [decide_eq_true_eq, decide_eq_false_iff_not, Bool.not_eq_true', Bool.not_eq_false', Bool.not_true, Bool.not_false, Option.isNone_iff_eq_none, Bool.false_eq_true, Bool.true_eq_false] at ht20
        refine O_move rfl rfl rfl rfl rfl ?_
        refine O_cmp rfl rfl rfl rfl rfl rfl rfl ?_
        refine O_move rfl rfl rfl rfl rfl ?_
        refine R_caseF (t := 23) rfl (decide_eq_false (by omega)) ?_
        refine R_skip rfl rfl rfl rfl ?_
        refine R_skip rfl rfl rfl rfl ?_
        refine R_skip rfl rfl rfl rfl ?_
        refine R_skip rfl rfl rfl rfl ?_
        refine R_skip rfl rfl rfl rfl ?_
        refine R_skip rfl rfl rfl rfl ?_
        refine R_skip rfl rfl rfl rfl ?_
        refine R_skip rfl rfl rfl rfl ?_
        refine R_skip rfl rfl rfl rfl ?_
        refine R_skip rfl rfl rfl rfl ?_
        refine O_pickF rfl rfl rfl rfl rfl rfl ?_
        refine O_pickF rfl rfl rfl rfl rfl rfl ?_
        refine O_move rfl rfl rfl rfl rfl ?_
        refine O_fieldAddr rfl rfl rfl rfl rfl Try.runUnderlying69 rfl Try.sizeOf3 ?_
        refine O_loadS hS rfl rfl rfl rfl rfl Try.isAgg3 (by repeat (first | exact .here rfl | apply CellAt.there)) (by trivial) ?_
        refine O_cmp rfl rfl rfl rfl rfl rfl rfl ?_
        refine O_pickF rfl rfl rfl rfl rfl rfl ?_
        refine O_move rfl rfl rfl rfl rfl ?_
        refine R_case (t := 41) rfl (fun ht41 => ?_) (fun ht41 => ?_)
        · try simp only [decide_eq_true_eq, decide_eq_false_iff_not, Bool.not_eq_true', Bool.not_eq_false', Bool.not_true, Bool.not_false, Option.isNone_iff_eq_none, Bool.false_eq_true, Bool.true_eq_false] at ht41
          refine R_skip rfl rfl rfl rfl ?_
          refine R_skip rfl rfl rfl rfl ?_
          refine R_skip rfl rfl rfl rfl ?_
          refine O_pickT rfl rfl rfl rfl rfl rfl ?_
          refine O_move rfl rfl rfl rfl rfl ?_
          refine R_skip rfl rfl rfl rfl ?_
          refine R_skip rfl rfl rfl rfl ?_
          refine R_skip rfl rfl rfl rfl ?_
          refine R_skip rfl rfl rfl rfl ?_
          refine O_pickT rfl rfl rfl rfl rfl rfl ?_
          refine O_move rfl rfl rfl rfl rfl ?_
          refine R_skip rfl rfl rfl rfl ?_
          refine R_skip rfl rfl rfl rfl ?_
          refine R_skip rfl rfl rfl rfl ?_
          refine R_skip rfl rfl rfl rfl ?_
          refine O_pickT rfl rfl rfl rfl rfl rfl ?_
          refine R_nil ?_
          refine tn ?_
          refine F_true rfl rfl ?_
          refine F_seq ?_
          refine F_region (p := ⟨_, [0], []⟩) rfl [0] rfl ?_
          refine O_assign rfl rfl rfl rfl rfl ?_
          refine R_nil ?_
          refine tn ?_
          refine F_ret ?_
          refine tr ?_
          refine br ?_
          refine tr ?_
          refine tr ?_
          refine br ?_
          refine tr ?_
          show endF _ _ _ _ _ _
          refine end0 trivial rfl rfl rfl hS ?_
          intro w hS
          replace hS := (hS).drop
          refine ⟨_, rfl, ?_, hS⟩
          have hbad : ¬ okL (Q.map Src.tell) := by
            intro h; first | (have h2 := (h.2.1 _ (List.mem_map.2 ⟨_, hxQ, rfl⟩)); exact Bool.noConfusion ((hbw.2 h2.1).symm.trans (by assumption : bw = false))) | (have h2 := (h.2.1 _ (List.mem_map.2 ⟨_, hxQ, rfl⟩)); have h3 := h2.2; simp only [Src.tell] at h3; omega)
          simp [hbad]
        · try simp only [decide_eq_true_eq, decide_eq_false_iff_not, Bool.not_eq_true', Bool.not_eq_false', Bool.not_true, Bool.not_false, Option.isNone_iff_eq_none, Bool.false_eq_true, Bool.true_eq_false] at ht41
          refine O_fieldAddr rfl rfl rfl rfl rfl Try.runUnderlying69 rfl Try.sizeOf3 ?_
          refine O_loadS hS rfl rfl rfl rfl rfl Try.isAgg3 (by repeat (first | exact .here rfl | apply CellAt.there)) (by trivial) ?_
          refine O_cmp rfl rfl rfl rfl rfl rfl rfl ?_
          refine O_pickF rfl rfl rfl rfl rfl rfl ?_
          refine O_move rfl rfl rfl rfl rfl ?_
          refine R_case (t := 46) rfl (fun ht46 => ?_) (fun ht46 => ?_)
          · try simp only [decide_eq_true_eq, decide_eq_false_iff_not, Bool.not_eq_true', Bool.not_eq_false', Bool.not_true, Bool.not_false, Option.isNone_iff_eq_none, Bool.false_eq_true, Bool.true_eq_false] at ht46
            refine R_skip rfl rfl rfl rfl ?_
            refine R_skip rfl rfl rfl rfl ?_
            refine R_skip rfl rfl rfl rfl ?_
            refine R_skip rfl rfl rfl rfl ?_
            refine O_pickT rfl rfl rfl rfl rfl rfl ?_
            refine O_move rfl rfl rfl rfl rfl ?_
            refine R_skip rfl rfl rfl rfl ?_
            refine R_skip rfl rfl rfl rfl ?_
            refine R_skip rfl rfl rfl rfl ?_
            refine R_skip rfl rfl rfl rfl ?_
            refine O_pickT rfl rfl rfl rfl rfl rfl ?_
            refine R_nil ?_
            refine tn ?_
            refine F_true rfl rfl ?_
            refine F_seq ?_
            refine F_region (p := ⟨_, [0], []⟩) rfl [0] rfl ?_
            refine O_assign rfl rfl rfl rfl rfl ?_
            refine R_nil ?_
            refine tn ?_
            refine F_ret ?_
            refine tr ?_
            refine br ?_
            refine tr ?_
            refine tr ?_
            refine br ?_
            refine tr ?_
            show endF _ _ _ _ _ _
            refine end0 trivial rfl rfl rfl hS ?_
            intro w hS
            replace hS := (hS).drop
            refine ⟨_, rfl, ?_, hS⟩
            have hbad : ¬ okL (Q.map Src.tell) := by
              intro h; first | (have h2 := (h.2.1 _ (List.mem_map.2 ⟨_, hxQ, rfl⟩)); exact Bool.noConfusion ((hbw.2 h2.1).symm.trans (by assumption : bw = false))) | (have h2 := (h.2.1 _ (List.mem_map.2 ⟨_, hxQ, rfl⟩)); have h3 := h2.2; simp only [Src.tell] at h3; omega)
            simp [hbad]
          · try simp only [decide_eq_true_eq, decide_eq_false_iff_not, Bool.not_eq_true', Bool.not_eq_false', Bool.not_true, Bool.not_false, Option.isNone_iff_eq_none, Bool.false_eq_true, Bool.true_eq_false] at ht46
            refine O_fieldAddr rfl rfl rfl rfl rfl Try.runUnderlying69 rfl Try.sizeOf28 ?_
            refine O_loadS hS rfl rfl rfl rfl rfl Try.isAgg28 (by repeat (first | exact .here rfl | apply CellAt.there)) (by trivial) ?_
            refine O_lenSl rfl rfl rfl rfl rfl Try.runUnderlying28 ?_
            refine O_cmp rfl rfl rfl rfl rfl rfl rfl ?_
            refine O_pickF rfl rfl rfl rfl rfl rfl ?_
            refine O_move rfl rfl rfl rfl rfl ?_
            refine R_case (t := 52) rfl (fun ht52 => ?_) (fun ht52 => ?_)
            · try simp only [decide_eq_true_eq, decide_eq_false_iff_not, Bool.not_eq_true', Bool.not_eq_false', Bool.not_true, Bool.not_false, Option.isNone_iff_eq_none, Bool.false_eq_true, Bool.true_eq_false] at ht52
              refine R_skip rfl rfl rfl rfl ?_
              refine R_skip rfl rfl rfl rfl ?_
              refine R_skip rfl rfl rfl rfl ?_
              refine R_skip rfl rfl rfl rfl ?_
              refine O_pickT rfl rfl rfl rfl rfl rfl ?_
              refine R_nil ?_
              refine tn ?_
              refine F_true rfl rfl ?_
              refine F_seq ?_
              refine F_region (p := ⟨_, [0], []⟩) rfl [0] rfl ?_
              refine O_assign rfl rfl rfl rfl rfl ?_
              refine R_nil ?_
              refine tn ?_
              refine F_ret ?_
              refine tr ?_
              refine br ?_
              refine tr ?_
              refine tr ?_
              refine br ?_
              refine tr ?_
              show endF _ _ _ _ _ _
              refine end0 trivial rfl rfl rfl hS ?_
              intro w hS
              replace hS := (hS).drop
              refine ⟨_, rfl, ?_, hS⟩
              have hbad : ¬ okL (Q.map Src.tell) := by
                intro h; first | (have h2 := (h.2.1 _ (List.mem_map.2 ⟨_, hxQ, rfl⟩)); exact Bool.noConfusion ((hbw.2 h2.1).symm.trans (by assumption : bw = false))) | (have h2 := (h.2.1 _ (List.mem_map.2 ⟨_, hxQ, rfl⟩)); have h3 := h2.2; simp only [Src.tell] at h3; omega)
              simp [hbad]
            · try simp only [decide_eq_true_eq, decide_eq_false_iff_not, Bool.not_eq_true', Bool.not_eq_false', Bool.not_true, Bool.not_false, Option.isNone_iff_eq_none, Bool.false_eq_true, Bool.true_eq_false] at ht52
              refine O_fieldAddr rfl rfl rfl rfl rfl Try.runUnderlying69 rfl Try.sizeOf28 ?_
              refine O_loadS hS rfl rfl rfl rfl rfl Try.isAgg28 (by repeat (first | exact .here rfl | apply CellAt.there)) (by trivial) ?_
              refine O_lenSl rfl rfl rfl rfl rfl Try.runUnderlying28 ?_
              refine O_cmp rfl rfl rfl rfl rfl rfl rfl ?_
              refine O_pickF rfl rfl rfl rfl rfl rfl ?_
              refine R_nil ?_
              refine tn ?_
              refine F_cond rfl (fun ht57 => ?_) (fun ht57 => ?_)
              · try simp only [decide_eq_true_eq, decide_eq_false_iff_not, Bool.not_eq_true', Bool.not_eq_false', Bool.not_true, Bool.not_false, Option.isNone_iff_eq_none, Bool.false_eq_true, Bool.true_eq_false] at ht57
                refine F_seq ?_
                refine F_region (p := ⟨_, [0], []⟩) rfl [0] rfl ?_
                refine O_assign rfl rfl rfl rfl rfl ?_
                refine R_nil ?_
                refine tn ?_
                refine F_ret ?_
                refine tr ?_
                refine br ?_
                refine tr ?_
                refine tr ?_
                refine br ?_
                refine tr ?_
                show endF _ _ _ _ _ _
                refine end0 trivial rfl rfl rfl hS ?_
                intro w hS
                replace hS := (hS).drop
                refine ⟨_, rfl, ?_, hS⟩
                have hbad : ¬ okL (Q.map Src.tell) := by
                  intro h; first | (have h2 := (h.2.1 _ (List.mem_map.2 ⟨_, hxQ, rfl⟩)); exact Bool.noConfusion ((hbw.2 h2.1).symm.trans (by assumption : bw = false))) | (have h2 := (h.2.1 _ (List.mem_map.2 ⟨_, hxQ, rfl⟩)); have h3 := h2.2; simp only [Src.tell] at h3; omega)
                simp [hbad]
              · try simp only [decide_eq_true_eq, decide_eq_false_iff_not, Bool.not_eq_true', Bool.not_eq_false', Bool.not_true, Bool.not_false, Option.isNone_iff_eq_none, Bool.false_eq_true, Bool.true_eq_false] at ht57
                refine F_skip ?_
                refine tn ?_
                refine F_seq ?_
                refine F_region (p := ⟨_, [0, 1, 0, 0], []⟩) rfl [0, 1, 2, 3] rfl ?_
                refine O_fieldAddr rfl rfl rfl rfl rfl Try.runUnderlying69 rfl Try.sizeOf28 ?_
                refine O_loadS hS rfl rfl rfl rfl rfl Try.isAgg28 (by repeat (first | exact .here rfl | apply CellAt.there)) (by trivial) ?_
                refine O_lenSl rfl rfl rfl rfl rfl Try.runUnderlying28 ?_
                refine O_move rfl rfl rfl rfl rfl ?_
                refine R_nil ?_
                refine tn ?_
                refine F_block ?_
                refine F_loopL (α := (Int)) (σ := (Unit)) (xs) [(0, _), (4, _), (8, _), (9, _), (60, _)] (fun (pre2 : List (Int)) (st2 : Unit) => [(61, (.int .i64 (pre2.length : Nat)))]) (fun (pre2 : List (Int)) (st2 : Unit) => hemp) (fun (pre2 : List (Int)) (st2 : Unit) => risP pre2 (xf + 1) 1099511627776) () (Sup.app ⟨rfl, rfl, rfl, rfl, rfl, trivial⟩ ⟨rfl, trivial⟩) (hS.to (hemp_star _).symm) ris_nil ?_ ?_
                · clear hS
                  intro st2 w hI2 hS
                  replace hS := hS.to (hemp_star _)
                  refine wpF.sup (L := [(0, _), (4, _), (8, _), (9, _), (60, _), (61, _)]) ?_ ⟨rfl, rfl, rfl, rfl, rfl, rfl, trivial⟩
                  have hok : okS (Src.tell ⟨xn, xf, .slice adx xs.length cx, xs⟩) := ⟨hbw.1 (by assumption), by simp only [Src.tell]; omega, by simp only [Src.tell]; omega, by simp only [Src.tell]; omega, by simp only [Src.tell]; omega, hI2⟩
                  refine F_seq ?_
                  refine F_region (p := ⟨_, [0], []⟩) rfl [0] rfl ?_
                  refine O_cmp rfl rfl rfl rfl rfl rfl rfl ?_
                  refine R_nil ?_
                  refine tn ?_
                  refine F_seq ?_
                  refine F_false rfl (decide_eq_false (by omega)) ?_
                  refine F_exit ?_
                  refine tx ?_
                  refine tx ?_
                  refine Go.Sl.bx rfl ?_
                  refine bn ?_
                  refine tn ?_
                  refine F_region (p := ⟨_, [0, 0], []⟩) rfl [0, 1] rfl ?_
                  refine O_addN rfl rfl rfl rfl rfl rfl (by first | omega | (dsimp only; omega)) ?_
                  refine O_move rfl rfl rfl rfl rfl ?_
                  refine R_nil ?_
                  replace hS := hS.sp1.drop
                  replace hS := hS.u2.u2
                  refine tn ⟨rfl, rfl, (), Sup.app ⟨rfl, rfl, trivial⟩ ⟨congrArg (fun z : Nat => some (Value.int .i64 z)) (show pre.length + 1 = (pre ++ [_]).length by simp), trivial⟩, ⟨by intro y hy; rw [List.map_append] at hy; rcases List.mem_append.1 hy with h | h; (exact hI.1 y h); (simp only [List.map_cons, List.map_nil, List.mem_singleton] at h; rw [h]; exact hok), by rw [List.map_append]; exact up_snoc hI.2 hp2⟩, hS.to (hemp_star _).symm⟩
                · clear hS
                  intro pre2 n post2 st2 w hx3 hI2 hS
                  replace hS := hS.to (hemp_star _)
                  refine wpF.sup (L := [(0, _), (4, _), (8, _), (9, _), (60, _), (61, _)]) ?_ ⟨rfl, rfl, rfl, rfl, rfl, rfl, trivial⟩
                  have hlk : pre2.length + (post2.length + 1) = xs.length := by rw [hx3]; simp
                  by_cases hq : pre2.length = 0
                  · have hq2 : ∀ p y, pre2 = p ++ [y] → y < n := fun p y e => by rw [e] at hq; simp at hq
                    refine F_seq ?_
                    refine F_region (p := ⟨_, [0], []⟩) rfl [0] rfl ?_
                    refine O_cmp rfl rfl rfl rfl rfl rfl rfl ?_
                    refine R_nil ?_
                    refine tn ?_
                    refine F_seq ?_
                    refine F_true rfl (decide_eq_true (by omega)) ?_
                    refine F_skip ?_
                    refine tn ?_
                    refine F_seq ?_
                    refine F_block ?_
                    refine F_seq ?_
                    refine F_region (p := ⟨_, [0, 0], []⟩) rfl [0, 1] rfl ?_
                    refine O_move rfl rfl rfl rfl rfl ?_
                    refine O_assign rfl rfl rfl rfl rfl ?_
                    refine R_nil ?_
                    refine tn ?_
                    refine F_seq ?_
                    refine F_region (p := ⟨_, [0, 1, 0, 0, 1, 0], []⟩) rfl [0, 1, 2, 3, 4, 5] rfl ?_
                    refine O_fieldAddr rfl rfl rfl rfl rfl Try.runUnderlying69 rfl Try.sizeOf28 ?_
                    refine O_loadS hS rfl rfl rfl rfl rfl Try.isAgg28 (by repeat (first | exact .here rfl | apply CellAt.there)) (by trivial) ?_
                    refine O_move rfl rfl rfl rfl rfl ?_
                    obtain ⟨ebq2, eoq2, hadq2⟩ := Rds.ad (k := pre2.length) (u := (.int .i64 n)) (hxA) (hS.u2) (by rw [hx3]; simp)
                    refine O_indexSlE (m := pre2.length) rfl rfl rfl rfl Try.runUnderlying28 Try.sizeOf3 rfl hadq2 rfl rfl (by omega) ?_
                    refine O_load rfl rfl rfl rfl rfl Try.isAgg3 (Rds.at (k := pre2.length * 1) (u := (.int .i64 n)) (hxA) (hS.u2) hadq2 (by rw [hx3]; simp)) (by trivial) ?_
                    refine O_assign rfl rfl rfl rfl rfl ?_
                    refine R_nil ?_
                    refine tn ?_
                    refine F_seq ?_
                    refine F_region (p := ⟨_, [0, 0, 1, 0, 0, 0, 0, 0, 0, 0, 0, 0, 0, 1, 0, 0, 0, 1, 0, 0, 0, 0], []⟩) rfl [0, 1, 2, 3, 4, 5, 6, 7, 8, 9, 10, 11, 12, 13, 14, 15, 16, 17, 18, 19, 20, 21] rfl ?_
                    refine O_move rfl rfl rfl rfl rfl ?_
                    refine O_fieldAddr rfl rfl rfl rfl rfl Try.runUnderlying69 rfl Try.sizeOf3 ?_
                    refine O_loadS hS rfl rfl rfl rfl rfl Try.isAgg3 (by repeat (first | exact .here rfl | apply CellAt.there)) (by trivial) ?_
                    refine O_cmp rfl rfl rfl rfl rfl rfl rfl ?_
                    refine O_move rfl rfl rfl rfl rfl ?_
                    refine R_case (t := 73) rfl (fun ht73 => ?_) (fun ht73 => ?_)
                    · try simp only [decide_eq_true_eq, decide_eq_false_iff_not, Bool.not_eq_true', Bool.not_eq_false', Bool.not_true, Bool.not_false, Option.isNone_iff_eq_none, Bool.false_eq_true, Bool.true_eq_false] at ht73
                      refine R_skip rfl rfl rfl rfl ?_
                      refine R_skip rfl rfl rfl rfl ?_
                      refine O_pickT rfl rfl rfl rfl rfl rfl ?_
                      refine O_move rfl rfl rfl rfl rfl ?_
                      refine R_skip rfl rfl rfl rfl ?_
                      refine R_skip rfl rfl rfl rfl ?_
                      refine R_skip rfl rfl rfl rfl ?_
                      refine R_skip rfl rfl rfl rfl ?_
                      refine R_skip rfl rfl rfl rfl ?_
                      refine R_skip rfl rfl rfl rfl ?_
                      refine R_skip rfl rfl rfl rfl ?_
                      refine R_skip rfl rfl rfl rfl ?_
                      refine R_skip rfl rfl rfl rfl ?_
                      refine R_skip rfl rfl rfl rfl ?_
                      refine R_skip rfl rfl rfl rfl ?_
                      refine R_skip rfl rfl rfl rfl ?_
                      refine O_pickT rfl rfl rfl rfl rfl rfl ?_
                      refine R_nil ?_
                      refine tn ?_
                      refine F_true rfl rfl ?_
                      refine F_seq ?_
                      refine F_region (p := ⟨_, [0], []⟩) rfl [0] rfl ?_
                      refine O_assign rfl rfl rfl rfl rfl ?_
                      refine R_nil ?_
                      refine tn ?_
                      refine F_ret ?_
                      refine br ?_
                      refine tr ?_
                      refine tr ?_
                      refine br ?_
                      refine br ?_
                      refine tr ?_
                      refine tr ?_
                      refine br ?_
                      refine tr ?_
                      show endF _ _ _ _ _ _
                      refine end0 trivial rfl rfl rfl hS ?_
                      intro w hS
                      replace hS := (hS).drop
                      refine ⟨_, rfl, ?_, hS⟩
                      have hbad : ¬ okL (Q.map Src.tell) := by
                        intro h; have h2 := (h.2.1 _ (List.mem_map.2 ⟨_, hxQ, rfl⟩)).2.2.2.2.2; simp only [Src.tell] at h2; rw [hx3] at h2; exact ris_bad (by first | exact .inl (by first | omega | (dsimp only at *; omega)) ) h2
                      simp [hbad]
                    · try simp only [decide_eq_true_eq, decide_eq_false_iff_not, Bool.not_eq_true', Bool.not_eq_false', Bool.not_true, Bool.not_false, Option.isNone_iff_eq_none, Bool.false_eq_true, Bool.true_eq_false] at ht73
                      refine O_move rfl rfl rfl rfl rfl ?_
                      refine O_cmp rfl rfl rfl rfl rfl rfl rfl ?_
                      refine O_pickF rfl rfl rfl rfl rfl rfl ?_
                      refine O_move rfl rfl rfl rfl rfl ?_
                      refine R_case (t := 77) rfl (fun ht77 => ?_) (fun ht77 => ?_)
                      · try simp only [decide_eq_true_eq, decide_eq_false_iff_not, Bool.not_eq_true', Bool.not_eq_false', Bool.not_true, Bool.not_false, Option.isNone_iff_eq_none, Bool.false_eq_true, Bool.true_eq_false] at ht77
                        refine R_skip rfl rfl rfl rfl ?_
                        refine R_skip rfl rfl rfl rfl ?_
                        refine R_skip rfl rfl rfl rfl ?_
                        refine R_skip rfl rfl rfl rfl ?_
                        refine R_skip rfl rfl rfl rfl ?_
                        refine R_skip rfl rfl rfl rfl ?_
                        refine R_skip rfl rfl rfl rfl ?_
                        refine R_skip rfl rfl rfl rfl ?_
                        refine R_skip rfl rfl rfl rfl ?_
                        refine R_skip rfl rfl rfl rfl ?_
                        refine R_skip rfl rfl rfl rfl ?_
                        refine R_skip rfl rfl rfl rfl ?_
                        refine O_pickT rfl rfl rfl rfl rfl rfl ?_
                        refine R_nil ?_
                        refine tn ?_
                        refine F_true rfl rfl ?_
                        refine F_seq ?_
                        refine F_region (p := ⟨_, [0], []⟩) rfl [0] rfl ?_
                        refine O_assign rfl rfl rfl rfl rfl ?_
                        refine R_nil ?_
                        refine tn ?_
                        refine F_ret ?_
                        refine br ?_
                        refine tr ?_
                        refine tr ?_
                        refine br ?_
                        refine br ?_
                        refine tr ?_
                        refine tr ?_
                        refine br ?_
                        refine tr ?_
                        show endF _ _ _ _ _ _
                        refine end0 trivial rfl rfl rfl hS ?_
                        intro w hS
                        replace hS := (hS).drop
                        refine ⟨_, rfl, ?_, hS⟩
                        have hbad : ¬ okL (Q.map Src.tell) := by
                          intro h; have h2 := (h.2.1 _ (List.mem_map.2 ⟨_, hxQ, rfl⟩)).2.2.2.2.2; simp only [Src.tell] at h2; rw [hx3] at h2; exact ris_bad (by first | exact .inl (by first | omega | (dsimp only at *; omega)) ) h2
                        simp [hbad]
                      · try simp only [decide_eq_true_eq, decide_eq_false_iff_not, Bool.not_eq_true', Bool.not_eq_false', Bool.not_true, Bool.not_false, Option.isNone_iff_eq_none, Bool.false_eq_true, Bool.true_eq_false] at ht77
                        refine O_move rfl rfl rfl rfl rfl ?_
                        refine O_cmp rfl rfl rfl rfl rfl rfl rfl ?_
                        refine O_move rfl rfl rfl rfl rfl ?_
                        refine R_caseF (t := 80) rfl (decide_eq_false (by omega)) ?_
                        refine R_skip rfl rfl rfl rfl ?_
                        refine R_skip rfl rfl rfl rfl ?_
                        refine R_skip rfl rfl rfl rfl ?_
                        refine R_skip rfl rfl rfl rfl ?_
                        refine R_skip rfl rfl rfl rfl ?_
                        refine R_skip rfl rfl rfl rfl ?_
                        refine R_skip rfl rfl rfl rfl ?_
                        refine R_skip rfl rfl rfl rfl ?_
                        refine O_pickF rfl rfl rfl rfl rfl rfl ?_
                        refine O_pickF rfl rfl rfl rfl rfl rfl ?_
                        refine R_nil ?_
                        refine tn ?_
                        refine F_false rfl rfl ?_
                        refine F_skip ?_
                        refine bn ?_
                        refine tn ?_
                        refine F_region (p := ⟨_, [0, 0], []⟩) rfl [0, 1] rfl ?_
                        refine O_addN rfl rfl rfl rfl rfl rfl (by first | omega | (dsimp only; omega)) ?_
                        refine O_move rfl rfl rfl rfl rfl ?_
                        refine R_nil ?_
                        replace hS := hS.u2.u2
                        refine tn ⟨rfl, rfl, (), Sup.app ⟨rfl, rfl, rfl, rfl, rfl, trivial⟩ ⟨congrArg (fun z : Nat => some (Value.int .i64 z)) (show pre2.length + 1 = (pre2 ++ [n]).length by simp), trivial⟩, ris_snoc hI2 (by first | omega | (dsimp only; omega)) hq2, hS.to (hemp_star _).symm⟩
                  · obtain ⟨q', k, hk, hkl⟩ := snoc_of (n := pre2.length - 1) (l := pre2) (by omega)
                    refine F_seq ?_
                    refine F_region (p := ⟨_, [0], []⟩) rfl [0] rfl ?_
                    refine O_cmp rfl rfl rfl rfl rfl rfl rfl ?_
                    refine R_nil ?_
                    refine tn ?_
                    refine F_seq ?_
                    refine F_true rfl (decide_eq_true (by omega)) ?_
                    refine F_skip ?_
                    refine tn ?_
                    refine F_seq ?_
                    refine F_block ?_
                    refine F_seq ?_
                    refine F_region (p := ⟨_, [0, 0], []⟩) rfl [0, 1] rfl ?_
                    refine O_move rfl rfl rfl rfl rfl ?_
                    refine O_assign rfl rfl rfl rfl rfl ?_
                    refine R_nil ?_
                    refine tn ?_
                    refine F_seq ?_
                    refine F_region (p := ⟨_, [0, 1, 0, 0, 1, 0], []⟩) rfl [0, 1, 2, 3, 4, 5] rfl ?_
                    refine O_fieldAddr rfl rfl rfl rfl rfl Try.runUnderlying69 rfl Try.sizeOf28 ?_
                    refine O_loadS hS rfl rfl rfl rfl rfl Try.isAgg28 (by repeat (first | exact .here rfl | apply CellAt.there)) (by trivial) ?_
                    refine O_move rfl rfl rfl rfl rfl ?_
                    obtain ⟨ebq2, eoq2, hadq2⟩ := Rds.ad (k := pre2.length) (u := (.int .i64 n)) (hxA) (hS.u2) (by rw [hx3]; simp)
                    refine O_indexSlE (m := pre2.length) rfl rfl rfl rfl Try.runUnderlying28 Try.sizeOf3 rfl hadq2 rfl rfl (by omega) ?_
                    refine O_load rfl rfl rfl rfl rfl Try.isAgg3 (Rds.at (k := pre2.length * 1) (u := (.int .i64 n)) (hxA) (hS.u2) hadq2 (by rw [hx3]; simp)) (by trivial) ?_
                    refine O_assign rfl rfl rfl rfl rfl ?_
                    refine R_nil ?_
                    refine tn ?_
                    refine F_seq ?_
                    refine F_region (p := ⟨_, [0, 0, 1, 0, 0, 0, 0, 0, 0, 0, 0, 0, 0, 1, 0, 0, 0, 1, 0, 0, 0, 0], []⟩) rfl [0, 1, 2, 3, 4, 5, 6, 7, 8, 9, 10, 11, 12, 13, 14, 15, 16, 17, 18, 19, 20, 21] rfl ?_
                    refine O_move rfl rfl rfl rfl rfl ?_
                    refine O_fieldAddr rfl rfl rfl rfl rfl Try.runUnderlying69 rfl Try.sizeOf3 ?_
                    refine O_loadS hS rfl rfl rfl rfl rfl Try.isAgg3 (by repeat (first | exact .here rfl | apply CellAt.there)) (by trivial) ?_
                    refine O_cmp rfl rfl rfl rfl rfl rfl rfl ?_
                    refine O_move rfl rfl rfl rfl rfl ?_
                    refine R_case (t := 73) rfl (fun ht73 => ?_) (fun ht73 => ?_)
                    · try simp only [decide_eq_true_eq, decide_eq_false_iff_not, Bool.not_eq_true', Bool.not_eq_false', Bool.not_true, Bool.not_false, Option.isNone_iff_eq_none, Bool.false_eq_true, Bool.true_eq_false] at ht73
                      refine R_skip rfl rfl rfl rfl ?_
                      refine R_skip rfl rfl rfl rfl ?_
                      refine O_pickT rfl rfl rfl rfl rfl rfl ?_
                      refine O_move rfl rfl rfl rfl rfl ?_
                      refine R_skip rfl rfl rfl rfl ?_
                      refine R_skip rfl rfl rfl rfl ?_
                      refine R_skip rfl rfl rfl rfl ?_
                      refine R_skip rfl rfl rfl rfl ?_
                      refine R_skip rfl rfl rfl rfl ?_
                      refine R_skip rfl rfl rfl rfl ?_
                      refine R_skip rfl rfl rfl rfl ?_
                      refine R_skip rfl rfl rfl rfl ?_
                      refine R_skip rfl rfl rfl rfl ?_
                      refine R_skip rfl rfl rfl rfl ?_
                      refine R_skip rfl rfl rfl rfl ?_
                      refine R_skip rfl rfl rfl rfl ?_
                      refine O_pickT rfl rfl rfl rfl rfl rfl ?_
                      refine R_nil ?_
                      refine tn ?_
                      refine F_true rfl rfl ?_
                      refine F_seq ?_
                      refine F_region (p := ⟨_, [0], []⟩) rfl [0] rfl ?_
                      refine O_assign rfl rfl rfl rfl rfl ?_
                      refine R_nil ?_
                      refine tn ?_
                      refine F_ret ?_
                      refine br ?_
                      refine tr ?_
                      refine tr ?_
                      refine br ?_
                      refine br ?_
                      refine tr ?_
                      refine tr ?_
                      refine br ?_
                      refine tr ?_
                      show endF _ _ _ _ _ _
                      refine end0 trivial rfl rfl rfl hS ?_
                      intro w hS
                      replace hS := (hS).drop
                      refine ⟨_, rfl, ?_, hS⟩
                      have hbad : ¬ okL (Q.map Src.tell) := by
                        intro h; have h2 := (h.2.1 _ (List.mem_map.2 ⟨_, hxQ, rfl⟩)).2.2.2.2.2; simp only [Src.tell] at h2; rw [hx3] at h2; exact ris_bad (by first | exact .inl (by first | omega | (dsimp only at *; omega)) | exact .inr ⟨q', k, hk, by omega⟩) h2
                      simp [hbad]
                    · try simp only [decide_eq_true_eq, decide_eq_false_iff_not, Bool.not_eq_true', Bool.not_eq_false', Bool.not_true, Bool.not_false, Option.isNone_iff_eq_none, Bool.false_eq_true, Bool.true_eq_false] at ht73
                      refine O_move rfl rfl rfl rfl rfl ?_
                      refine O_cmp rfl rfl rfl rfl rfl rfl rfl ?_
                      refine O_pickF rfl rfl rfl rfl rfl rfl ?_
                      refine O_move rfl rfl rfl rfl rfl ?_
                      refine R_case (t := 77) rfl (fun ht77 => ?_) (fun ht77 => ?_)
                      · try simp only [decide_eq_true_eq, decide_eq_false_iff_not, Bool.not_eq_true', Bool.not_eq_false', Bool.not_true, Bool.not_false, Option.isNone_iff_eq_none, Bool.false_eq_true, Bool.true_eq_false] at ht77
                        refine R_skip rfl rfl rfl rfl ?_
                        refine R_skip rfl rfl rfl rfl ?_
                        refine R_skip rfl rfl rfl rfl ?_
                        refine R_skip rfl rfl rfl rfl ?_
                        refine R_skip rfl rfl rfl rfl ?_
                        refine R_skip rfl rfl rfl rfl ?_
                        refine R_skip rfl rfl rfl rfl ?_
                        refine R_skip rfl rfl rfl rfl ?_
                        refine R_skip rfl rfl rfl rfl ?_
                        refine R_skip rfl rfl rfl rfl ?_
                        refine R_skip rfl rfl rfl rfl ?_
                        refine R_skip rfl rfl rfl rfl ?_
                        refine O_pickT rfl rfl rfl rfl rfl rfl ?_
                        refine R_nil ?_
                        refine tn ?_
                        refine F_true rfl rfl ?_
                        refine F_seq ?_
                        refine F_region (p := ⟨_, [0], []⟩) rfl [0] rfl ?_
                        refine O_assign rfl rfl rfl rfl rfl ?_
                        refine R_nil ?_
                        refine tn ?_
                        refine F_ret ?_
                        refine br ?_
                        refine tr ?_
                        refine tr ?_
                        refine br ?_
                        refine br ?_
                        refine tr ?_
                        refine tr ?_
                        refine br ?_
                        refine tr ?_
                        show endF _ _ _ _ _ _
                        refine end0 trivial rfl rfl rfl hS ?_
                        intro w hS
                        replace hS := (hS).drop
                        refine ⟨_, rfl, ?_, hS⟩
                        have hbad : ¬ okL (Q.map Src.tell) := by
                          intro h; have h2 := (h.2.1 _ (List.mem_map.2 ⟨_, hxQ, rfl⟩)).2.2.2.2.2; simp only [Src.tell] at h2; rw [hx3] at h2; exact ris_bad (by first | exact .inl (by first | omega | (dsimp only at *; omega)) | exact .inr ⟨q', k, hk, by omega⟩) h2
                        simp [hbad]
                      · try simp only [decide_eq_true_eq, decide_eq_false_iff_not, Bool.not_eq_true', Bool.not_eq_false', Bool.not_true, Bool.not_false, Option.isNone_iff_eq_none, Bool.false_eq_true, Bool.true_eq_false] at ht77
                        refine O_move rfl rfl rfl rfl rfl ?_
                        refine O_cmp rfl rfl rfl rfl rfl rfl rfl ?_
                        refine O_move rfl rfl rfl rfl rfl ?_
                        refine R_caseT (t := 80) rfl (decide_eq_true (by omega)) ?_
                        refine O_fieldAddr rfl rfl rfl rfl rfl Try.runUnderlying69 rfl Try.sizeOf28 ?_
                        refine O_loadS hS rfl rfl rfl rfl rfl Try.isAgg28 (by repeat (first | exact .here rfl | apply CellAt.there)) (by trivial) ?_
                        refine O_move rfl rfl rfl rfl rfl ?_
                        refine O_subN rfl rfl rfl rfl rfl rfl (by first | omega | (dsimp only; omega)) ?_
                        obtain ⟨ebq3, eoq3, hadq3⟩ := Rds.ad (k := (pre2.length - 1)) (u := (.int .i64 k)) (hxA) (hS.u2) (by rw [hx3, hk]; simp)
                        refine O_indexSlE (m := (pre2.length - 1)) rfl rfl rfl rfl Try.runUnderlying28 Try.sizeOf3 rfl hadq3 rfl (by omega) (by omega) ?_
                        refine O_load rfl rfl rfl rfl rfl Try.isAgg3 (Rds.at (k := (pre2.length - 1) * 1) (u := (.int .i64 k)) (hxA) (hS.u2) hadq3 (by rw [hx3, hk]; simp)) (by trivial) ?_
                        refine O_move rfl rfl rfl rfl rfl ?_
                        refine O_cmp rfl rfl rfl rfl rfl rfl rfl ?_
                        refine O_pickT rfl rfl rfl rfl rfl rfl ?_
                        refine O_pickF rfl rfl rfl rfl rfl rfl ?_
                        refine R_nil ?_
                        refine tn ?_
                        refine F_cond rfl (fun ht90 => ?_) (fun ht90 => ?_)
                        · try simp only [decide_eq_true_eq, decide_eq_false_iff_not, Bool.not_eq_true', Bool.not_eq_false', Bool.not_true, Bool.not_false, Option.isNone_iff_eq_none, Bool.false_eq_true, Bool.true_eq_false] at ht90
                          refine F_seq ?_
                          refine F_region (p := ⟨_, [0], []⟩) rfl [0] rfl ?_
                          refine O_assign rfl rfl rfl rfl rfl ?_
                          refine R_nil ?_
                          refine tn ?_
                          refine F_ret ?_
                          refine br ?_
                          refine tr ?_
                          refine tr ?_
                          refine br ?_
                          refine br ?_
                          refine tr ?_
                          refine tr ?_
                          refine br ?_
                          refine tr ?_
                          show endF _ _ _ _ _ _
                          refine end0 trivial rfl rfl rfl hS ?_
                          intro w hS
                          replace hS := (hS).drop
                          refine ⟨_, rfl, ?_, hS⟩
                          have hbad : ¬ okL (Q.map Src.tell) := by
                            intro h; have h2 := (h.2.1 _ (List.mem_map.2 ⟨_, hxQ, rfl⟩)).2.2.2.2.2; simp only [Src.tell] at h2; rw [hx3] at h2; exact ris_bad (by first | exact .inl (by first | omega | (dsimp only at *; omega)) | exact .inr ⟨q', k, hk, by omega⟩) h2
                          simp [hbad]
                        · try simp only [decide_eq_true_eq, decide_eq_false_iff_not, Bool.not_eq_true', Bool.not_eq_false', Bool.not_true, Bool.not_false, Option.isNone_iff_eq_none, Bool.false_eq_true, Bool.true_eq_false] at ht90
                          refine F_skip ?_
                          refine bn ?_
                          refine tn ?_
                          refine F_region (p := ⟨_, [0, 0], []⟩) rfl [0, 1] rfl ?_
                          refine O_addN rfl rfl rfl rfl rfl rfl (by first | omega | (dsimp only; omega)) ?_
                          refine O_move rfl rfl rfl rfl rfl ?_
                          refine R_nil ?_
                          have hq2 : ∀ p y, pre2 = p ++ [y] → y < n := fun p y e => by rw [last_of hk e]; omega
                          replace hS := hS.u2.u2
                          refine tn ⟨rfl, rfl, (), Sup.app ⟨rfl, rfl, rfl, rfl, rfl, trivial⟩ ⟨congrArg (fun z : Nat => some (Value.int .i64 z)) (show pre2.length + 1 = (pre2 ++ [n]).length by simp), trivial⟩, ris_snoc hI2 (by first | omega | (dsimp only; omega)) hq2, hS.to (hemp_star _).symm⟩
    · obtain ⟨p', z, hz, hpl⟩ := snoc_of (n := pre.length - 1) (l := pre) (by omega)
      refine F_seq ?_
      refine F_region (p := ⟨_, [0], []⟩) rfl [0] rfl ?_
      refine O_cmp rfl rfl rfl rfl rfl rfl rfl ?_
      refine R_nil ?_
      refine tn ?_
      refine F_seq ?_
      refine F_true rfl (decide_eq_true (by omega)) ?_
      refine F_skip ?_
      refine tn ?_
      refine F_seq ?_
      refine F_block ?_
      refine F_seq ?_
      refine F_region (p := ⟨_, [0, 0], []⟩) rfl [0, 1] rfl ?_
      refine O_move rfl rfl rfl rfl rfl ?_
      refine O_assign rfl rfl rfl rfl rfl ?_
      refine R_nil ?_
      refine tn ?_
      refine F_seq ?_
      refine F_region (p := ⟨_, [0, 0, 0, 1, 2, 2], []⟩) rfl [0, 1, 2, 3, 4, 5] rfl ?_
      refine O_move rfl rfl rfl rfl rfl ?_
      refine O_move rfl rfl rfl rfl rfl ?_
      obtain ⟨ebq1, eoq1, hadq1⟩ := Rds.adF (m := pre.length) (x := (Src.mk xn xf (.slice adx xs.length cx) xs)) (enc := srcE) (size := 3) (fun _ => rfl) (by decide) (hA.1) (hS.u2) (by rw [hx]; simp)
      refine O_indexSlE (m := pre.length) rfl rfl rfl rfl Try.runUnderlying57 Try.sizeOf69 rfl hadq1 rfl rfl (by omega) ?_
      refine O_loadAgg ((srcE (Src.mk xn xf (.slice adx xs.length cx) xs))) rfl rfl rfl rfl rfl Try.isAgg69 Try.sizeOf69 rfl (Rds.row (m := pre.length) (x := (Src.mk xn xf (.slice adx xs.length cx) xs)) (enc := srcE) (size := 3) (fun _ => rfl) (by decide) (hA.1) (hS.u2) hadq1 (by rw [hx]; simp)) (by trivial) ?_
      refine O_allocS hS rfl rfl rfl rfl Try.zeroValue69 (fun _ _ hv => trivial) ?_
      intro b1 w hS
      refine O_storeAgg (cs := [_, _, _]) hS rfl rfl rfl rfl rfl rfl Try.sizeOf69 rfl (Nat.le_of_ble_eq_true rfl) (by simp [one, srcE]) (fun _ hv => trivial) ?_
      intro w hS
      dsimp only [setsL, List.set_cons_zero, List.set_cons_succ, Value.cells] at hS
      refine R_nil ?_
      refine tn ?_
      refine F_seq ?_
      refine F_seq ?_
      refine F_drawnS hS (by kernel_rfl) (p := ⟨_, [0, 1, 2, 0, 0, 0, 0, 0, 0, 0, 0, 0, 0, 1, 0, 1, 2, 0, 0, 0, 0, 0, 1, 0, 0, 0, 0, 1, 0, 0, 0, 0, 1, 0, 0, 0, 0, 0, 1, 0, 0, 0], []⟩) rfl (.ofList [0, 1, 2, 3, 4, 5, 6, 7, 8, 9, 10, 11, 12, 13, 14, 15, 16, 17, 18, 19, 20, 21, 22, 23, 24, 25, 26, 27, 28, 29, 30, 31, 32, 33, 34, 35, 36, 37, 38, 39, 40, 41]) (by kernel_rfl) ?_
      intro w hS
      refine O_fieldAddr rfl rfl rfl rfl rfl Try.runUnderlying69 rfl Try.sizeOf9 ?_
      refine O_loadS hS rfl rfl rfl rfl rfl Try.isAgg9 (by repeat (first | exact .here rfl | apply CellAt.there)) (by trivial) ?_
      refine O_call rfl rfl rfl rfl Try.call27 rfl (rWord xn hxn (hS)) (fun _ _ hv => trivial) ?_
      rintro _ w ⟨bw, rfl, hbw, hS⟩
      refine O_not rfl rfl rfl rfl rfl ?_
      refine O_move rfl rfl rfl rfl rfl ?_
      refine R_case (t := 20) rfl (fun ht20 => ?_) (fun ht20 => ?_)
      · try simp only [decide_eq_true_eq, decide_eq_false_iff_not, Bool.not_eq_true', Bool.not_eq_false', Bool.not_true, Bool.not_false, Option.isNone_iff_eq_none, Bool.false_eq_true, Bool.true_eq_false] at ht20
        refine R_skip rfl rfl rfl rfl ?_
        refine R_skip rfl rfl rfl rfl ?_
        refine R_skip rfl rfl rfl rfl ?_
        refine R_skip rfl rfl rfl rfl ?_
        refine R_skip rfl rfl rfl rfl ?_
        refine R_skip rfl rfl rfl rfl ?_
        refine R_skip rfl rfl rfl rfl ?_
        refine R_skip rfl rfl rfl rfl ?_
        refine R_skip rfl rfl rfl rfl ?_
        refine R_skip rfl rfl rfl rfl ?_
        refine R_skip rfl rfl rfl rfl ?_
        refine R_skip rfl rfl rfl rfl ?_
        refine R_skip rfl rfl rfl rfl ?_
        refine R_skip rfl rfl rfl rfl ?_
        refine O_pickT rfl rfl rfl rfl rfl rfl ?_
        refine O_move rfl rfl rfl rfl rfl ?_
        refine R_skip rfl rfl rfl rfl ?_
        refine R_skip rfl rfl rfl rfl ?_
        refine R_skip rfl rfl rfl rfl ?_
        refine O_pickT rfl rfl rfl rfl rfl rfl ?_
        refine O_move rfl rfl rfl rfl rfl ?_
        refine R_skip rfl rfl rfl rfl ?_
        refine R_skip rfl rfl rfl rfl ?_
        refine R_skip rfl rfl rfl rfl ?_
        refine O_pickT rfl rfl rfl rfl rfl rfl ?_
        refine O_move rfl rfl rfl rfl rfl ?_
        refine R_skip rfl rfl rfl rfl ?_
        refine R_skip rfl rfl rfl rfl ?_
        refine R_skip rfl rfl rfl rfl ?_
        refine R_skip rfl rfl rfl rfl ?_
        refine O_pickT rfl rfl rfl rfl rfl rfl ?_
        refine O_move rfl rfl rfl rfl rfl ?_
        refine R_skip rfl rfl rfl rfl ?_
        refine R_skip rfl rfl rfl rfl ?_
        refine R_skip rfl rfl rfl rfl ?_
        refine R_skip rfl rfl rfl rfl ?_
        refine O_pickT rfl rfl rfl rfl rfl rfl ?_
        refine R_nil ?_
        refine tn ?_
        refine F_true rfl rfl ?_
        refine F_seq ?_
        refine F_region (p := ⟨_, [0], []⟩) rfl [0] rfl ?_
        refine O_assign rfl rfl rfl rfl rfl ?_
        refine R_nil ?_
        refine tn ?_
        refine F_ret ?_
        refine tr ?_
        refine br ?_
        refine tr ?_
        refine tr ?_
        refine br ?_
        refine tr ?_
        show endF _ _ _ _ _ _
        refine end0 trivial rfl rfl rfl hS ?_
        intro w hS
        replace hS := (hS).drop
        refine ⟨_, rfl, ?_, hS⟩
        have hbad : ¬ okL (Q.map Src.tell) := by
          intro h; first | (have h2 := (h.2.1 _ (List.mem_map.2 ⟨_, hxQ, rfl⟩)); exact Bool.noConfusion ((hbw.2 h2.1).symm.trans (by assumption : bw = false))) | (have h2 := h.2.2; rw [hx, hz, List.map_append, List.map_append, List.map_cons] at h2; exact up_bad (not_lt_S hT) h2) | (have h2 := (h.2.1 _ (List.mem_map.2 ⟨_, hxQ, rfl⟩)); have h3 := h2.2; simp only [Src.tell] at h3; omega)
        simp [hbad]
      · try simp only [decide_eq_true_eq, decide_eq_false_iff_not, Bool.not_eq_true', Bool.not_eq_false', Bool.not_true, Bool.not_false, Option.isNone_iff_eq_none, Bool.false_eq_true, Bool.true_eq_false] at ht20
        refine O_move rfl rfl rfl rfl rfl ?_
        refine O_cmp rfl rfl rfl rfl rfl rfl rfl ?_
        refine O_move rfl rfl rfl rfl rfl ?_
        refine R_caseT (t := 23) rfl (decide_eq_true (by omega)) ?_
        refine O_move rfl rfl rfl rfl rfl ?_
        refine O_move rfl rfl rfl rfl rfl ?_
        refine O_subN rfl rfl rfl rfl rfl rfl (by first | omega | (dsimp only; omega)) ?_
        obtain ⟨ebq2, eoq2, hadq2⟩ := Rds.adF (m := (pre.length - 1)) (x := z) (enc := srcE) (size := 3) (fun _ => rfl) (by decide) (hA.1) (hS.u2) (by rw [hx, hz]; simp)
        refine O_indexSlE (m := (pre.length - 1)) rfl rfl rfl rfl Try.runUnderlying57 Try.sizeOf69 rfl hadq2 rfl (by omega) (by omega) ?_
        refine O_fieldAddr rfl rfl rfl rfl rfl Try.runUnderlying69 rfl Try.sizeOf9 ?_
        refine O_load rfl rfl rfl rfl rfl Try.isAgg9 (RdW.at (Rds.row (m := (pre.length - 1)) (x := z) (enc := srcE) (size := 3) (fun _ => rfl) (by decide) (hA.1) (hS.u2) hadq2 (by rw [hx, hz]; simp)) rfl) (by trivial) ?_
        refine O_fieldAddr rfl rfl rfl rfl rfl Try.runUnderlying69 rfl Try.sizeOf9 ?_
        refine O_loadS hS rfl rfl rfl rfl rfl Try.isAgg9 (by repeat (first | exact .here rfl | apply CellAt.there)) (by trivial) ?_
        refine O_call rfl rfl rfl rfl Try.call61 rfl (texts z.name xn hxn (hS)) (fun _ _ hv => trivial) ?_
        rintro _ w ⟨rfl, hS⟩
        refine O_cmp rfl rfl rfl rfl rfl rfl rfl ?_
        refine O_pickT rfl rfl rfl rfl rfl rfl ?_
        refine O_pickF rfl rfl rfl rfl rfl rfl ?_
        refine O_move rfl rfl rfl rfl rfl ?_
        refine R_case (t := 36) rfl (fun hT => ?_) (fun hT => ?_)
        · try simp only [decide_eq_true_eq, decide_eq_false_iff_not, Bool.not_eq_true', Bool.not_eq_false', Bool.not_true, Bool.not_false, Option.isNone_iff_eq_none, Bool.false_eq_true, Bool.true_eq_false] at hT
          refine R_skip rfl rfl rfl rfl ?_
          refine R_skip rfl rfl rfl rfl ?_
          refine R_skip rfl rfl rfl rfl ?_
          refine O_pickT rfl rfl rfl rfl rfl rfl ?_
          refine O_move rfl rfl rfl rfl rfl ?_
          refine R_skip rfl rfl rfl rfl ?_
          refine R_skip rfl rfl rfl rfl ?_
          refine R_skip rfl rfl rfl rfl ?_
          refine O_pickT rfl rfl rfl rfl rfl rfl ?_
          refine O_move rfl rfl rfl rfl rfl ?_
          refine R_skip rfl rfl rfl rfl ?_
          refine R_skip rfl rfl rfl rfl ?_
          refine R_skip rfl rfl rfl rfl ?_
          refine R_skip rfl rfl rfl rfl ?_
          refine O_pickT rfl rfl rfl rfl rfl rfl ?_
          refine O_move rfl rfl rfl rfl rfl ?_
          refine R_skip rfl rfl rfl rfl ?_
          refine R_skip rfl rfl rfl rfl ?_
          refine R_skip rfl rfl rfl rfl ?_
          refine R_skip rfl rfl rfl rfl ?_
          refine O_pickT rfl rfl rfl rfl rfl rfl ?_
          refine R_nil ?_
          refine tn ?_
          refine F_true rfl rfl ?_
          refine F_seq ?_
          refine F_region (p := ⟨_, [0], []⟩) rfl [0] rfl ?_
          refine O_assign rfl rfl rfl rfl rfl ?_
          refine R_nil ?_
          refine tn ?_
          refine F_ret ?_
          refine tr ?_
          refine br ?_
          refine tr ?_
          refine tr ?_
          refine br ?_
          refine tr ?_
          show endF _ _ _ _ _ _
          refine end0 trivial rfl rfl rfl hS ?_
          intro w hS
          replace hS := (hS).drop
          refine ⟨_, rfl, ?_, hS⟩
          have hbad : ¬ okL (Q.map Src.tell) := by
            intro h; first | (have h2 := (h.2.1 _ (List.mem_map.2 ⟨_, hxQ, rfl⟩)); exact Bool.noConfusion ((hbw.2 h2.1).symm.trans (by assumption : bw = false))) | (have h2 := h.2.2; rw [hx, hz, List.map_append, List.map_append, List.map_cons] at h2; exact up_bad (not_lt_S hT) h2) | (have h2 := (h.2.1 _ (List.mem_map.2 ⟨_, hxQ, rfl⟩)); have h3 := h2.2; simp only [Src.tell] at h3; omega)
          simp [hbad]
        · try simp only [decide_eq_true_eq, decide_eq_false_iff_not, Bool.not_eq_true', Bool.not_eq_false', Bool.not_true, Bool.not_false, Option.isNone_iff_eq_none, Bool.false_eq_true, Bool.true_eq_false] at hT
          refine O_fieldAddr rfl rfl rfl rfl rfl Try.runUnderlying69 rfl Try.sizeOf3 ?_
          refine O_loadS hS rfl rfl rfl rfl rfl Try.isAgg3 (by repeat (first | exact .here rfl | apply CellAt.there)) (by trivial) ?_
          refine O_cmp rfl rfl rfl rfl rfl rfl rfl ?_
          refine O_pickF rfl rfl rfl rfl rfl rfl ?_
          refine O_move rfl rfl rfl rfl rfl ?_
          refine R_case (t := 41) rfl (fun ht41 => ?_) (fun ht41 => ?_)
          · try simp only [decide_eq_true_eq, decide_eq_false_iff_not, Bool.not_eq_true', Bool.not_eq_false', Bool.not_true, Bool.not_false, Option.isNone_iff_eq_none, Bool.false_eq_true, Bool.true_eq_false] at ht41
            refine R_skip rfl rfl rfl rfl ?_
            refine R_skip rfl rfl rfl rfl ?_
            refine R_skip rfl rfl rfl rfl ?_
            refine O_pickT rfl rfl rfl rfl rfl rfl ?_
            refine O_move rfl rfl rfl rfl rfl ?_
            refine R_skip rfl rfl rfl rfl ?_
            refine R_skip rfl rfl rfl rfl ?_
            refine R_skip rfl rfl rfl rfl ?_
            refine R_skip rfl rfl rfl rfl ?_
            refine O_pickT rfl rfl rfl rfl rfl rfl ?_
            refine O_move rfl rfl rfl rfl rfl ?_
            refine R_skip rfl rfl rfl rfl ?_
            refine R_skip rfl rfl rfl rfl ?_
            refine R_skip rfl rfl rfl rfl ?_
            refine R_skip rfl rfl rfl rfl ?_
            refine O_pickT rfl rfl rfl rfl rfl rfl ?_
            refine R_nil ?_
            refine tn ?_
            refine F_true rfl rfl ?_
            refine F_seq ?_
            refine F_region (p := ⟨_, [0], []⟩) rfl [0] rfl ?_
            refine O_assign rfl rfl rfl rfl rfl ?_
            refine R_nil ?_
            refine tn ?_
            refine F_ret ?_
            refine tr ?_
            refine br ?_
            refine tr ?_
            refine tr ?_
            refine br ?_
            refine tr ?_
            show endF _ _ _ _ _ _
            refine end0 trivial rfl rfl rfl hS ?_
            intro w hS
            replace hS := (hS).drop
            refine ⟨_, rfl, ?_, hS⟩
            have hbad : ¬ okL (Q.map Src.tell) := by
              intro h; first | (have h2 := (h.2.1 _ (List.mem_map.2 ⟨_, hxQ, rfl⟩)); exact Bool.noConfusion ((hbw.2 h2.1).symm.trans (by assumption : bw = false))) | (have h2 := h.2.2; rw [hx, hz, List.map_append, List.map_append, List.map_cons] at h2; exact up_bad (not_lt_S hT) h2) | (have h2 := (h.2.1 _ (List.mem_map.2 ⟨_, hxQ, rfl⟩)); have h3 := h2.2; simp only [Src.tell] at h3; omega)
            simp [hbad]
          · try simp only [decide_eq_true_eq, decide_eq_false_iff_not, Bool.not_eq_true', Bool.not_eq_false', Bool.not_true, Bool.not_false, Option.isNone_iff_eq_none, Bool.false_eq_true, Bool.true_eq_false] at ht41
            refine O_fieldAddr rfl rfl rfl rfl rfl Try.runUnderlying69 rfl Try.sizeOf3 ?_
            refine O_loadS hS rfl rfl rfl rfl rfl Try.isAgg3 (by repeat (first | exact .here rfl | apply CellAt.there)) (by trivial) ?_
            refine O_cmp rfl rfl rfl rfl rfl rfl rfl ?_
            refine O_pickF rfl rfl rfl rfl rfl rfl ?_
            refine O_move rfl rfl rfl rfl rfl ?_
            refine R_case (t := 46) rfl (fun ht46 => ?_) (fun ht46 => ?_)
            · try simp only [decide_eq_true_eq, decide_eq_false_iff_not, Bool.not_eq_true', Bool.not_eq_false', Bool.not_true, Bool.not_false, Option.isNone_iff_eq_none, Bool.false_eq_true, Bool.true_eq_false] at ht46
              refine R_skip rfl rfl rfl rfl ?_
              refine R_skip rfl rfl rfl rfl ?_
              refine R_skip rfl rfl rfl rfl ?_
              refine R_skip rfl rfl rfl rfl ?_
              refine O_pickT rfl rfl rfl rfl rfl rfl ?_
              refine O_move rfl rfl rfl rfl rfl ?_
              refine R_skip rfl rfl rfl rfl ?_
              refine R_skip rfl rfl rfl rfl ?_
              refine R_skip rfl rfl rfl rfl ?_
              refine R_skip rfl rfl rfl rfl ?_
              refine O_pickT rfl rfl rfl rfl rfl rfl ?_
              refine R_nil ?_
              refine tn ?_
              refine F_true rfl rfl ?_
              refine F_seq ?_
              refine F_region (p := ⟨_, [0], []⟩) rfl [0] rfl ?_
              refine O_assign rfl rfl rfl rfl rfl ?_
              refine R_nil ?_
              refine tn ?_
              refine F_ret ?_
              refine tr ?_
              refine br ?_
              refine tr ?_
              refine tr ?_
              refine br ?_
              refine tr ?_
              show endF _ _ _ _ _ _
              refine end0 trivial rfl rfl rfl hS ?_
              intro w hS
              replace hS := (hS).drop
              refine ⟨_, rfl, ?_, hS⟩
              have hbad : ¬ okL (Q.map Src.tell) := by
                intro h; first | (have h2 := (h.2.1 _ (List.mem_map.2 ⟨_, hxQ, rfl⟩)); exact Bool.noConfusion ((hbw.2 h2.1).symm.trans (by assumption : bw = false))) | (have h2 := h.2.2; rw [hx, hz, List.map_append, List.map_append, List.map_cons] at h2; exact up_bad (not_lt_S hT) h2) | (have h2 := (h.2.1 _ (List.mem_map.2 ⟨_, hxQ, rfl⟩)); have h3 := h2.2; simp only [Src.tell] at h3; omega)
              simp [hbad]
            · try simp only [decide_eq_true_eq, decide_eq_false_iff_not, Bool.not_eq_true', Bool.not_eq_false', Bool.not_true, Bool.not_false, Option.isNone_iff_eq_none, Bool.false_eq_true, Bool.true_eq_false] at ht46
              refine O_fieldAddr rfl rfl rfl rfl rfl Try.runUnderlying69 rfl Try.sizeOf28 ?_
              refine O_loadS hS rfl rfl rfl rfl rfl Try.isAgg28 (by repeat (first | exact .here rfl | apply CellAt.there)) (by trivial) ?_
              refine O_lenSl rfl rfl rfl rfl rfl Try.runUnderlying28 ?_
              refine O_cmp rfl rfl rfl rfl rfl rfl rfl ?_
              refine O_pickF rfl rfl rfl rfl rfl rfl ?_
              refine O_move rfl rfl rfl rfl rfl ?_
              refine R_case (t := 52) rfl (fun ht52 => ?_) (fun ht52 => ?_)
              · try simp only [decide_eq_true_eq, decide_eq_false_iff_not, Bool.not_eq_true', Bool.not_eq_false', Bool.not_true, Bool.not_false, Option.isNone_iff_eq_none, Bool.false_eq_true, Bool.true_eq_false] at ht52
                refine R_skip rfl rfl rfl rfl ?_
                refine R_skip rfl rfl rfl rfl ?_
                refine R_skip rfl rfl rfl rfl ?_
                refine R_skip rfl rfl rfl rfl ?_
                refine O_pickT rfl rfl rfl rfl rfl rfl ?_
                refine R_nil ?_
                refine tn ?_
                refine F_true rfl rfl ?_
                refine F_seq ?_
                refine F_region (p := ⟨_, [0], []⟩) rfl [0] rfl ?_
                refine O_assign rfl rfl rfl rfl rfl ?_
                refine R_nil ?_
                refine tn ?_
                refine F_ret ?_
                refine tr ?_
                refine br ?_
                refine tr ?_
                refine tr ?_
                refine br ?_
                refine tr ?_
                show endF _ _ _ _ _ _
                refine end0 trivial rfl rfl rfl hS ?_
                intro w hS
                replace hS := (hS).drop
                refine ⟨_, rfl, ?_, hS⟩
                have hbad : ¬ okL (Q.map Src.tell) := by
                  intro h; first | (have h2 := (h.2.1 _ (List.mem_map.2 ⟨_, hxQ, rfl⟩)); exact Bool.noConfusion ((hbw.2 h2.1).symm.trans (by assumption : bw = false))) | (have h2 := h.2.2; rw [hx, hz, List.map_append, List.map_append, List.map_cons] at h2; exact up_bad (not_lt_S hT) h2) | (have h2 := (h.2.1 _ (List.mem_map.2 ⟨_, hxQ, rfl⟩)); have h3 := h2.2; simp only [Src.tell] at h3; omega)
                simp [hbad]
              · try simp only [decide_eq_true_eq, decide_eq_false_iff_not, Bool.not_eq_true', Bool.not_eq_false', Bool.not_true, Bool.not_false, Option.isNone_iff_eq_none, Bool.false_eq_true, Bool.true_eq_false] at ht52
                refine O_fieldAddr rfl rfl rfl rfl rfl Try.runUnderlying69 rfl Try.sizeOf28 ?_
                refine O_loadS hS rfl rfl rfl rfl rfl Try.isAgg28 (by repeat (first | exact .here rfl | apply CellAt.there)) (by trivial) ?_
                refine O_lenSl rfl rfl rfl rfl rfl Try.runUnderlying28 ?_
                refine O_cmp rfl rfl rfl rfl rfl rfl rfl ?_
                refine O_pickF rfl rfl rfl rfl rfl rfl ?_
                refine R_nil ?_
                refine tn ?_
                refine F_cond rfl (fun ht57 => ?_) (fun ht57 => ?_)
                · try simp only [decide_eq_true_eq, decide_eq_false_iff_not, Bool.not_eq_true', Bool.not_eq_false', Bool.not_true, Bool.not_false, Option.isNone_iff_eq_none, Bool.false_eq_true, Bool.true_eq_false] at ht57
                  refine F_seq ?_
                  refine F_region (p := ⟨_, [0], []⟩) rfl [0] rfl ?_
                  refine O_assign rfl rfl rfl rfl rfl ?_
                  refine R_nil ?_
                  refine tn ?_
                  refine F_ret ?_
                  refine tr ?_
                  refine br ?_
                  refine tr ?_
                  refine tr ?_
                  refine br ?_
                  refine tr ?_
                  show endF _ _ _ _ _ _
                  refine end0 trivial rfl rfl rfl hS ?_
                  intro w hS
                  replace hS := (hS).drop
                  refine ⟨_, rfl, ?_, hS⟩
                  have hbad : ¬ okL (Q.map Src.tell) := by
                    intro h; first | (have h2 := (h.2.1 _ (List.mem_map.2 ⟨_, hxQ, rfl⟩)); exact Bool.noConfusion ((hbw.2 h2.1).symm.trans (by assumption : bw = false))) | (have h2 := h.2.2; rw [hx, hz, List.map_append, List.map_append, List.map_cons] at h2; exact up_bad (not_lt_S hT) h2) | (have h2 := (h.2.1 _ (List.mem_map.2 ⟨_, hxQ, rfl⟩)); have h3 := h2.2; simp only [Src.tell] at h3; omega)
                  simp [hbad]
                · try simp only [decide_eq_true_eq, decide_eq_false_iff_not, Bool.not_eq_true', Bool.not_eq_false', Bool.not_true, Bool.not_false, Option.isNone_iff_eq_none, Bool.false_eq_true, Bool.true_eq_false] at ht57
                  refine F_skip ?_
                  refine tn ?_
                  refine F_seq ?_
                  refine F_region (p := ⟨_, [0, 1, 0, 0], []⟩) rfl [0, 1, 2, 3] rfl ?_
                  refine O_fieldAddr rfl rfl rfl rfl rfl Try.runUnderlying69 rfl Try.sizeOf28 ?_
                  refine O_loadS hS rfl rfl rfl rfl rfl Try.isAgg28 (by repeat (first | exact .here rfl | apply CellAt.there)) (by trivial) ?_
                  refine O_lenSl rfl rfl rfl rfl rfl Try.runUnderlying28 ?_
                  refine O_move rfl rfl rfl rfl rfl ?_
                  refine R_nil ?_
                  refine tn ?_
                  refine F_block ?_
                  have hp2 : ∀ p y, pre.map Src.tell = p ++ [y] → O_S.lt y.1 xn = true := fun p y e => by rw [hz, List.map_append] at e; rw [last_of rfl e]; exact lt_S' hT
                  refine F_loopL (α := (Int)) (σ := (Unit)) (xs) [(0, _), (4, _), (8, _), (9, _), (60, _)] (fun (pre2 : List (Int)) (st2 : Unit) => [(61, (.int .i64 (pre2.length : Nat)))]) (fun (pre2 : List (Int)) (st2 : Unit) => hemp) (fun (pre2 : List (Int)) (st2 : Unit) => risP pre2 (xf + 1) 1099511627776) () (Sup.app ⟨rfl, rfl, rfl, rfl, rfl, trivial⟩ ⟨rfl, trivial⟩) (hS.to (hemp_star _).symm) ris_nil ?_ ?_
                  · clear hS
                    intro st2 w hI2 hS
                    replace hS := hS.to (hemp_star _)
                    refine wpF.sup (L := [(0, _), (4, _), (8, _), (9, _), (60, _), (61, _)]) ?_ ⟨rfl, rfl, rfl, rfl, rfl, rfl, trivial⟩
                    have hok : okS (Src.tell ⟨xn, xf, .slice adx xs.length cx, xs⟩) := ⟨hbw.1 (by assumption), by simp only [Src.tell]; omega, by simp only [Src.tell]; omega, by simp only [Src.tell]; omega, by simp only [Src.tell]; omega, hI2⟩
                    refine F_seq ?_
                    refine F_region (p := ⟨_, [0], []⟩) rfl [0] rfl ?_
                    refine O_cmp rfl rfl rfl rfl rfl rfl rfl ?_
                    refine R_nil ?_
                    refine tn ?_
                    refine F_seq ?_
                    refine F_false rfl (decide_eq_false (by omega)) ?_
                    refine F_exit ?_
                    refine tx ?_
                    refine tx ?_
                    refine Go.Sl.bx rfl ?_
                    refine bn ?_
                    refine tn ?_
                    refine F_region (p := ⟨_, [0, 0], []⟩) rfl [0, 1] rfl ?_
                    refine O_addN rfl rfl rfl rfl rfl rfl (by first | omega | (dsimp only; omega)) ?_
                    refine O_move rfl rfl rfl rfl rfl ?_
                    refine R_nil ?_
                    replace hS := hS.sp1.drop
                    replace hS := hS.u2.u2
                    refine tn ⟨rfl, rfl, (), Sup.app ⟨rfl, rfl, trivial⟩ ⟨congrArg (fun z : Nat => some (Value.int .i64 z)) (show pre.length + 1 = (pre ++ [_]).length by simp), trivial⟩, ⟨by intro y hy; rw [List.map_append] at hy; rcases List.mem_append.1 hy with h | h; (exact hI.1 y h); (simp only [List.map_cons, List.map_nil, List.mem_singleton] at h; rw [h]; exact hok), by rw [List.map_append]; exact up_snoc hI.2 hp2⟩, hS.to (hemp_star _).symm⟩
                  · clear hS
                    intro pre2 n post2 st2 w hx3 hI2 hS
                    replace hS := hS.to (hemp_star _)
                    refine wpF.sup (L := [(0, _), (4, _), (8, _), (9, _), (60, _), (61, _)]) ?_ ⟨rfl, rfl, rfl, rfl, rfl, rfl, trivial⟩
                    have hlk : pre2.length + (post2.length + 1) = xs.length := by rw [hx3]; simp
                    by_cases hq : pre2.length = 0
                    · have hq2 : ∀ p y, pre2 = p ++ [y] → y < n := fun p y e => by rw [e] at hq; simp at hq
                      refine F_seq ?_
                      refine F_region (p := ⟨_, [0], []⟩) rfl [0] rfl ?_
                      refine O_cmp rfl rfl rfl rfl rfl rfl rfl ?_
                      refine R_nil ?_
                      refine tn ?_
                      refine F_seq ?_
                      refine F_true rfl (decide_eq_true (by omega)) ?_
                      refine F_skip ?_
                      refine tn ?_
                      refine F_seq ?_
                      refine F_block ?_
                      refine F_seq ?_
                      refine F_region (p := ⟨_, [0, 0], []⟩) rfl [0, 1] rfl ?_
                      refine O_move rfl rfl rfl rfl rfl ?_
                      refine O_assign rfl rfl rfl rfl rfl ?_
                      refine R_nil ?_
                      refine tn ?_
                      refine F_seq ?_
                      refine F_region (p := ⟨_, [0, 1, 0, 0, 1, 0], []⟩) rfl [0, 1, 2, 3, 4, 5] rfl ?_
                      refine O_fieldAddr rfl rfl rfl rfl rfl Try.runUnderlying69 rfl Try.sizeOf28 ?_
                      refine O_loadS hS rfl rfl rfl rfl rfl Try.isAgg28 (by repeat (first | exact .here rfl | apply CellAt.there)) (by trivial) ?_
                      refine O_move rfl rfl rfl rfl rfl ?_
                      obtain ⟨ebq3, eoq3, hadq3⟩ := Rds.ad (k := pre2.length) (u := (.int .i64 n)) (hxA) (hS.u2) (by rw [hx3]; simp)
                      refine O_indexSlE (m := pre2.length) rfl rfl rfl rfl Try.runUnderlying28 Try.sizeOf3 rfl hadq3 rfl rfl (by omega) ?_
                      refine O_load rfl rfl rfl rfl rfl Try.isAgg3 (Rds.at (k := pre2.length * 1) (u := (.int .i64 n)) (hxA) (hS.u2) hadq3 (by rw [hx3]; simp)) (by trivial) ?_
                      refine O_assign rfl rfl rfl rfl rfl ?_
                      refine R_nil ?_
                      refine tn ?_
                      refine F_seq ?_
                      refine F_region (p := ⟨_, [0, 0, 1, 0, 0, 0, 0, 0, 0, 0, 0, 0, 0, 1, 0, 0, 0, 1, 0, 0, 0, 0], []⟩) rfl [0, 1, 2, 3, 4, 5, 6, 7, 8, 9, 10, 11, 12, 13, 14, 15, 16, 17, 18, 19, 20, 21] rfl ?_
                      refine O_move rfl rfl rfl rfl rfl ?_
                      refine O_fieldAddr rfl rfl rfl rfl rfl Try.runUnderlying69 rfl Try.sizeOf3 ?_
                      refine O_loadS hS rfl rfl rfl rfl rfl Try.isAgg3 (by repeat (first | exact .here rfl | apply CellAt.there)) (by trivial) ?_
                      refine O_cmp rfl rfl rfl rfl rfl rfl rfl ?_
                      refine O_move rfl rfl rfl rfl rfl ?_
                      refine R_case (t := 73) rfl (fun ht73 => ?_) (fun ht73 => ?_)
                      · try simp only [decide_eq_true_eq, decide_eq_false_iff_not, Bool.not_eq_true', Bool.not_eq_false', Bool.not_true, Bool.not_false, Option.isNone_iff_eq_none, Bool.false_eq_true, Bool.true_eq_false] at ht73
                        refine R_skip rfl rfl rfl rfl ?_
                        refine R_skip rfl rfl rfl rfl ?_
                        refine O_pickT rfl rfl rfl rfl rfl rfl ?_
                        refine O_move rfl rfl rfl rfl rfl ?_
                        refine R_skip rfl rfl rfl rfl ?_
                        refine R_skip rfl rfl rfl rfl ?_
                        refine R_skip rfl rfl rfl rfl ?_
                        refine R_skip rfl rfl rfl rfl ?_
                        refine R_skip rfl rfl rfl rfl ?_
                        refine R_skip rfl rfl rfl rfl ?_
                        refine R_skip rfl rfl rfl rfl ?_
                        refine R_skip rfl rfl rfl rfl ?_
                        refine R_skip rfl rfl rfl rfl ?_
                        refine R_skip rfl rfl rfl rfl ?_
                        refine R_skip rfl rfl rfl rfl ?_
                        refine R_skip rfl rfl rfl rfl ?_
                        refine O_pickT rfl rfl rfl rfl rfl rfl ?_
                        refine R_nil ?_
                        refine tn ?_
                        refine F_true rfl rfl ?_
                        refine F_seq ?_
                        refine F_region (p := ⟨_, [0], []⟩) rfl [0] rfl ?_
                        refine O_assign rfl rfl rfl rfl rfl ?_
                        refine R_nil ?_
                        refine tn ?_
                        refine F_ret ?_
                        refine br ?_
                        refine tr ?_
                        refine tr ?_
                        refine br ?_
                        refine br ?_
                        refine tr ?_
                        refine tr ?_
                        refine br ?_
                        refine tr ?_
                        show endF _ _ _ _ _ _
                        refine end0 trivial rfl rfl rfl hS ?_
                        intro w hS
                        replace hS := (hS).drop
                        refine ⟨_, rfl, ?_, hS⟩
                        have hbad : ¬ okL (Q.map Src.tell) := by
                          intro h; have h2 := (h.2.1 _ (List.mem_map.2 ⟨_, hxQ, rfl⟩)).2.2.2.2.2; simp only [Src.tell] at h2; rw [hx3] at h2; exact ris_bad (by first | exact .inl (by first | omega | (dsimp only at *; omega)) ) h2
                        simp [hbad]
                      · try simp only [decide_eq_true_eq, decide_eq_false_iff_not, Bool.not_eq_true', Bool.not_eq_false', Bool.not_true, Bool.not_false, Option.isNone_iff_eq_none, Bool.false_eq_true, Bool.true_eq_false] at ht73
                        refine O_move rfl rfl rfl rfl rfl ?_
                        refine O_cmp rfl rfl rfl rfl rfl rfl rfl ?_
                        refine O_pickF rfl rfl rfl rfl rfl rfl ?_
                        refine O_move rfl rfl rfl rfl rfl ?_
                        refine R_case (t := 77) rfl (fun ht77 => ?_) (fun ht77 => ?_)
                        · try simp only [decide_eq_true_eq, decide_eq_false_iff_not, Bool.not_eq_true', Bool.not_eq_false', Bool.not_true, Bool.not_false, Option.isNone_iff_eq_none, Bool.false_eq_true, Bool.true_eq_false] at ht77
                          refine R_skip rfl rfl rfl rfl ?_
                          refine R_skip rfl rfl rfl rfl ?_
                          refine R_skip rfl rfl rfl rfl ?_
                          refine R_skip rfl rfl rfl rfl ?_
                          refine R_skip rfl rfl rfl rfl ?_
                          refine R_skip rfl rfl rfl rfl ?_
                          refine R_skip rfl rfl rfl rfl ?_
                          refine R_skip rfl rfl rfl rfl ?_
                          refine R_skip rfl rfl rfl rfl ?_
                          refine R_skip rfl rfl rfl rfl ?_
                          refine R_skip rfl rfl rfl rfl ?_
                          refine R_skip rfl rfl rfl rfl ?_
                          refine O_pickT rfl rfl rfl rfl rfl rfl ?_
                          refine R_nil ?_
                          refine tn ?_
                          refine F_true rfl rfl ?_
                          refine F_seq ?_
                          refine F_region (p := ⟨_, [0], []⟩) rfl [0] rfl ?_
                          refine O_assign rfl rfl rfl rfl rfl ?_
                          refine R_nil ?_
                          refine tn ?_
                          refine F_ret ?_
                          refine br ?_
                          refine tr ?_
                          refine tr ?_
                          refine br ?_
                          refine br ?_
                          refine tr ?_
                          refine tr ?_
                          refine br ?_
                          refine tr ?_
                          show endF _ _ _ _ _ _
                          refine end0 trivial rfl rfl rfl hS ?_
                          intro w hS
                          replace hS := (hS).drop
                          refine ⟨_, rfl, ?_, hS⟩
                          have hbad : ¬ okL (Q.map Src.tell) := by
                            intro h; have h2 := (h.2.1 _ (List.mem_map.2 ⟨_, hxQ, rfl⟩)).2.2.2.2.2; simp only [Src.tell] at h2; rw [hx3] at h2; exact ris_bad (by first | exact .inl (by first | omega | (dsimp only at *; omega)) ) h2
                          simp [hbad]
                        · try simp only [decide_eq_true_eq, decide_eq_false_iff_not, Bool.not_eq_true', Bool.not_eq_false', Bool.not_true, Bool.not_false, Option.isNone_iff_eq_none, Bool.false_eq_true, Bool.true_eq_false] at ht77
                          refine O_move rfl rfl rfl rfl rfl ?_
                          refine O_cmp rfl rfl rfl rfl rfl rfl rfl ?_
                          refine O_move rfl rfl rfl rfl rfl ?_
                          refine R_caseF (t := 80) rfl (decide_eq_false (by omega)) ?_
                          refine R_skip rfl rfl rfl rfl ?_
                          refine R_skip rfl rfl rfl rfl ?_
                          refine R_skip rfl rfl rfl rfl ?_
                          refine R_skip rfl rfl rfl rfl ?_
                          refine R_skip rfl rfl rfl rfl ?_
                          refine R_skip rfl rfl rfl rfl ?_
                          refine R_skip rfl rfl rfl rfl ?_
                          refine R_skip rfl rfl rfl rfl ?_
                          refine O_pickF rfl rfl rfl rfl rfl rfl ?_
                          refine O_pickF rfl rfl rfl rfl rfl rfl ?_
                          refine R_nil ?_
                          refine tn ?_
                          refine F_false rfl rfl ?_
                          refine F_skip ?_
                          refine bn ?_
                          refine tn ?_
                          refine F_region (p := ⟨_, [0, 0], []⟩) rfl [0, 1] rfl ?_
                          refine O_addN rfl rfl rfl rfl rfl rfl (by first | omega | (dsimp only; omega)) ?_
                          refine O_move rfl rfl rfl rfl rfl ?_
                          refine R_nil ?_
                          replace hS := hS.u2.u2
                          refine tn ⟨rfl, rfl, (), Sup.app ⟨rfl, rfl, rfl, rfl, rfl, trivial⟩ ⟨congrArg (fun z : Nat => some (Value.int .i64 z)) (show pre2.length + 1 = (pre2 ++ [n]).length by simp), trivial⟩, ris_snoc hI2 (by first | omega | (dsimp only; omega)) hq2, hS.to (hemp_star _).symm⟩
                    · obtain ⟨q', k, hk, hkl⟩ := snoc_of (n := pre2.length - 1) (l := pre2) (by omega)
                      refine F_seq ?_
                      refine F_region (p := ⟨_, [0], []⟩) rfl [0] rfl ?_
                      refine O_cmp rfl rfl rfl rfl rfl rfl rfl ?_
                      refine R_nil ?_
                      refine tn ?_
                      refine F_seq ?_
                      refine F_true rfl (decide_eq_true (by omega)) ?_
                      refine F_skip ?_
                      refine tn ?_
                      refine F_seq ?_
                      refine F_block ?_
                      refine F_seq ?_
                      refine F_region (p := ⟨_, [0, 0], []⟩) rfl [0, 1] rfl ?_
                      refine O_move rfl rfl rfl rfl rfl ?_
                      refine O_assign rfl rfl rfl rfl rfl ?_
                      refine R_nil ?_
                      refine tn ?_
                      refine F_seq ?_
                      refine F_region (p := ⟨_, [0, 1, 0, 0, 1, 0], []⟩) rfl [0, 1, 2, 3, 4, 5] rfl ?_
                      refine O_fieldAddr rfl rfl rfl rfl rfl Try.runUnderlying69 rfl Try.sizeOf28 ?_
                      refine O_loadS hS rfl rfl rfl rfl rfl Try.isAgg28 (by repeat (first | exact .here rfl | apply CellAt.there)) (by trivial) ?_
                      refine O_move rfl rfl rfl rfl rfl ?_
                      obtain ⟨ebq3, eoq3, hadq3⟩ := Rds.ad (k := pre2.length) (u := (.int .i64 n)) (hxA) (hS.u2) (by rw [hx3]; simp)
                      refine O_indexSlE (m := pre2.length) rfl rfl rfl rfl Try.runUnderlying28 Try.sizeOf3 rfl hadq3 rfl rfl (by omega) ?_
                      refine O_load rfl rfl rfl rfl rfl Try.isAgg3 (Rds.at (k := pre2.length * 1) (u := (.int .i64 n)) (hxA) (hS.u2) hadq3 (by rw [hx3]; simp)) (by trivial) ?_
                      refine O_assign rfl rfl rfl rfl rfl ?_
                      refine R_nil ?_
                      refine tn ?_
                      refine F_seq ?_
                      refine F_region (p := ⟨_, [0, 0, 1, 0, 0, 0, 0, 0, 0, 0, 0, 0, 0, 1, 0, 0, 0, 1, 0, 0, 0, 0], []⟩) rfl [0, 1, 2, 3, 4, 5, 6, 7, 8, 9, 10, 11, 12, 13, 14, 15, 16, 17, 18, 19, 20, 21] rfl ?_
                      refine O_move rfl rfl rfl rfl rfl ?_
                      refine O_fieldAddr rfl rfl rfl rfl rfl Try.runUnderlying69 rfl Try.sizeOf3 ?_
                      refine O_loadS hS rfl rfl rfl rfl rfl Try.isAgg3 (by repeat (first | exact .here rfl | apply CellAt.there)) (by trivial) ?_
                      refine O_cmp rfl rfl rfl rfl rfl rfl rfl ?_
                      refine O_move rfl rfl rfl rfl rfl ?_
                      refine R_case (t := 73) rfl (fun ht73 => ?_) (fun ht73 => ?_)
                      · try simp only [decide_eq_true_eq, decide_eq_false_iff_not, Bool.not_eq_true', Bool.not_eq_false', Bool.not_true, Bool.not_false, Option.isNone_iff_eq_none, Bool.false_eq_true, Bool.true_eq_false] at ht73
                        refine R_skip rfl rfl rfl rfl ?_
                        refine R_skip rfl rfl rfl rfl ?_
                        refine O_pickT rfl rfl rfl rfl rfl rfl ?_
                        refine O_move rfl rfl rfl rfl rfl ?_
                        refine R_skip rfl rfl rfl rfl ?_
                        refine R_skip rfl rfl rfl rfl ?_
                        refine R_skip rfl rfl rfl rfl ?_
                        refine R_skip rfl rfl rfl rfl ?_
                        refine R_skip rfl rfl rfl rfl ?_
                        refine R_skip rfl rfl rfl rfl ?_
                        refine R_skip rfl rfl rfl rfl ?_
                        refine R_skip rfl rfl rfl rfl ?_
                        refine R_skip rfl rfl rfl rfl ?_
                        refine R_skip rfl rfl rfl rfl ?_
                        refine R_skip rfl rfl rfl rfl ?_
                        refine R_skip rfl rfl rfl rfl ?_
                        refine O_pickT rfl rfl rfl rfl rfl rfl ?_
                        refine R_nil ?_
                        refine tn ?_
                        refine F_true rfl rfl ?_
                        refine F_seq ?_
                        refine F_region (p := ⟨_, [0], []⟩) rfl [0] rfl ?_
                        refine O_assign rfl rfl rfl rfl rfl ?_
                        refine R_nil ?_
                        refine tn ?_
                        refine F_ret ?_
                        refine br ?_
                        refine tr ?_
                        refine tr ?_
                        refine br ?_
                        refine br ?_
                        refine tr ?_
                        refine tr ?_
                        refine br ?_
                        refine tr ?_
                        show endF _ _ _ _ _ _
                        refine end0 trivial rfl rfl rfl hS ?_
                        intro w hS
                        replace hS := (hS).drop
                        refine ⟨_, rfl, ?_, hS⟩
                        have hbad : ¬ okL (Q.map Src.tell) := by
                          intro h; have h2 := (h.2.1 _ (List.mem_map.2 ⟨_, hxQ, rfl⟩)).2.2.2.2.2; simp only [Src.tell] at h2; rw [hx3] at h2; exact ris_bad (by first | exact .inl (by first | omega | (dsimp only at *; omega)) | exact .inr ⟨q', k, hk, by omega⟩) h2
                        simp [hbad]
                      · try simp only [decide_eq_true_eq, decide_eq_false_iff_not, Bool.not_eq_true', Bool.not_eq_false', Bool.not_true, Bool.not_false, Option.isNone_iff_eq_none, Bool.false_eq_true, Bool.true_eq_false] at ht73
                        refine O_move rfl rfl rfl rfl rfl ?_
                        refine O_cmp rfl rfl rfl rfl rfl rfl rfl ?_
                        refine O_pickF rfl rfl rfl rfl rfl rfl ?_
                        refine O_move rfl rfl rfl rfl rfl ?_
                        refine R_case (t := 77) rfl (fun ht77 => ?_) (fun ht77 => ?_)
                        · try simp only [decide_eq_true_eq, decide_eq_false_iff_not, Bool.not_eq_true', Bool.not_eq_false', Bool.not_true, Bool.not_false, Option.isNone_iff_eq_none, Bool.false_eq_true, Bool.true_eq_false] at ht77
                          refine R_skip rfl rfl rfl rfl ?_
                          refine R_skip rfl rfl rfl rfl ?_
                          refine R_skip rfl rfl rfl rfl ?_
                          refine R_skip rfl rfl rfl rfl ?_
                          refine R_skip rfl rfl rfl rfl ?_
                          refine R_skip rfl rfl rfl rfl ?_
                          refine R_skip rfl rfl rfl rfl ?_
                          refine R_skip rfl rfl rfl rfl ?_
                          refine R_skip rfl rfl rfl rfl ?_
                          refine R_skip rfl rfl rfl rfl ?_
                          refine R_skip rfl rfl rfl rfl ?_
                          refine R_skip rfl rfl rfl rfl ?_
                          refine O_pickT rfl rfl rfl rfl rfl rfl ?_
                          refine R_nil ?_
                          refine tn ?_
                          refine F_true rfl rfl ?_
                          refine F_seq ?_
                          refine F_region (p := ⟨_, [0], []⟩) rfl [0] rfl ?_
                          refine O_assign rfl rfl rfl rfl rfl ?_
                          refine R_nil ?_
                          refine tn ?_
                          refine F_ret ?_
                          refine br ?_
                          refine tr ?_
                          refine tr ?_
                          refine br ?_
                          refine br ?_
                          refine tr ?_
                          refine tr ?_
                          refine br ?_
                          refine tr ?_
                          show endF _ _ _ _ _ _
                          refine end0 trivial rfl rfl rfl hS ?_
                          intro w hS
                          replace hS := (hS).drop
                          refine ⟨_, rfl, ?_, hS⟩
                          have hbad : ¬ okL (Q.map Src.tell) := by
                            intro h; have h2 := (h.2.1 _ (List.mem_map.2 ⟨_, hxQ, rfl⟩)).2.2.2.2.2; simp only [Src.tell] at h2; rw [hx3] at h2; exact ris_bad (by first | exact .inl (by first | omega | (dsimp only at *; omega)) | exact .inr ⟨q', k, hk, by omega⟩) h2
                          simp [hbad]
                        · try simp only [decide_eq_true_eq, decide_eq_false_iff_not, Bool.not_eq_true', Bool.not_eq_false', Bool.not_true, Bool.not_false, Option.isNone_iff_eq_none, Bool.false_eq_true, Bool.true_eq_false] at ht77
                          refine O_move rfl rfl rfl rfl rfl ?_
                          refine O_cmp rfl rfl rfl rfl rfl rfl rfl ?_
                          refine O_move rfl rfl rfl rfl rfl ?_
                          refine R_caseT (t := 80) rfl (decide_eq_true (by omega)) ?_
                          refine O_fieldAddr rfl rfl rfl rfl rfl Try.runUnderlying69 rfl Try.sizeOf28 ?_
                          refine O_loadS hS rfl rfl rfl rfl rfl Try.isAgg28 (by repeat (first | exact .here rfl | apply CellAt.there)) (by trivial) ?_
                          refine O_move rfl rfl rfl rfl rfl ?_
                          refine O_subN rfl rfl rfl rfl rfl rfl (by first | omega | (dsimp only; omega)) ?_
                          obtain ⟨ebq4, eoq4, hadq4⟩ := Rds.ad (k := (pre2.length - 1)) (u := (.int .i64 k)) (hxA) (hS.u2) (by rw [hx3, hk]; simp)
                          refine O_indexSlE (m := (pre2.length - 1)) rfl rfl rfl rfl Try.runUnderlying28 Try.sizeOf3 rfl hadq4 rfl (by omega) (by omega) ?_
                          refine O_load rfl rfl rfl rfl rfl Try.isAgg3 (Rds.at (k := (pre2.length - 1) * 1) (u := (.int .i64 k)) (hxA) (hS.u2) hadq4 (by rw [hx3, hk]; simp)) (by trivial) ?_
                          refine O_move rfl rfl rfl rfl rfl ?_
                          refine O_cmp rfl rfl rfl rfl rfl rfl rfl ?_
                          refine O_pickT rfl rfl rfl rfl rfl rfl ?_
                          refine O_pickF rfl rfl rfl rfl rfl rfl ?_
                          refine R_nil ?_
                          refine tn ?_
                          refine F_cond rfl (fun ht90 => ?_) (fun ht90 => ?_)
                          · try simp only [decide_eq_true_eq, decide_eq_false_iff_not, Bool.not_eq_true', Bool.not_eq_false', Bool.not_true, Bool.not_false, Option.isNone_iff_eq_none, Bool.false_eq_true, Bool.true_eq_false] at ht90
                            refine F_seq ?_
                            refine F_region (p := ⟨_, [0], []⟩) rfl [0] rfl ?_
                            refine O_assign rfl rfl rfl rfl rfl ?_
                            refine R_nil ?_
                            refine tn ?_
                            refine F_ret ?_
                            refine br ?_
                            refine tr ?_
                            refine tr ?_
                            refine br ?_
                            refine br ?_
                            refine tr ?_
                            refine tr ?_
                            refine br ?_
                            refine tr ?_
                            show endF _ _ _ _ _ _
                            refine end0 trivial rfl rfl rfl hS ?_
                            intro w hS
                            replace hS := (hS).drop
                            refine ⟨_, rfl, ?_, hS⟩
                            have hbad : ¬ okL (Q.map Src.tell) := by
                              intro h; have h2 := (h.2.1 _ (List.mem_map.2 ⟨_, hxQ, rfl⟩)).2.2.2.2.2; simp only [Src.tell] at h2; rw [hx3] at h2; exact ris_bad (by first | exact .inl (by first | omega | (dsimp only at *; omega)) | exact .inr ⟨q', k, hk, by omega⟩) h2
                            simp [hbad]
                          · try simp only [decide_eq_true_eq, decide_eq_false_iff_not, Bool.not_eq_true', Bool.not_eq_false', Bool.not_true, Bool.not_false, Option.isNone_iff_eq_none, Bool.false_eq_true, Bool.true_eq_false] at ht90
                            refine F_skip ?_
                            refine bn ?_
                            refine tn ?_
                            refine F_region (p := ⟨_, [0, 0], []⟩) rfl [0, 1] rfl ?_
                            refine O_addN rfl rfl rfl rfl rfl rfl (by first | omega | (dsimp only; omega)) ?_
                            refine O_move rfl rfl rfl rfl rfl ?_
                            refine R_nil ?_
                            have hq2 : ∀ p y, pre2 = p ++ [y] → y < n := fun p y e => by rw [last_of hk e]; omega
                            replace hS := hS.u2.u2
                            refine tn ⟨rfl, rfl, (), Sup.app ⟨rfl, rfl, rfl, rfl, rfl, trivial⟩ ⟨congrArg (fun z : Nat => some (Value.int .i64 z)) (show pre2.length + 1 = (pre2 ++ [n]).length by simp), trivial⟩, ris_snoc hI2 (by first | omega | (dsimp only; omega)) hq2, hS.to (hemp_star _).symm⟩
theorem rAll {w0 w : World} {R A : HProp} {ad : Option Addr} {c : Nat} {Q : List Src} (hA : RdSrc A ad Q) (hl : Q.length ≤ 1000000) (name : ByteArray) (hb : name.size ≤ 9223372036854775807) (hS : Sat w0 (A * R) w) :
    Calls Try.prog 34 #[.slice ad Q.length c, .string name] w (ret fun u w' => ∃ ad' c' xs, u = .slice ad' xs.length c' ∧ xs = ((Go.Sl.get O_S name (Q.map Src.tell)).getD (0, [])).2 ∧ xs.length ≤ c' ∧ c' ≤ maxLen ∧ Rds A ad' (xs.map fun n => .int .i64 n) ∧ Sat w0 (A * R) w') := by
  replace hS := hS.noblks
  refine enterF (args := [_, _]) Try.func34 rfl Try.ntmps34 rfl rfl ?_
  refine F_seq ?_
  refine F_region (p := ⟨_, [0], []⟩) rfl [0] rfl ?_
  refine O_assign rfl rfl rfl rfl rfl ?_
  refine R_nil ?_
  refine tn ?_
  refine F_seq ?_
  refine F_region (p := ⟨_, [0, 0, 2, 0, 0, 0, 0, 0], []⟩) rfl [0, 1, 2, 3, 4, 5, 6, 7] rfl ?_
  refine O_move rfl rfl rfl rfl rfl ?_
  refine O_move rfl rfl rfl rfl rfl ?_
  refine O_call rfl rfl rfl rfl Try.call62 rfl (rFind hA hl name hb (hS.u2)) (fun _ _ hv => trivial) ?_
  rintro _ w (⟨pre, y, q, hx, hp, hn, rfl, hS⟩ | ⟨pre, q, hx, hp, hn, rfl, hS⟩)
  · have hg : Go.Sl.get O_S name (Q.map Src.tell) = some (y.floor, y.seqs) := by rw [hx, ← hn, List.map_append, List.map_cons]; exact get_there (by intro z hz; obtain ⟨z0, hz0, rfl⟩ := List.mem_map.1 hz; rw [hn]; exact hp z0 hz0)
    have hlx : pre.length + (q.length + 1) = Q.length := by rw [hx]; simp
    obtain ⟨ad2, c2, hyv, hle2, hcm2, hni2, hA2⟩ := hA.2 y (by rw [hx]; simp)
    obtain ⟨yn, yf, yv, ys⟩ := y
    simp only at hyv hA2 hg hle2
    subst hyv
    replace hS := hS.u2
    refine O_move rfl rfl rfl rfl rfl ?_
    refine O_extract rfl rfl rfl rfl rfl rfl ?_
    refine O_extract rfl rfl rfl rfl rfl rfl ?_
    refine O_assign rfl rfl rfl rfl rfl ?_
    refine O_assign rfl rfl rfl rfl rfl ?_
    refine R_nil ?_
    refine tn ?_
    refine F_seq ?_
    refine F_seq ?_
    refine F_region (p := ⟨_, [0, 0], []⟩) rfl [0, 1] rfl ?_
    refine O_move rfl rfl rfl rfl rfl ?_
    refine O_not rfl rfl rfl rfl rfl ?_
    refine R_nil ?_
    refine tn ?_
    refine F_false rfl rfl ?_
    refine F_skip ?_
    refine tn ?_
    refine F_seq ?_
    refine F_region (p := ⟨_, [0, 0, 0, 0, 1, 0], []⟩) rfl [0, 1, 2, 3, 4, 5] rfl ?_
    refine O_move rfl rfl rfl rfl rfl ?_
    refine O_move rfl rfl rfl rfl rfl ?_
    obtain ⟨ebq1, eoq1, hadq1⟩ := Rds.adF (m := pre.length) (x := (Src.mk yn yf (.slice ad2 ys.length c2) ys)) (enc := srcE) (size := 3) (fun _ => rfl) (by decide) (hA.1) (hS.u2) (by rw [hx]; simp)
    refine O_indexSlE (m := pre.length) rfl rfl rfl rfl Try.runUnderlying57 Try.sizeOf69 rfl hadq1 rfl rfl (by omega) ?_
    refine O_fieldAddr rfl rfl rfl rfl rfl Try.runUnderlying69 rfl Try.sizeOf28 ?_
    refine O_load rfl rfl rfl rfl rfl Try.isAgg28 (RdW.at (Rds.row (m := pre.length) (x := (Src.mk yn yf (.slice ad2 ys.length c2) ys)) (enc := srcE) (size := 3) (fun _ => rfl) (by decide) (hA.1) (hS.u2) hadq1 (by rw [hx]; simp)) rfl) (by trivial) ?_
    refine O_assign rfl rfl rfl rfl rfl ?_
    refine R_nil ?_
    refine tn ?_
    refine F_ret ?_
    show endF _ _ _ _ _ _
    refine end0 trivial rfl rfl rfl hS ?_
    intro w hS
    replace hS := (hS).drop
    exact ⟨ad2, c2, ys, rfl, by rw [hg]; rfl, hle2, hcm2, hA2, hS⟩
  · have hg : Go.Sl.get O_S name (Q.map Src.tell) = none := by rw [hx, List.map_append]; exact get_gone (by intro z hz; obtain ⟨z0, hz0, rfl⟩ := List.mem_map.1 hz; exact hp z0 hz0) (by intro z r hz; cases q with | nil => cases hz | cons y r2 => simp only [List.map_cons, List.cons.injEq] at hz; rw [← hz.1]; exact hn y r2 rfl)
    replace hS := hS.u2
    refine O_move rfl rfl rfl rfl rfl ?_
    refine O_extract rfl rfl rfl rfl rfl rfl ?_
    refine O_extract rfl rfl rfl rfl rfl rfl ?_
    refine O_assign rfl rfl rfl rfl rfl ?_
    refine O_assign rfl rfl rfl rfl rfl ?_
    refine R_nil ?_
    refine tn ?_
    refine F_seq ?_
    refine F_seq ?_
    refine F_region (p := ⟨_, [0, 0], []⟩) rfl [0, 1] rfl ?_
    refine O_move rfl rfl rfl rfl rfl ?_
    refine O_not rfl rfl rfl rfl rfl ?_
    refine R_nil ?_
    refine tn ?_
    refine F_true rfl rfl ?_
    refine F_seq ?_
    refine F_region (p := ⟨_, [0], []⟩) rfl [0] rfl ?_
    refine O_assign rfl rfl rfl rfl rfl ?_
    refine R_nil ?_
    refine tn ?_
    refine F_ret ?_
    refine tr ?_
    show endF _ _ _ _ _ _
    refine end0 trivial rfl rfl rfl hS ?_
    intro w hS
    replace hS := (hS).drop
    exact ⟨none, 0, [], rfl, by rw [hg]; rfl, Nat.le_refl _, by simp [maxLen], (fun _ _ _ _ i u hu => by simp at hu), hS⟩
end Go.Proofs.Ytpnigaoibhogfaa
