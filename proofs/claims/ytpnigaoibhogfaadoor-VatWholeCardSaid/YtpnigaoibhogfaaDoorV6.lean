/- YtpnigaoibhogfaaDoorV6: a part of the proof: walks over the translated code, and plain facts on lists beside. -/
import Derived.Test.YtpnigaoibhogfaaDoorV5
set_option linter.all false
namespace Go.Proofs.YtpnigaoibhogfaaDoor
open Go Go.RowKit Go.Sl
set_option linter.unusedVariables false
theorem rSat {w0 w : World} {R : HProp} {a c : Int} (ha : -9223372036854775808 ≤ a ∧ a ≤ 9223372036854775807) (hc : -9223372036854775808 ≤ c ∧ c ≤ 9223372036854775807) (hS : Sat w0 R w) : Calls Tryd.prog 11 #[.int .i64 a, .int .i64 c] w (ret fun u w' => u = .tuple #[.int .i64 (clampI (a + c)), .bool (outI (a + c))] ∧ Sat w0 R w') := by
  have q1 := tq2 a
  have q2 := tq2 c
  have q3 := tq2 (a.tmod 2 + c.tmod 2)
  replace hS := hS.noblks
  refine enterF (args := [_, _]) Tryd.func11 rfl Tryd.ntmps11 rfl rfl ?_
  refine F_seq ?_
  refine F_region (p := ⟨_, [0, 0], []⟩) rfl [0, 1] rfl ?_
  refine O_assign rfl rfl rfl rfl rfl ?_
  refine O_assign rfl rfl rfl rfl rfl ?_
  refine R_nil ?_
  refine tn ?_
  refine F_seq ?_
  refine F_region (p := ⟨_, [0, 0, 0, 0, 0, 0, 0, 0, 0, 0, 0, 0, 0], []⟩) rfl [0, 1, 2, 3, 4, 5, 6, 7, 8, 9, 10, 11, 12] rfl ?_
  refine O_move rfl rfl rfl rfl rfl ?_
  refine O_quoN rfl rfl rfl rfl rfl rfl (by first | decide | omega) (by first | omega | (dsimp only; omega)) ?_
  refine O_move rfl rfl rfl rfl rfl ?_
  refine O_quoN rfl rfl rfl rfl rfl rfl (by first | decide | omega) (by first | omega | (dsimp only; omega)) ?_
  refine O_addN rfl rfl rfl rfl rfl rfl (by first | omega | (dsimp only; omega)) ?_
  refine O_move rfl rfl rfl rfl rfl ?_
  refine O_rem rfl rfl rfl rfl rfl rfl (by first | decide | omega) ?_
  refine O_move rfl rfl rfl rfl rfl ?_
  refine O_rem rfl rfl rfl rfl rfl rfl (by first | decide | omega) ?_
  refine O_addN rfl rfl rfl rfl rfl rfl (by first | omega | (dsimp only; omega)) ?_
  refine O_quoN rfl rfl rfl rfl rfl rfl (by first | decide | omega) (by first | omega | (dsimp only; omega)) ?_
  refine O_addN rfl rfl rfl rfl rfl rfl (by first | omega | (dsimp only; omega)) ?_
  refine O_assign rfl rfl rfl rfl rfl ?_
  refine R_nil ?_
  refine tn ?_
  refine F_seq ?_
  refine F_region (p := ⟨_, [0, 0, 0, 0, 0, 0, 0], []⟩) rfl [0, 1, 2, 3, 4, 5, 6] rfl ?_
  refine O_move rfl rfl rfl rfl rfl ?_
  refine O_rem rfl rfl rfl rfl rfl rfl (by first | decide | omega) ?_
  refine O_move rfl rfl rfl rfl rfl ?_
  refine O_rem rfl rfl rfl rfl rfl rfl (by first | decide | omega) ?_
  refine O_addN rfl rfl rfl rfl rfl rfl (by first | omega | (dsimp only; omega)) ?_
  refine O_rem rfl rfl rfl rfl rfl rfl (by first | decide | omega) ?_
  refine O_assign rfl rfl rfl rfl rfl ?_
  refine R_nil ?_
  refine tn ?_
  refine F_seq ?_
  refine F_seq ?_
  refine F_region (p := ⟨_, [0, 0], []⟩) rfl [0, 1] rfl ?_
  refine O_move rfl rfl rfl rfl rfl ?_
  refine O_cmp rfl rfl rfl rfl rfl rfl rfl ?_
  refine R_nil ?_
  refine tn ?_
  refine F_cond rfl (fun ht27 => ?_) (fun ht27 => ?_)
  · try simp only [decide_eq_true_eq, decide_eq_false_iff_not, Bool.not_eq_true', Bool.not_eq_false', Bool.not_true, Bool.not_false, Option.isNone_iff_eq_none, Bool.false_eq_true, Bool.true_eq_false] at ht27
    refine F_seq ?_
    refine F_region (p := ⟨_, [0, 0], []⟩) rfl [0, 1] rfl ?_
    refine O_assign rfl rfl rfl rfl rfl ?_
    refine O_assign rfl rfl rfl rfl rfl ?_
    refine R_nil ?_
    refine tn ?_
    refine F_ret ?_
    refine tr ?_
    show endF _ _ _ _ _ _
    refine end0 trivial rfl rfl rfl hS ?_
    intro w hS
    replace hS := (hS).drop
    have hcl : clampI (a + c) = 9223372036854775807 ∧ outI (a + c) = true := by first | (exfalso; omega) | exact clampI_hi (n := a + c) (by omega) | (have h9 := clampI_hi (n := a + c) (by omega); exact ⟨by rw [h9.1]; omega, h9.2⟩)
    rw [hcl.1, hcl.2]
    exact ⟨rfl, hS⟩
  · try simp only [decide_eq_true_eq, decide_eq_false_iff_not, Bool.not_eq_true', Bool.not_eq_false', Bool.not_true, Bool.not_false, Option.isNone_iff_eq_none, Bool.false_eq_true, Bool.true_eq_false] at ht27
    refine F_skip ?_
    refine tn ?_
    refine F_seq ?_
    refine F_seq ?_
    refine F_region (p := ⟨_, [0, 0, 0, 0, 0, 0, 0, 0, 0, 0], []⟩) rfl [0, 1, 2, 3, 4, 5, 6, 7, 8, 9] rfl ?_
    refine O_move rfl rfl rfl rfl rfl ?_
    refine O_cmp rfl rfl rfl rfl rfl rfl rfl ?_
    refine O_move rfl rfl rfl rfl rfl ?_
    refine R_case (t := 30) rfl (fun ht30 => ?_) (fun ht30 => ?_)
    · try simp only [decide_eq_true_eq, decide_eq_false_iff_not, Bool.not_eq_true', Bool.not_eq_false', Bool.not_true, Bool.not_false, Option.isNone_iff_eq_none, Bool.false_eq_true, Bool.true_eq_false] at ht30
      refine R_skip rfl rfl rfl rfl ?_
      refine R_skip rfl rfl rfl rfl ?_
      refine R_skip rfl rfl rfl rfl ?_
      refine R_skip rfl rfl rfl rfl ?_
      refine R_skip rfl rfl rfl rfl ?_
      refine R_skip rfl rfl rfl rfl ?_
      refine O_pickT rfl rfl rfl rfl rfl rfl ?_
      refine R_nil ?_
      refine tn ?_
      refine F_true rfl rfl ?_
      refine F_seq ?_
      refine F_region (p := ⟨_, [0, 0], []⟩) rfl [0, 1] rfl ?_
      refine O_assign rfl rfl rfl rfl rfl ?_
      refine O_assign rfl rfl rfl rfl rfl ?_
      refine R_nil ?_
      refine tn ?_
      refine F_ret ?_
      refine tr ?_
      show endF _ _ _ _ _ _
      refine end0 trivial rfl rfl rfl hS ?_
      intro w hS
      replace hS := (hS).drop
      have hcl : clampI (a + c) = -9223372036854775808 ∧ outI (a + c) = true := by first | (exfalso; omega) | exact clampI_lo (n := a + c) (by omega) | (have h9 := clampI_lo (n := a + c) (by omega); exact ⟨by rw [h9.1]; omega, h9.2⟩)
      rw [hcl.1, hcl.2]
      exact ⟨rfl, hS⟩
    · try simp only [decide_eq_true_eq, decide_eq_false_iff_not, Bool.not_eq_true', Bool.not_eq_false', Bool.not_true, Bool.not_false, Option.isNone_iff_eq_none, Bool.false_eq_true, Bool.true_eq_false] at ht30
      refine O_move rfl rfl rfl rfl rfl ?_
      refine O_cmp rfl rfl rfl rfl rfl rfl rfl ?_
      refine O_move rfl rfl rfl rfl rfl ?_
      refine R_case (t := 33) rfl (fun ht33 => ?_) (fun ht33 => ?_)
      · try simp only [decide_eq_true_eq, decide_eq_false_iff_not, Bool.not_eq_true', Bool.not_eq_false', Bool.not_true, Bool.not_false, Option.isNone_iff_eq_none, Bool.false_eq_true, Bool.true_eq_false] at ht33
        refine O_move rfl rfl rfl rfl rfl ?_
        refine O_cmp rfl rfl rfl rfl rfl rfl rfl ?_
        refine O_pickT rfl rfl rfl rfl rfl rfl ?_
        refine O_pickF rfl rfl rfl rfl rfl rfl ?_
        refine R_nil ?_
        refine tn ?_
        refine F_cond rfl (fun ht37 => ?_) (fun ht37 => ?_)
        · try simp only [decide_eq_true_eq, decide_eq_false_iff_not, Bool.not_eq_true', Bool.not_eq_false', Bool.not_true, Bool.not_false, Option.isNone_iff_eq_none, Bool.false_eq_true, Bool.true_eq_false] at ht37
          refine F_seq ?_
          refine F_region (p := ⟨_, [0, 0], []⟩) rfl [0, 1] rfl ?_
          refine O_assign rfl rfl rfl rfl rfl ?_
          refine O_assign rfl rfl rfl rfl rfl ?_
          refine R_nil ?_
          refine tn ?_
          refine F_ret ?_
          refine tr ?_
          show endF _ _ _ _ _ _
          refine end0 trivial rfl rfl rfl hS ?_
          intro w hS
          replace hS := (hS).drop
          have hcl : clampI (a + c) = -9223372036854775808 ∧ outI (a + c) = true := by first | (exfalso; omega) | exact clampI_lo (n := a + c) (by omega) | (have h9 := clampI_lo (n := a + c) (by omega); exact ⟨by rw [h9.1]; omega, h9.2⟩)
          rw [hcl.1, hcl.2]
          exact ⟨rfl, hS⟩
        · try simp only [decide_eq_true_eq, decide_eq_false_iff_not, Bool.not_eq_true', Bool.not_eq_false', Bool.not_true, Bool.not_false, Option.isNone_iff_eq_none, Bool.false_eq_true, Bool.true_eq_false] at ht37
          refine F_skip ?_
          refine tn ?_
          refine F_seq ?_
          refine F_region (p := ⟨_, [0, 0, 0, 0, 0, 0], []⟩) rfl [0, 1, 2, 3, 4, 5] rfl ?_
          refine O_move rfl rfl rfl rfl rfl ?_
          refine O_mulN rfl rfl rfl rfl rfl rfl (by first | omega | (dsimp only; omega)) ?_
          refine O_move rfl rfl rfl rfl rfl ?_
          refine O_addN rfl rfl rfl rfl rfl rfl (by first | omega | (dsimp only; omega)) ?_
          refine O_assign rfl rfl rfl rfl rfl ?_
          refine O_assign rfl rfl rfl rfl rfl ?_
          refine R_nil ?_
          refine tn ?_
          refine F_ret ?_
          show endF _ _ _ _ _ _
          refine end0 trivial rfl rfl rfl hS ?_
          intro w hS
          replace hS := (hS).drop
          have hcl : clampI (a + c) = ((a.tdiv 2 + c.tdiv 2 + (a.tmod 2 + c.tmod 2).tdiv 2) * 2 + (a.tmod 2 + c.tmod 2).tmod 2) ∧ outI (a + c) = false := by first | (exfalso; omega) | exact clampI_in (n := a + c) (by omega) | (have h9 := clampI_in (n := a + c) (by omega); exact ⟨by rw [h9.1]; omega, h9.2⟩)
          rw [hcl.1, hcl.2]
          exact ⟨rfl, hS⟩
      · try simp only [decide_eq_true_eq, decide_eq_false_iff_not, Bool.not_eq_true', Bool.not_eq_false', Bool.not_true, Bool.not_false, Option.isNone_iff_eq_none, Bool.false_eq_true, Bool.true_eq_false] at ht33
        refine R_skip rfl rfl rfl rfl ?_
        refine R_skip rfl rfl rfl rfl ?_
        refine O_pickF rfl rfl rfl rfl rfl rfl ?_
        refine O_pickF rfl rfl rfl rfl rfl rfl ?_
        refine R_nil ?_
        refine tn ?_
        refine F_false rfl rfl ?_
        refine F_skip ?_
        refine tn ?_
        refine F_seq ?_
        refine F_region (p := ⟨_, [0, 0, 0, 0, 0, 0], []⟩) rfl [0, 1, 2, 3, 4, 5] rfl ?_
        refine O_move rfl rfl rfl rfl rfl ?_
        refine O_mulN rfl rfl rfl rfl rfl rfl (by first | omega | (dsimp only; omega)) ?_
        refine O_move rfl rfl rfl rfl rfl ?_
        refine O_addN rfl rfl rfl rfl rfl rfl (by first | omega | (dsimp only; omega)) ?_
        refine O_assign rfl rfl rfl rfl rfl ?_
        refine O_assign rfl rfl rfl rfl rfl ?_
        refine R_nil ?_
        refine tn ?_
        refine F_ret ?_
        show endF _ _ _ _ _ _
        refine end0 trivial rfl rfl rfl hS ?_
        intro w hS
        replace hS := (hS).drop
        have hcl : clampI (a + c) = ((a.tdiv 2 + c.tdiv 2 + (a.tmod 2 + c.tmod 2).tdiv 2) * 2 + (a.tmod 2 + c.tmod 2).tmod 2) ∧ outI (a + c) = false := by first | (exfalso; omega) | exact clampI_in (n := a + c) (by omega) | (have h9 := clampI_in (n := a + c) (by omega); exact ⟨by rw [h9.1]; omega, h9.2⟩)
        rw [hcl.1, hcl.2]
        exact ⟨rfl, hS⟩
theorem vAwake {w0 w : World} {R : HProp} (hS : Sat w0 R w) : Calls Tryd.prog 8 #[] w (ret fun u w' => u = .bool true ∧ Sat w0 R w') := by
  replace hS := hS.noblks
  refine enterF (args := []) Tryd.func8 rfl Tryd.ntmps8 rfl rfl ?_
  refine F_seq ?_
  refine F_region (p := ⟨_, [0], []⟩) rfl [0] rfl ?_
  refine O_assign rfl rfl rfl rfl rfl ?_
  refine R_nil ?_
  refine tn ?_
  refine F_seq ?_
  refine F_region (p := ⟨_, [2, 0, 0, 0, 0, 0], []⟩) rfl [0, 1, 2, 3, 4, 5] rfl ?_
  refine O_call rfl rfl rfl rfl Tryd.call9 rfl (vNew (k := 1) (by omega) (by omega) (hS)) (fun _ _ hv => trivial) ?_
  rintro _ w ⟨b, rfl, hS⟩
  replace hS := hS.u2
  refine O_move rfl rfl rfl rfl rfl ?_
  refine O_extract rfl rfl rfl rfl rfl rfl ?_
  refine O_extract rfl rfl rfl rfl rfl rfl ?_
  refine O_assign rfl rfl rfl rfl rfl ?_
  refine O_assign rfl rfl rfl rfl rfl ?_
  refine R_nil ?_
  refine tn ?_
  refine F_seq ?_
  refine F_seq ?_
  refine F_region (p := ⟨_, [0, 0, 0, 0, 0, 0], []⟩) rfl [0, 1, 2, 3, 4, 5] rfl ?_
  refine O_move rfl rfl rfl rfl rfl ?_
  refine O_cmp rfl rfl rfl rfl rfl rfl rfl ?_
  refine O_move rfl rfl rfl rfl rfl ?_
  refine R_caseF (t := 12) rfl rfl ?_
  refine O_move rfl rfl rfl rfl rfl ?_
  refine O_eqNil rfl rfl rfl rfl rfl rfl Tryd.runUnderlying24 ?_
  refine O_pickF rfl rfl rfl rfl rfl rfl ?_
  refine R_nil ?_
  refine tn ?_
  refine F_false rfl rfl ?_
  refine F_skip ?_
  refine tn ?_
  refine F_seq ?_
  refine F_region (p := ⟨_, [0, 0, 2, 2], []⟩) rfl [0, 1, 2, 3] rfl ?_
  refine O_build rfl rfl rfl rfl rfl (run_buildS [_, _] Tryd.zeroValue30 Tryd.runUnderlying30 (fun _ => 1) ⟨Tryd.sizeOf9, Tryd.sizeOf28, trivial⟩ rfl) ?_
  refine O_build rfl rfl rfl rfl rfl (run_buildS [_, _, _, _, _, _, _, _, _] Tryd.zeroValue32 Tryd.runUnderlying32 (fun x => match x.offset with | 0 => 2 | _ => 1) ⟨Tryd.sizeOf30, Tryd.sizeOf3, Tryd.sizeOf3, Tryd.sizeOf9, Tryd.sizeOf3, Tryd.sizeOf3, Tryd.sizeOf9, Tryd.sizeOf3, trivial⟩ rfl) ?_
  refine O_allocS hS rfl rfl rfl rfl Tryd.zeroValue32 (fun _ _ hv => trivial) ?_
  intro b1 w hS
  refine O_storeAgg (cs := [_, _, _, _, _, _, _, _, _]) hS rfl rfl rfl rfl rfl rfl Tryd.sizeOf32 rfl (Nat.le_of_ble_eq_true rfl) (by simp [one]) (fun _ hv => trivial) ?_
  intro w hS
  dsimp only [setsL, List.set_cons_zero, List.set_cons_succ, Value.cells] at hS
  refine R_nil ?_
  refine tn ?_
  refine F_seq ?_
  refine F_region (p := ⟨_, [1, 2, 2], []⟩) rfl [0, 1, 2] rfl ?_
  refine O_loadAgg [_, _, _, _, _, _, _, _, _] rfl rfl rfl rfl rfl Tryd.isAgg32 Tryd.sizeOf32 rfl (CellsAt.rd ⟨(by repeat (first | exact .here rfl | apply CellAt.there)), (by repeat (first | exact .here rfl | apply CellAt.there)), (by repeat (first | exact .here rfl | apply CellAt.there)), (by repeat (first | exact .here rfl | apply CellAt.there)), (by repeat (first | exact .here rfl | apply CellAt.there)), (by repeat (first | exact .here rfl | apply CellAt.there)), (by repeat (first | exact .here rfl | apply CellAt.there)), (by repeat (first | exact .here rfl | apply CellAt.there)), (by repeat (first | exact .here rfl | apply CellAt.there)), trivial⟩ (hS)) (by trivial) ?_
  refine O_allocS hS rfl rfl rfl rfl Tryd.zeroValue32 (fun _ _ hv => trivial) ?_
  intro b2 w hS
  refine O_storeAgg (cs := [_, _, _, _, _, _, _, _, _]) hS rfl rfl rfl rfl rfl rfl Tryd.sizeOf32 rfl (Nat.le_of_ble_eq_true rfl) (by simp [one]) (fun _ hv => trivial) ?_
  intro w hS
  dsimp only [setsL, List.set_cons_zero, List.set_cons_succ, Value.cells] at hS
  refine R_nil ?_
  refine tn ?_
  refine F_seq ?_
  refine F_region (p := ⟨_, [0, 2, 0, 2], []⟩) rfl [0, 1, 2, 3] rfl ?_
  refine O_fieldAddr rfl rfl rfl rfl rfl Tryd.runUnderlying32 rfl Tryd.sizeOf3 ?_
  refine O_storeS hS rfl rfl rfl rfl rfl rfl rfl Tryd.sizeOf3 (by repeat (first | exact .here rfl rfl | apply SetAt.there)) (fun w' hv => trivial) ?_
  intro w hS
  refine O_fieldAddr rfl rfl rfl rfl rfl Tryd.runUnderlying32 rfl Tryd.sizeOf3 ?_
  refine O_storeS hS rfl rfl rfl rfl rfl rfl rfl Tryd.sizeOf3 (by repeat (first | exact .here rfl rfl | apply SetAt.there)) (fun w' hv => trivial) ?_
  intro w hS
  refine R_nil ?_
  refine tn ?_
  refine F_seq ?_
  refine F_region (p := ⟨_, [0, 1, 2], []⟩) rfl [0, 1, 2] rfl ?_
  refine O_move rfl rfl rfl rfl rfl ?_
  refine O_loadAgg [_, _, _, _, _, _, _, _, _] rfl rfl rfl rfl rfl Tryd.isAgg32 Tryd.sizeOf32 rfl (CellsAt.rd ⟨(by repeat (first | exact .here rfl | apply CellAt.there)), (by repeat (first | exact .here rfl | apply CellAt.there)), (by repeat (first | exact .here rfl | apply CellAt.there)), (by repeat (first | exact .here rfl | apply CellAt.there)), (by repeat (first | exact .here rfl | apply CellAt.there)), (by repeat (first | exact .here rfl | apply CellAt.there)), (by repeat (first | exact .here rfl | apply CellAt.there)), (by repeat (first | exact .here rfl | apply CellAt.there)), (by repeat (first | exact .here rfl | apply CellAt.there)), trivial⟩ (hS)) (by trivial) ?_
  refine O_call rfl rfl rfl rfl Tryd.call10 rfl (vAddC (e := ⟨.string ⟨#[97]⟩, .slice none 0 0, 1, 2000000, ⟨#[]⟩, 10, 0, ⟨#[97]⟩, 1⟩) rfl rfl (by decide) (by decide) (by decide) (by decide) (hS.u2)) (fun _ _ hv => trivial) ?_
  rintro _ w ⟨rfl, hS⟩
  replace hS := hS.u2
  refine R_nil ?_
  refine tn ?_
  refine F_seq ?_
  refine F_region (p := ⟨_, [0, 1, 2], []⟩) rfl [0, 1, 2] rfl ?_
  refine O_move rfl rfl rfl rfl rfl ?_
  refine O_loadAgg [_, _, _, _, _, _, _, _, _] rfl rfl rfl rfl rfl Tryd.isAgg32 Tryd.sizeOf32 rfl (CellsAt.rd ⟨(by repeat (first | exact .here rfl | apply CellAt.there)), (by repeat (first | exact .here rfl | apply CellAt.there)), (by repeat (first | exact .here rfl | apply CellAt.there)), (by repeat (first | exact .here rfl | apply CellAt.there)), (by repeat (first | exact .here rfl | apply CellAt.there)), (by repeat (first | exact .here rfl | apply CellAt.there)), (by repeat (first | exact .here rfl | apply CellAt.there)), (by repeat (first | exact .here rfl | apply CellAt.there)), (by repeat (first | exact .here rfl | apply CellAt.there)), trivial⟩ (hS)) (by trivial) ?_
  refine O_call rfl rfl rfl rfl Tryd.call10 rfl (vAddC (e := ⟨.string ⟨#[97]⟩, .slice none 0 0, 1, 1000000, ⟨#[]⟩, 1, 0, ⟨#[97]⟩, 1⟩) rfl rfl (by decide) (by decide) (by decide) (by decide) (hS.u2)) (fun _ _ hv => trivial) ?_
  rintro _ w ⟨rfl, hS⟩
  replace hS := hS.u2
  refine R_nil ?_
  refine tn ?_
  refine F_seq ?_
  refine F_region (p := ⟨_, [0, 2, 2, 2], []⟩) rfl [0, 1, 2, 3] rfl ?_
  refine O_move rfl rfl rfl rfl rfl ?_
  refine O_call rfl rfl rfl rfl Tryd.call12 rfl (vResC rfl rfl (by decide) (hS.u2)) (fun _ _ hv => trivial) ?_
  rintro _ w ⟨rfl, hS⟩
  replace hS := hS.u2
  refine O_allocS hS rfl rfl rfl rfl Tryd.zeroValue38 (fun _ _ hv => trivial) ?_
  intro b3 w hS
  refine O_storeAgg (cs := [_, _, _, _, _, _, _, _, _]) hS rfl rfl rfl rfl rfl rfl Tryd.sizeOf38 rfl (Nat.le_of_ble_eq_true rfl) (by simp [one]) (fun _ hv => trivial) ?_
  intro w hS
  dsimp only [setsL, List.set_cons_zero, List.set_cons_succ, Value.cells] at hS
  refine R_nil ?_
  refine tn ?_
  refine F_seq ?_
  refine F_region (p := ⟨_, [0, 1, 0, 0, 0, 1, 0, 0, 0, 0, 1, 0, 0, 0], []⟩) rfl [0, 1, 2, 3, 4, 5, 6, 7, 8, 9, 10, 11, 12, 13] rfl ?_
  refine O_fieldAddr rfl rfl rfl rfl rfl Tryd.runUnderlying38 rfl Tryd.sizeOf3 ?_
  refine O_loadS hS rfl rfl rfl rfl rfl Tryd.isAgg3 (by repeat (first | exact .here rfl | apply CellAt.there)) (by trivial) ?_
  refine O_cmp rfl rfl rfl rfl rfl rfl rfl ?_
  refine O_move rfl rfl rfl rfl rfl ?_
  refine R_caseT (t := 32) rfl (by decide) ?_
  refine O_fieldAddr rfl rfl rfl rfl rfl Tryd.runUnderlying38 rfl Tryd.sizeOf3 ?_
  refine O_loadS hS rfl rfl rfl rfl rfl Tryd.isAgg3 (by repeat (first | exact .here rfl | apply CellAt.there)) (by trivial) ?_
  refine O_cmp rfl rfl rfl rfl rfl rfl rfl ?_
  refine O_pickT rfl rfl rfl rfl rfl rfl ?_
  refine O_move rfl rfl rfl rfl rfl ?_
  refine R_caseT (t := 37) rfl (by decide) ?_
  refine O_fieldAddr rfl rfl rfl rfl rfl Tryd.runUnderlying38 rfl Tryd.sizeOf4 ?_
  refine O_loadS hS rfl rfl rfl rfl rfl Tryd.isAgg4 (by repeat (first | exact .here rfl | apply CellAt.there)) (by trivial) ?_
  refine O_not rfl rfl rfl rfl rfl ?_
  refine O_pickT rfl rfl rfl rfl rfl rfl ?_
  refine O_assign rfl rfl rfl rfl rfl ?_
  refine R_nil ?_
  refine tn ?_
  refine F_ret ?_
  show endF _ _ _ _ _ _
  refine end0 trivial rfl rfl rfl hS ?_
  intro w hS
  replace hS := (hS).drop
  replace hS := (hS).drop
  exact ⟨rfl, hS⟩
theorem vatSums_walk {w0 w : World} {R : HProp} {value t rt : Int} (hv : -9223372036854775808 ≤ value ∧ value ≤ 9223372036854775807) (ht : 0 ≤ t ∧ t ≤ 255) (hr : 0 ≤ rt ∧ rt ≤ 65535) (hS : Sat w0 R w) : Calls Tryd.prog 3 #[.int .i64 value, .int .u8 t, .int .u16 rt] w (ret fun u w' => u = .bool true ∧ Sat w0 R w') := by
  obtain ⟨K, hK, hK2⟩ : ∃ K : Nat, t.tmod 12 = K ∧ K < 12 := ⟨(t.tmod 12).toNat, by have := Int.tmod_nonneg 12 ht.1; omega, by have := Int.tmod_nonneg 12 ht.1; have := Int.tmod_lt_of_pos t (show (0:Int) < 12 by omega); omega⟩
  obtain ⟨r, hr1, hr2, hr3⟩ : ∃ r : Nat, 1 + rt.tmod 1000 = r ∧ 1 ≤ r ∧ r ≤ 1000 := ⟨(1 + rt.tmod 1000).toNat, by have := Int.tmod_nonneg 1000 hr.1; omega, by have := Int.tmod_nonneg 1000 hr.1; omega, by have := Int.tmod_nonneg 1000 hr.1; have := Int.tmod_lt_of_pos rt (show (0:Int) < 1000 by omega); omega⟩
  have hT : ∀ m : Nat, m ≤ 11000 → -11000000000000000000000 ≤ (m : Int) * value ∧ (m : Int) * value ≤ 11000000000000000000000 ∨ ¬ (-1000000000000000000 < value ∧ value < 1000000000000000000) := fun m hm => by
    by_cases hc : -1000000000000000000 < value ∧ value < 1000000000000000000
    · left; have := mulB (a := value) (b := m) (A := 1000000000000000000) (B := 11000) (by omega) (by omega); rw [Int.mul_comm]; omega
    · exact .inr hc
  have hmr : ∀ j : Nat, j ≤ K → j * r ≤ 11000 := fun j hj => Nat.le_trans (Nat.mul_le_mul (show j ≤ 11 by omega) hr3) (by decide)
  replace hS := hS.noblks
  refine enterF (args := [_, _, _]) Tryd.func3 rfl Tryd.ntmps3 rfl rfl ?_
  refine F_seq ?_
  refine F_region (p := ⟨_, [0], []⟩) rfl [0] rfl ?_
  refine O_assign rfl rfl rfl rfl rfl ?_
  refine R_nil ?_
  refine tn ?_
  refine F_seq ?_
  refine F_region (p := ⟨_, [0, 0, 0, 0, 0], []⟩) rfl [0, 1, 2, 3, 4] rfl ?_
  refine O_move rfl rfl rfl rfl rfl ?_
  refine O_rem rfl rfl rfl rfl rfl rfl (by first | decide | omega) ?_
  refine O_convI rfl rfl rfl rfl Tryd.runUnderlying22 Tryd.runUnderlying3 rfl (by omega) ?_
  refine O_addN rfl rfl rfl rfl rfl rfl (by first | omega | (dsimp only; omega)) ?_
  refine O_assign rfl rfl rfl rfl rfl ?_
  refine R_nil ?_
  refine tn ?_
  refine F_seq ?_
  refine F_seq ?_
  refine F_region (p := ⟨_, [2, 0, 0, 0, 0, 0, 0, 0, 0, 0], []⟩) rfl [0, 1, 2, 3, 4, 5, 6, 7, 8, 9] rfl ?_
  refine O_call rfl rfl rfl rfl Tryd.call8 rfl (vAwake (hS)) (fun _ _ hv => trivial) ?_
  rintro _ w ⟨rfl, hS⟩
  refine O_not rfl rfl rfl rfl rfl ?_
  refine O_move rfl rfl rfl rfl rfl ?_
  refine O_move rfl rfl rfl rfl rfl ?_
  refine O_cmp rfl rfl rfl rfl rfl rfl rfl ?_
  refine O_pickF rfl rfl rfl rfl rfl rfl ?_
  refine O_move rfl rfl rfl rfl rfl ?_
  refine R_case (t := 26) rfl (fun h26 => ?_) (fun h26 => ?_)
  · try simp only [decide_eq_true_eq, decide_eq_false_iff_not, Bool.not_eq_true', Bool.not_eq_false', Bool.not_true, Bool.not_false, Option.isNone_iff_eq_none, Bool.false_eq_true, Bool.true_eq_false] at h26
    refine R_skip rfl rfl rfl rfl ?_
    refine R_skip rfl rfl rfl rfl ?_
    refine O_pickT rfl rfl rfl rfl rfl rfl ?_
    refine R_nil ?_
    refine tn ?_
    refine F_true rfl rfl ?_
    refine F_seq ?_
    refine F_region (p := ⟨_, [2, 0], []⟩) rfl [0, 1] rfl ?_
    refine O_call rfl rfl rfl rfl Tryd.call8 rfl (vAwake (hS)) (fun _ _ hv => trivial) ?_
    rintro _ w ⟨rfl, hS⟩
    refine O_assign rfl rfl rfl rfl rfl ?_
    refine R_nil ?_
    refine tn ?_
    refine F_ret ?_
    refine tr ?_
    show endF _ _ _ _ _ _
    refine end0 trivial rfl rfl rfl hS ?_
    intro w hS
    replace hS := (hS).drop
    exact ⟨rfl, hS⟩
  · try simp only [decide_eq_true_eq, decide_eq_false_iff_not, Bool.not_eq_true', Bool.not_eq_false', Bool.not_true, Bool.not_false, Option.isNone_iff_eq_none, Bool.false_eq_true, Bool.true_eq_false] at h26
    refine O_move rfl rfl rfl rfl rfl ?_
    refine O_cmp rfl rfl rfl rfl rfl rfl rfl ?_
    refine O_pickF rfl rfl rfl rfl rfl rfl ?_
    refine R_nil ?_
    refine tn ?_
    refine F_cond rfl (fun h29 => ?_) (fun h29 => ?_)
    · try simp only [decide_eq_true_eq, decide_eq_false_iff_not, Bool.not_eq_true', Bool.not_eq_false', Bool.not_true, Bool.not_false, Option.isNone_iff_eq_none, Bool.false_eq_true, Bool.true_eq_false] at h29
      refine F_seq ?_
      refine F_region (p := ⟨_, [2, 0], []⟩) rfl [0, 1] rfl ?_
      refine O_call rfl rfl rfl rfl Tryd.call8 rfl (vAwake (hS)) (fun _ _ hv => trivial) ?_
      rintro _ w ⟨rfl, hS⟩
      refine O_assign rfl rfl rfl rfl rfl ?_
      refine R_nil ?_
      refine tn ?_
      refine F_ret ?_
      refine tr ?_
      show endF _ _ _ _ _ _
      refine end0 trivial rfl rfl rfl hS ?_
      intro w hS
      replace hS := (hS).drop
      exact ⟨rfl, hS⟩
    · try simp only [decide_eq_true_eq, decide_eq_false_iff_not, Bool.not_eq_true', Bool.not_eq_false', Bool.not_true, Bool.not_false, Option.isNone_iff_eq_none, Bool.false_eq_true, Bool.true_eq_false] at h29
      refine F_skip ?_
      refine tn ?_
      refine F_seq ?_
      refine F_region (p := ⟨_, [2, 0, 0, 0, 0, 0], []⟩) rfl [0, 1, 2, 3, 4, 5] rfl ?_
      refine O_call rfl rfl rfl rfl Tryd.call9 rfl (vNew (k := 1) (by omega) (by omega) (hS)) (fun _ _ hv => trivial) ?_
      rintro _ w ⟨vb, rfl, hS⟩
      replace hS := hS.u2
      refine O_move rfl rfl rfl rfl rfl ?_
      refine O_extract rfl rfl rfl rfl rfl rfl ?_
      refine O_extract rfl rfl rfl rfl rfl rfl ?_
      refine O_assign rfl rfl rfl rfl rfl ?_
      refine O_assign rfl rfl rfl rfl rfl ?_
      refine R_nil ?_
      refine tn ?_
      refine F_seq ?_
      refine F_seq ?_
      refine F_region (p := ⟨_, [0, 0, 0, 0, 0, 0], []⟩) rfl [0, 1, 2, 3, 4, 5] rfl ?_
      refine O_move rfl rfl rfl rfl rfl ?_
      refine O_cmp rfl rfl rfl rfl rfl rfl rfl ?_
      refine O_move rfl rfl rfl rfl rfl ?_
      refine R_caseF (t := 37) rfl rfl ?_
      refine O_move rfl rfl rfl rfl rfl ?_
      refine O_eqNil rfl rfl rfl rfl rfl rfl Tryd.runUnderlying24 ?_
      refine O_pickF rfl rfl rfl rfl rfl rfl ?_
      refine R_nil ?_
      refine tn ?_
      refine F_false rfl rfl ?_
      refine F_skip ?_
      refine tn ?_
      refine F_seq ?_
      refine F_region (p := ⟨_, [0, 0, 0, 0, 2, 2], []⟩) rfl [0, 1, 2, 3, 4, 5] rfl ?_
      refine O_build rfl rfl rfl rfl rfl (run_buildS [_, _] Tryd.zeroValue30 Tryd.runUnderlying30 (fun _ => 1) ⟨Tryd.sizeOf9, Tryd.sizeOf28, trivial⟩ rfl) ?_
      refine O_move rfl rfl rfl rfl rfl ?_
      refine O_move rfl rfl rfl rfl rfl ?_
      refine O_build rfl rfl rfl rfl rfl (run_buildS [_, _, _, _, _, _, _, _, _] Tryd.zeroValue32 Tryd.runUnderlying32 (fun x => match x.offset with | 0 => 2 | _ => 1) ⟨Tryd.sizeOf30, Tryd.sizeOf3, Tryd.sizeOf3, Tryd.sizeOf9, Tryd.sizeOf3, Tryd.sizeOf3, Tryd.sizeOf9, Tryd.sizeOf3, trivial⟩ rfl) ?_
      refine O_allocS hS rfl rfl rfl rfl Tryd.zeroValue32 (fun _ _ hv => trivial) ?_
      intro b1 w hS
      refine O_storeAgg (cs := [_, _, _, _, _, _, _, _, _]) hS rfl rfl rfl rfl rfl rfl Tryd.sizeOf32 rfl (Nat.le_of_ble_eq_true rfl) (by simp [one]) (fun _ hv => trivial) ?_
      intro w hS
      dsimp only [setsL, List.set_cons_zero, List.set_cons_succ, Value.cells] at hS
      refine R_nil ?_
      refine tn ?_
      refine F_seq ?_
      refine F_region (p := ⟨_, [0, 0], []⟩) rfl [0, 1] rfl ?_
      refine O_assign rfl rfl rfl rfl rfl ?_
      refine O_assign rfl rfl rfl rfl rfl ?_
      refine R_nil ?_
      refine tn ?_
      refine F_seq ?_
      refine F_seq ?_
      refine F_region (p := ⟨_, [0, 0, 0, 0], []⟩) rfl [0, 1, 2, 3] rfl ?_
      refine O_move rfl rfl rfl rfl rfl ?_
      refine O_rem rfl rfl rfl rfl rfl rfl (by first | decide | omega) ?_
      refine O_convI rfl rfl rfl rfl Tryd.runUnderlying5 Tryd.runUnderlying3 rfl (by omega) ?_
      refine O_move rfl rfl rfl rfl rfl ?_
      refine R_nil ?_
      refine tn ?_
      refine F_block ?_
      have hcb : ∀ n, -9223372036854775808 ≤ clampI n ∧ clampI n ≤ 9223372036854775807 := fun n => by unfold clampI; split <;> (try split) <;> omega
      have hv2 : -1000000000000000000 < value ∧ value < 1000000000000000000 := by omega
      have hT := fun m hm => (hT m hm).resolve_right (fun h => h hv2)
      have hS := hS
      replace hS := hS.u2
      replace hS : Sat w0 (vatP E_ii O_ii E_si O_si 74 109 114 vb ⟨1, ((0 * r : Nat) : Int), ((0 * r : Nat) : Int) * value, 0, 0, 0, ⟨#[]⟩, [], []⟩ * _) w := hS.to (by rw [show (⟨1, ((0 * r : Nat) : Int), ((0 * r : Nat) : Int) * value, 0, 0, 0, ⟨#[]⟩, [], []⟩ : VatS) = vat0 1 by simp])
      replace hS := hS.u2
      refine F_loopK (α := Nat) [(0, _), (1, _), (6, _), (7, _), (8, _), (10, _), (47, _)] (fun (j : Nat) => [(11, (.int .i64 (clampI (((j * r : Nat) : Int) * value)))), (12, (.bool (outI (((j * r : Nat) : Int) * value)))), (48, (.int .i64 (j : Nat)))]) (fun (j : Nat) => vatP E_ii O_ii E_si O_si 74 109 114 vb ⟨1, ((j * r : Nat) : Int), ((j * r : Nat) : Int) * value, 0, 0, 0, ⟨#[]⟩, [], []⟩) (fun (j : Nat) => j ≤ K ∧ True) (fun (j : Nat) => K - j) 0 (Sup.app ⟨rfl, rfl, rfl, rfl, rfl, rfl, rfl, trivial⟩ ⟨(congrArg (fun n : Int => some (Value.int .i64 n)) (show (0 : Int) = clampI (((0 * r : Nat) : Int) * value) by simp [clampI])), (congrArg (fun n : Bool => some (Value.bool n)) (show false = outI (((0 * r : Nat) : Int) * value) by simp [outI])), rfl, trivial⟩) (hS.u2) ⟨Nat.zero_le _, trivial⟩ ?_
      clear hS
      rintro j w ⟨hj, hIj⟩ hS
      replace hS := hS
      rcases Nat.lt_or_ge j K with hj2 | hj2
      · have hjr := hmr (j + 1) (by omega)
        have hm1 := hT (j * r) (hmr j (by omega))
        have ej : (j + 1) * r = j * r + r := Nat.succ_mul j r
        refine wpF.sup (L := [(0, _), (1, _), (6, _), (7, _), (8, _), (10, _), (47, _), (11, _), (12, _), (48, _)]) ?_ ⟨rfl, rfl, rfl, rfl, rfl, rfl, rfl, rfl, rfl, rfl, trivial⟩
        replace hS := hS.u2
        refine F_seq ?_
        refine F_region (p := ⟨_, [0], []⟩) rfl [0] rfl ?_
        refine O_cmp rfl rfl rfl rfl rfl rfl rfl ?_
        refine R_nil ?_
        refine tn ?_
        refine F_seq ?_
        refine F_true rfl (decide_eq_true (by omega)) ?_
        refine F_skip ?_
        refine tn ?_
        refine F_seq ?_
        refine F_block ?_
        refine F_seq ?_
        refine F_region (p := ⟨_, [0, 1, 2], []⟩) rfl [0, 1, 2] rfl ?_
        refine O_move rfl rfl rfl rfl rfl ?_
        refine O_loadAgg [_, _, _, _, _, _, _, _, _] rfl rfl rfl rfl rfl Tryd.isAgg32 Tryd.sizeOf32 rfl (CellsAt.rd ⟨(by repeat (first | exact .here rfl | apply CellAt.there)), (by repeat (first | exact .here rfl | apply CellAt.there)), (by repeat (first | exact .here rfl | apply CellAt.there)), (by repeat (first | exact .here rfl | apply CellAt.there)), (by repeat (first | exact .here rfl | apply CellAt.there)), (by repeat (first | exact .here rfl | apply CellAt.there)), (by repeat (first | exact .here rfl | apply CellAt.there)), (by repeat (first | exact .here rfl | apply CellAt.there)), (by repeat (first | exact .here rfl | apply CellAt.there)), trivial⟩ (hS)) (by trivial) ?_
        refine O_call rfl rfl rfl rfl Tryd.call10 rfl (vAddC (e := ⟨.string ⟨#[97]⟩, .slice none 0 0, 1, value, ⟨#[]⟩, 1 + rt.tmod 1000, 0, ⟨#[97]⟩, 1⟩) rfl rfl (by simp only; omega) (by simp only; omega) (by simp only; omega) (by simp only; omega) (hS.u2)) (fun _ _ hv => trivial) ?_
        rintro _ w ⟨rfl, hS⟩
        replace hS := hS.u2
        refine R_nil ?_
        refine tn ?_
        refine F_seq ?_
        refine F_region (p := ⟨_, [0, 0], []⟩) rfl [0, 1] rfl ?_
        refine O_move rfl rfl rfl rfl rfl ?_
        refine O_move rfl rfl rfl rfl rfl ?_
        refine R_nil ?_
        refine tn ?_
        refine F_block ?_
        refine F_loopK (α := Nat) [(0, _), (1, _), (6, _), (7, _), (8, _), (10, _), (47, _), (48, _), (53, _)] (fun (i : Nat) => [(11, (.int .i64 (clampI (((j * r + i : Nat) : Int) * value)))), (12, (.bool (outI (((j * r + i : Nat) : Int) * value)))), (54, (.int .i64 (i : Nat)))]) (fun (i : Nat) => hemp) (fun (i : Nat) => i ≤ r ∧ True) (fun (i : Nat) => r - i) 0 (Sup.app ⟨rfl, rfl, rfl, rfl, rfl, rfl, rfl, rfl, rfl, trivial⟩ ⟨rfl, rfl, rfl, trivial⟩) (hS.to (hemp_star _).symm) ⟨Nat.zero_le _, trivial⟩ ?_
        clear hS
        rintro i w ⟨hi, hIi⟩ hS
        replace hS := hS.to (hemp_star _)
        rcases Nat.lt_or_ge i r with hi2 | hi2
        · have hm2 := hT (j * r + i) (by omega)
          have es : ((j * r + (i + 1) : Nat) : Int) * value = ((j * r + i : Nat) : Int) * value + value := by rw [← Nat.add_assoc, Int.natCast_add (j * r + i), Int.add_mul]; simp
          have hst := sat_step (x := ((j * r + i : Nat) : Int) * value) (v := value) (by rcases Int.le_total 0 value with h | h; exact .inl ⟨h, Int.mul_nonneg (by omega) h⟩; exact .inr ⟨h, Int.mul_nonpos_of_nonneg_of_nonpos (by omega) h⟩) (by omega)
          rw [← es] at hst
          refine wpF.sup (L := [(0, _), (1, _), (6, _), (7, _), (8, _), (10, _), (47, _), (48, _), (53, _), (11, _), (12, _), (54, _)]) ?_ ⟨rfl, rfl, rfl, rfl, rfl, rfl, rfl, rfl, rfl, rfl, rfl, rfl, trivial⟩
          refine F_seq ?_
          refine F_region (p := ⟨_, [0], []⟩) rfl [0] rfl ?_
          refine O_cmp rfl rfl rfl rfl rfl rfl rfl ?_
          refine R_nil ?_
          refine tn ?_
          refine F_seq ?_
          refine F_true rfl (decide_eq_true (by omega)) ?_
          refine F_skip ?_
          refine tn ?_
          refine F_seq ?_
          refine F_block ?_
          refine F_seq ?_
          refine F_region (p := ⟨_, [0, 0, 2, 0, 0, 0, 0, 0], []⟩) rfl [0, 1, 2, 3, 4, 5, 6, 7] rfl ?_
          refine O_move rfl rfl rfl rfl rfl ?_
          refine O_move rfl rfl rfl rfl rfl ?_
          refine O_call rfl rfl rfl rfl Tryd.call11 rfl (rSat (hcb _) (by omega) (hS)) (fun _ _ hv => trivial) ?_
          rintro _ w ⟨rfl, hS⟩
          refine O_move rfl rfl rfl rfl rfl ?_
          refine O_extract rfl rfl rfl rfl rfl rfl ?_
          refine O_extract rfl rfl rfl rfl rfl rfl ?_
          refine O_assign rfl rfl rfl rfl rfl ?_
          refine O_assign rfl rfl rfl rfl rfl ?_
          refine R_nil ?_
          refine tn ?_
          refine F_region (p := ⟨_, [0, 0, 0, 0, 0, 0, 0], []⟩) rfl [0, 1, 2, 3, 4, 5, 6] rfl ?_
          refine O_move rfl rfl rfl rfl rfl ?_
          refine O_move rfl rfl rfl rfl rfl ?_
          refine O_move rfl rfl rfl rfl rfl ?_
          refine R_case (t := 64) rfl (fun hov => ?_) (fun hov => ?_)
          · try simp only [decide_eq_true_eq, decide_eq_false_iff_not, Bool.not_eq_true', Bool.not_eq_false', Bool.not_true, Bool.not_false, Option.isNone_iff_eq_none, Bool.false_eq_true, Bool.true_eq_false] at hov
            refine R_skip rfl rfl rfl rfl ?_
            refine O_pickT rfl rfl rfl rfl rfl rfl ?_
            refine O_assign rfl rfl rfl rfl rfl ?_
            refine O_assign rfl rfl rfl rfl rfl ?_
            refine R_nil ?_
            refine bn ?_
            refine tn ?_
            refine F_region (p := ⟨_, [0, 0], []⟩) rfl [0, 1] rfl ?_
            refine O_addN rfl rfl rfl rfl rfl rfl (by first | omega | (dsimp only; omega)) ?_
            refine O_move rfl rfl rfl rfl rfl ?_
            refine R_nil ?_
            replace hS := hS.u2.u2
            refine tn ⟨rfl, rfl, i + 1, Sup.app ⟨rfl, rfl, rfl, rfl, rfl, rfl, rfl, rfl, rfl, trivial⟩ ⟨congrArg (fun n : Int => some (Value.int .i64 n)) hst.1, congrArg (fun n : Bool => some (Value.bool n)) (by rw [← hst.2, hov]; rfl), rfl, trivial⟩, ⟨⟨by omega, trivial⟩, hS.to (hemp_star _).symm⟩, by omega⟩
          · try simp only [decide_eq_true_eq, decide_eq_false_iff_not, Bool.not_eq_true', Bool.not_eq_false', Bool.not_true, Bool.not_false, Option.isNone_iff_eq_none, Bool.false_eq_true, Bool.true_eq_false] at hov
            refine O_move rfl rfl rfl rfl rfl ?_
            refine O_pickF rfl rfl rfl rfl rfl rfl ?_
            refine O_assign rfl rfl rfl rfl rfl ?_
            refine O_assign rfl rfl rfl rfl rfl ?_
            refine R_nil ?_
            refine bn ?_
            refine tn ?_
            refine F_region (p := ⟨_, [0, 0], []⟩) rfl [0, 1] rfl ?_
            refine O_addN rfl rfl rfl rfl rfl rfl (by first | omega | (dsimp only; omega)) ?_
            refine O_move rfl rfl rfl rfl rfl ?_
            refine R_nil ?_
            replace hS := hS.u2.u2
            refine tn ⟨rfl, rfl, i + 1, Sup.app ⟨rfl, rfl, rfl, rfl, rfl, rfl, rfl, rfl, rfl, trivial⟩ ⟨congrArg (fun n : Int => some (Value.int .i64 n)) hst.1, congrArg (fun n : Bool => some (Value.bool n)) (by rw [← hst.2, hov]; rfl), rfl, trivial⟩, ⟨⟨by omega, trivial⟩, hS.to (hemp_star _).symm⟩, by omega⟩
        · have ei : r = i := by omega
          subst ei
          refine wpF.sup (L := [(0, _), (1, _), (6, _), (7, _), (8, _), (10, _), (47, _), (48, _), (53, _), (11, _), (12, _), (54, _)]) ?_ ⟨rfl, rfl, rfl, rfl, rfl, rfl, rfl, rfl, rfl, rfl, rfl, rfl, trivial⟩
          refine F_seq ?_
          refine F_region (p := ⟨_, [0], []⟩) rfl [0] rfl ?_
          refine O_cmp rfl rfl rfl rfl rfl rfl rfl ?_
          refine R_nil ?_
          refine tn ?_
          refine F_seq ?_
          refine F_false rfl (decide_eq_false (by omega)) ?_
          refine F_exit ?_
          refine tx ?_
          refine tx ?_
          refine Go.Sl.bx rfl ?_
          refine bn ?_
          refine tn ?_
          refine F_region (p := ⟨_, [0, 0], []⟩) rfl [0, 1] rfl ?_
          refine O_addN rfl rfl rfl rfl rfl rfl (by first | omega | (dsimp only; omega)) ?_
          refine O_move rfl rfl rfl rfl rfl ?_
          refine R_nil ?_
          replace hS := hS.u2
          replace hS : Sat w0 (vatP E_ii O_ii E_si O_si 74 109 114 vb ⟨1, (((j + 1) * r : Nat) : Int), (((j + 1) * r : Nat) : Int) * value, 0, 0, 0, ⟨#[]⟩, [], []⟩ * _) w := hS.to (by rw [show (⟨1, (((j + 1) * r : Nat) : Int), (((j + 1) * r : Nat) : Int) * value, 0, 0, 0, ⟨#[]⟩, [], []⟩ : VatS) = { (⟨1, ((j * r : Nat) : Int), ((j * r : Nat) : Int) * value, 0, 0, 0, ⟨#[]⟩, [], []⟩ : VatS) with many := ((j * r : Nat) : Int) + (1 + rt.tmod 1000), sum := ((j * r : Nat) : Int) * value + value * (1 + rt.tmod 1000) } by rw [hr1]; simp only [VatS.mk.injEq, true_and, and_true]; refine ⟨?_, ?_⟩; (omega); (rw [ej, Int.natCast_add, Int.add_mul, Int.mul_comm value])])
          replace hS := hS.u2
          replace hS := hS.u2
          refine tn ⟨rfl, rfl, j + 1, Sup.app ⟨rfl, rfl, rfl, rfl, rfl, rfl, rfl, trivial⟩ ⟨congrArg (fun n : Nat => some (Value.int .i64 (clampI ((n : Int) * value)))) ej.symm, congrArg (fun n : Nat => some (Value.bool (outI ((n : Int) * value)))) ej.symm, rfl, trivial⟩, ⟨⟨by omega, trivial⟩, hS⟩, by omega⟩
      · have ej : K = j := by omega
        subst ej
        have hmK := hmr K (Nat.le_refl _)
        have hTK := hT (K * r) hmK
        refine wpF.sup (L := [(0, _), (1, _), (6, _), (7, _), (8, _), (10, _), (47, _), (11, _), (12, _), (48, _)]) ?_ ⟨rfl, rfl, rfl, rfl, rfl, rfl, rfl, rfl, rfl, rfl, trivial⟩
        replace hS := hS.u2
        refine F_seq ?_
        refine F_region (p := ⟨_, [0], []⟩) rfl [0] rfl ?_
        refine O_cmp rfl rfl rfl rfl rfl rfl rfl ?_
        refine R_nil ?_
        refine tn ?_
        refine F_seq ?_
        refine F_false rfl (decide_eq_false (by omega)) ?_
        refine F_exit ?_
        refine tx ?_
        refine tx ?_
        refine Go.Sl.bx rfl ?_
        refine tn ?_
        refine F_seq ?_
        refine F_region (p := ⟨_, [0, 2, 2, 2], []⟩) rfl [0, 1, 2, 3] rfl ?_
        refine O_move rfl rfl rfl rfl rfl ?_
        refine O_call rfl rfl rfl rfl Tryd.call12 rfl (vResC rfl rfl (by simp only; omega) (hS.u2)) (fun _ _ hv => trivial) ?_
        rintro _ w ⟨rfl, hS⟩
        replace hS := hS.u2
        refine O_allocS hS rfl rfl rfl rfl Tryd.zeroValue38 (fun _ _ hv => trivial) ?_
        intro b2 w hS
        refine O_storeAgg (cs := [_, _, _, _, _, _, _, _, _]) hS rfl rfl rfl rfl rfl rfl Tryd.sizeOf38 rfl (Nat.le_of_ble_eq_true rfl) (by simp [one]) (fun _ hv => trivial) ?_
        intro w hS
        dsimp only [setsL, List.set_cons_zero, List.set_cons_succ, Value.cells] at hS
        refine R_nil ?_
        refine tn ?_
        refine F_seq ?_
        refine F_seq ?_
        refine F_region (p := ⟨_, [0, 1, 0, 0, 0, 0, 1, 0, 0, 0], []⟩) rfl [0, 1, 2, 3, 4, 5, 6, 7, 8, 9] rfl ?_
        refine O_fieldAddr rfl rfl rfl rfl rfl Tryd.runUnderlying38 rfl Tryd.sizeOf3 ?_
        refine O_loadS hS rfl rfl rfl rfl rfl Tryd.isAgg3 (by repeat (first | exact .here rfl | apply CellAt.there)) (by trivial) ?_
        refine O_move rfl rfl rfl rfl rfl ?_
        refine O_cmp rfl rfl rfl rfl rfl rfl rfl ?_
        refine O_move rfl rfl rfl rfl rfl ?_
        refine R_caseF (t := 75) rfl (by simp) ?_
        refine O_fieldAddr rfl rfl rfl rfl rfl Tryd.runUnderlying38 rfl Tryd.sizeOf4 ?_
        refine O_loadS hS rfl rfl rfl rfl rfl Tryd.isAgg4 (by repeat (first | exact .here rfl | apply CellAt.there)) (by trivial) ?_
        refine O_move rfl rfl rfl rfl rfl ?_
        refine O_neB rfl rfl rfl rfl rfl rfl Tryd.runUnderlying4 ?_
        refine O_pickF rfl rfl rfl rfl rfl rfl ?_
        refine R_nil ?_
        refine tn ?_
        refine F_false rfl (by simp) ?_
        refine F_skip ?_
        refine tn ?_
        refine F_seq ?_
        refine F_region (p := ⟨_, [0, 0, 0, 2], []⟩) rfl [0, 1, 2, 3] rfl ?_
        refine O_move rfl rfl rfl rfl rfl ?_
        refine O_negN rfl rfl rfl rfl rfl (by first | omega | (dsimp only; omega)) ?_
        refine O_fieldAddr rfl rfl rfl rfl rfl Tryd.runUnderlying32 rfl Tryd.sizeOf3 ?_
        refine O_storeS hS rfl rfl rfl rfl rfl rfl rfl Tryd.sizeOf3 (by repeat (first | exact .here rfl rfl | apply SetAt.there)) (fun w' hv => trivial) ?_
        intro w hS
        refine R_nil ?_
        refine tn ?_
        refine F_seq ?_
        refine F_seq ?_
        refine F_region (p := ⟨_, [0, 0, 0, 0], []⟩) rfl [0, 1, 2, 3] rfl ?_
        refine O_move rfl rfl rfl rfl rfl ?_
        refine O_rem rfl rfl rfl rfl rfl rfl (by first | decide | omega) ?_
        refine O_convI rfl rfl rfl rfl Tryd.runUnderlying5 Tryd.runUnderlying3 rfl (by omega) ?_
        refine O_move rfl rfl rfl rfl rfl ?_
        refine R_nil ?_
        refine tn ?_
        refine F_block ?_
        replace hS := hS.u2
        replace hS : Sat w0 (vatP E_ii O_ii E_si O_si 74 109 114 vb ⟨1, (((K + 0) * r : Nat) : Int), ((K * r : Nat) : Int) * value + ((0 * r : Nat) : Int) * (-value), 0, 0, 0, ⟨#[]⟩, [], []⟩ * _) w := hS.to (by rw [show (⟨1, (((K + 0) * r : Nat) : Int), ((K * r : Nat) : Int) * value + ((0 * r : Nat) : Int) * (-value), 0, 0, 0, ⟨#[]⟩, [], []⟩ : VatS) = ⟨1, ((K * r : Nat) : Int), ((K * r : Nat) : Int) * value, 0, 0, 0, ⟨#[]⟩, [], []⟩ by simp])
        replace hS := hS.u2
        refine F_loopK (α := Nat) [(0, _), (1, _), (6, _), (7, _), (8, _), (10, _), (11, _), (12, _), (15, _), (47, _), (48, _), (86, _)] (fun (j : Nat) => [(87, (.int .i64 (j : Nat)))]) (fun (j : Nat) => vatP E_ii O_ii E_si O_si 74 109 114 vb ⟨1, (((K + j) * r : Nat) : Int), ((K * r : Nat) : Int) * value + ((j * r : Nat) : Int) * (-value), 0, 0, 0, ⟨#[]⟩, [], []⟩) (fun (j : Nat) => j ≤ K ∧ True) (fun (j : Nat) => K - j) 0 (Sup.app ⟨rfl, rfl, rfl, rfl, rfl, rfl, rfl, rfl, rfl, rfl, rfl, rfl, trivial⟩ ⟨rfl, trivial⟩) (hS.u2) ⟨Nat.zero_le _, trivial⟩ ?_
        clear hS
        rintro j w ⟨hj, hIj⟩ hS
        replace hS := hS
        rcases Nat.lt_or_ge j K with hj2 | hj2
        · have hjr := hmr (j + 1) (by omega)
          have hm1 := hT (j * r) (hmr j (by omega))
          have hm0 := hT (K * r) (hmr K (by omega))
          have ej : (j + 1) * r = j * r + r := Nat.succ_mul j r
          have ek : (K + (j + 1)) * r = (K + j) * r + r := Nat.succ_mul (K + j) r
          have ek2 : (K + j) * r = K * r + j * r := Nat.add_mul ..
          have hmK := hmr K (by omega)
          have en : ((j * r : Nat) : Int) * (-value) = -(((j * r : Nat) : Int) * value) := Int.mul_neg ..
          refine wpF.sup (L := [(0, _), (1, _), (6, _), (7, _), (8, _), (10, _), (11, _), (12, _), (15, _), (47, _), (48, _), (86, _), (87, _)]) ?_ ⟨rfl, rfl, rfl, rfl, rfl, rfl, rfl, rfl, rfl, rfl, rfl, rfl, rfl, trivial⟩
          replace hS := hS.u2
          refine F_seq ?_
          refine F_region (p := ⟨_, [0], []⟩) rfl [0] rfl ?_
          refine O_cmp rfl rfl rfl rfl rfl rfl rfl ?_
          refine R_nil ?_
          refine tn ?_
          refine F_seq ?_
          refine F_true rfl (decide_eq_true (by omega)) ?_
          refine F_skip ?_
          refine tn ?_
          refine F_seq ?_
          refine F_block ?_
          refine F_region (p := ⟨_, [0, 1, 2], []⟩) rfl [0, 1, 2] rfl ?_
          refine O_move rfl rfl rfl rfl rfl ?_
          refine O_loadAgg [_, _, _, _, _, _, _, _, _] rfl rfl rfl rfl rfl Tryd.isAgg32 Tryd.sizeOf32 rfl (CellsAt.rd ⟨(by repeat (first | exact .here rfl | apply CellAt.there)), (by repeat (first | exact .here rfl | apply CellAt.there)), (by repeat (first | exact .here rfl | apply CellAt.there)), (by repeat (first | exact .here rfl | apply CellAt.there)), (by repeat (first | exact .here rfl | apply CellAt.there)), (by repeat (first | exact .here rfl | apply CellAt.there)), (by repeat (first | exact .here rfl | apply CellAt.there)), (by repeat (first | exact .here rfl | apply CellAt.there)), (by repeat (first | exact .here rfl | apply CellAt.there)), trivial⟩ (hS)) (by trivial) ?_
          refine O_call rfl rfl rfl rfl Tryd.call10 rfl (vAddC (e := ⟨.string ⟨#[97]⟩, .slice none 0 0, 1, -value, ⟨#[]⟩, 1 + rt.tmod 1000, 0, ⟨#[97]⟩, 1⟩) rfl rfl (by simp only; omega) (by simp only; omega) (by simp only; omega) (by simp only; omega) (hS.u2)) (fun _ _ hv => trivial) ?_
          rintro _ w ⟨rfl, hS⟩
          replace hS := hS.u2
          refine R_nil ?_
          refine bn ?_
          refine tn ?_
          refine F_region (p := ⟨_, [0, 0], []⟩) rfl [0, 1] rfl ?_
          refine O_addN rfl rfl rfl rfl rfl rfl (by first | omega | (dsimp only; omega)) ?_
          refine O_move rfl rfl rfl rfl rfl ?_
          refine R_nil ?_
          replace hS := hS.u2
          replace hS : Sat w0 (vatP E_ii O_ii E_si O_si 74 109 114 vb ⟨1, (((K + (j + 1)) * r : Nat) : Int), ((K * r : Nat) : Int) * value + (((j + 1) * r : Nat) : Int) * (-value), 0, 0, 0, ⟨#[]⟩, [], []⟩ * _) w := hS.to (by rw [show (⟨1, (((K + (j + 1)) * r : Nat) : Int), ((K * r : Nat) : Int) * value + (((j + 1) * r : Nat) : Int) * (-value), 0, 0, 0, ⟨#[]⟩, [], []⟩ : VatS) = { (⟨1, (((K + j) * r : Nat) : Int), ((K * r : Nat) : Int) * value + ((j * r : Nat) : Int) * (-value), 0, 0, 0, ⟨#[]⟩, [], []⟩ : VatS) with many := (((K + j) * r : Nat) : Int) + (1 + rt.tmod 1000), sum := ((K * r : Nat) : Int) * value + ((j * r : Nat) : Int) * (-value) + (-value) * (1 + rt.tmod 1000) } by rw [hr1]; simp only [VatS.mk.injEq, true_and, and_true]; refine ⟨?_, ?_⟩; (omega); (rw [ej, Int.natCast_add (j * r), Int.add_mul, Int.mul_comm (-value), Int.add_assoc])])
          replace hS := hS.u2
          replace hS := hS.lk2.lk2
          replace hS := hS.u2
          refine tn ⟨rfl, rfl, j + 1, Sup.app ⟨rfl, rfl, rfl, rfl, rfl, rfl, rfl, rfl, rfl, rfl, rfl, rfl, trivial⟩ ⟨rfl, trivial⟩, ⟨⟨by omega, trivial⟩, hS⟩, by omega⟩
        · have ej : K = j := by omega
          subst ej
          rw [show ((K * r : Nat) : Int) * value + ((K * r : Nat) : Int) * (-value) = 0 by rw [Int.mul_neg]; omega] at hS
          refine wpF.sup (L := [(0, _), (1, _), (6, _), (7, _), (8, _), (10, _), (11, _), (12, _), (15, _), (47, _), (48, _), (86, _), (87, _)]) ?_ ⟨rfl, rfl, rfl, rfl, rfl, rfl, rfl, rfl, rfl, rfl, rfl, rfl, rfl, trivial⟩
          replace hS := hS.u2
          refine F_seq ?_
          refine F_region (p := ⟨_, [0], []⟩) rfl [0] rfl ?_
          refine O_cmp rfl rfl rfl rfl rfl rfl rfl ?_
          refine R_nil ?_
          refine tn ?_
          refine F_seq ?_
          refine F_false rfl (decide_eq_false (by omega)) ?_
          refine F_exit ?_
          refine tx ?_
          refine tx ?_
          refine Go.Sl.bx rfl ?_
          refine tn ?_
          refine F_seq ?_
          refine F_region (p := ⟨_, [0, 2, 2], []⟩) rfl [0, 1, 2] rfl ?_
          refine O_move rfl rfl rfl rfl rfl ?_
          refine O_call rfl rfl rfl rfl Tryd.call12 rfl (vResC rfl rfl (by simp only; omega) (hS.u2)) (fun _ _ hv => trivial) ?_
          rintro _ w ⟨rfl, hS⟩
          replace hS := hS.u2
          refine O_storeAgg (cs := [_, _, _, _, _, _, _, _, _]) hS rfl rfl rfl rfl rfl rfl Tryd.sizeOf38 rfl (Nat.le_of_ble_eq_true rfl) (by simp [one]) (fun _ hv => trivial) ?_
          intro w hS
          dsimp only [setsL, List.set_cons_zero, List.set_cons_succ, Value.cells] at hS
          refine R_nil ?_
          refine tn ?_
          refine F_seq ?_
          refine F_region (p := ⟨_, [0, 1, 0, 0, 0, 1, 0, 0, 0], []⟩) rfl [0, 1, 2, 3, 4, 5, 6, 7, 8] rfl ?_
          refine O_fieldAddr rfl rfl rfl rfl rfl Tryd.runUnderlying38 rfl Tryd.sizeOf3 ?_
          refine O_loadS hS rfl rfl rfl rfl rfl Tryd.isAgg3 (by repeat (first | exact .here rfl | apply CellAt.there)) (by trivial) ?_
          refine O_cmp rfl rfl rfl rfl rfl rfl rfl ?_
          refine O_move rfl rfl rfl rfl rfl ?_
          refine R_caseT (t := 98) rfl rfl ?_
          refine O_fieldAddr rfl rfl rfl rfl rfl Tryd.runUnderlying38 rfl Tryd.sizeOf4 ?_
          refine O_loadS hS rfl rfl rfl rfl rfl Tryd.isAgg4 (by repeat (first | exact .here rfl | apply CellAt.there)) (by trivial) ?_
          refine O_not rfl rfl rfl rfl rfl ?_
          refine O_pickT rfl rfl rfl rfl rfl rfl ?_
          refine O_assign rfl rfl rfl rfl rfl ?_
          refine R_nil ?_
          refine tn ?_
          refine F_ret ?_
          show endF _ _ _ _ _ _
          refine end0 trivial rfl rfl rfl hS ?_
          intro w hS
          replace hS := (hS).drop
          replace hS := (hS).drop
          exact ⟨rfl, hS⟩
end Go.Proofs.YtpnigaoibhogfaaDoor
