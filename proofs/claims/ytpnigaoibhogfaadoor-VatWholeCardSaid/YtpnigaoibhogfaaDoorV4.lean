/- YtpnigaoibhogfaaDoorV4: a part of the proof: walks over the translated code, and plain facts on lists beside. -/
import Derived.Test.YtpnigaoibhogfaaDoorV2
import Derived.Test.YtpnigaoibhogfaaDoorV2s
import Derived.Test.YtpnigaoibhogfaaDoorV3
import Derived.Test.YtpnigaoibhogfaaDoorSlVat
set_option linter.all false
namespace Go.Proofs.YtpnigaoibhogfaaDoor
open Go Go.RowKit Go.Sl
set_option linter.unusedVariables false
theorem vEven {w0 w : World} {R : HProp} {h l : Int} (hh : -4000000000000000000 ≤ h ∧ h ≤ 4000000000000000000) (hl : -4000000000000000000 ≤ l ∧ l ≤ 4000000000000000000) (hS : Sat w0 R w) :
    Calls Tryd.prog 49 #[.agg #[.int .i64 h, .int .i64 l]] w (ret fun u w' => u = .agg #[.int .i64 (h + l / 1000000000000), .int .i64 (l % 1000000000000)] ∧ Sat w0 R w') := by
  have hq := tq12 l
  have he := even12 l
  replace hS := hS.noblks
  refine enterF (args := [_]) Tryd.func49 rfl Tryd.ntmps49 rfl rfl ?_
  refine F_seq ?_
  refine F_region (p := ⟨_, [2, 2], []⟩) rfl [0, 1] rfl ?_
  refine O_boxS hS rfl rfl rfl rfl rfl (fun _ _ hv => trivial) ?_
  intro b1 w hS
  refine O_allocS hS rfl rfl rfl rfl Tryd.zeroValue70 (fun _ _ hv => trivial) ?_
  intro b2 w hS
  refine R_nil ?_
  refine tn ?_
  refine F_seq ?_
  refine F_region (p := ⟨_, [0, 1, 0, 0], []⟩) rfl [0, 1, 2, 3] rfl ?_
  refine O_fieldAddr rfl rfl rfl rfl rfl Tryd.runUnderlying70 rfl Tryd.sizeOf3 ?_
  refine O_loadS hS rfl rfl rfl rfl rfl Tryd.isAgg3 (by repeat (first | exact .here rfl | apply CellAt.there)) (by trivial) ?_
  refine O_quoN rfl rfl rfl rfl rfl rfl (by first | decide | omega) (by first | omega | (dsimp only; omega)) ?_
  refine O_assign rfl rfl rfl rfl rfl ?_
  refine R_nil ?_
  refine tn ?_
  refine F_seq ?_
  refine F_seq ?_
  refine F_region (p := ⟨_, [0, 1, 0, 0], []⟩) rfl [0, 1, 2, 3] rfl ?_
  refine O_fieldAddr rfl rfl rfl rfl rfl Tryd.runUnderlying70 rfl Tryd.sizeOf3 ?_
  refine O_loadS hS rfl rfl rfl rfl rfl Tryd.isAgg3 (by repeat (first | exact .here rfl | apply CellAt.there)) (by trivial) ?_
  refine O_rem rfl rfl rfl rfl rfl rfl (by first | decide | omega) ?_
  refine O_cmp rfl rfl rfl rfl rfl rfl rfl ?_
  refine R_nil ?_
  refine tn ?_
  refine F_cond rfl (fun hneg => ?_) (fun hneg => ?_)
  · try simp only [decide_eq_true_eq, decide_eq_false_iff_not, Bool.not_eq_true', Bool.not_eq_false', Bool.not_true, Bool.not_false, Option.isNone_iff_eq_none, Bool.false_eq_true, Bool.true_eq_false] at hneg
    refine F_region (p := ⟨_, [0, 0, 0], []⟩) rfl [0, 1, 2] rfl ?_
    refine O_move rfl rfl rfl rfl rfl ?_
    refine O_subN rfl rfl rfl rfl rfl rfl (by first | omega | (dsimp only; omega)) ?_
    refine O_assign rfl rfl rfl rfl rfl ?_
    refine R_nil ?_
    refine tn ?_
    refine F_seq ?_
    refine F_region (p := ⟨_, [0, 1, 0, 0, 0, 1, 0, 0, 0, 0, 2], []⟩) rfl [0, 1, 2, 3, 4, 5, 6, 7, 8, 9, 10] rfl ?_
    refine O_fieldAddr rfl rfl rfl rfl rfl Tryd.runUnderlying70 rfl Tryd.sizeOf3 ?_
    refine O_loadS hS rfl rfl rfl rfl rfl Tryd.isAgg3 (by repeat (first | exact .here rfl | apply CellAt.there)) (by trivial) ?_
    refine O_move rfl rfl rfl rfl rfl ?_
    refine O_addN rfl rfl rfl rfl rfl rfl (by first | omega | (dsimp only; omega)) ?_
    refine O_fieldAddr rfl rfl rfl rfl rfl Tryd.runUnderlying70 rfl Tryd.sizeOf3 ?_
    refine O_loadS hS rfl rfl rfl rfl rfl Tryd.isAgg3 (by repeat (first | exact .here rfl | apply CellAt.there)) (by trivial) ?_
    refine O_move rfl rfl rfl rfl rfl ?_
    refine O_mulN rfl rfl rfl rfl rfl rfl (by first | omega | (dsimp only; omega)) ?_
    refine O_subN rfl rfl rfl rfl rfl rfl (by first | omega | (dsimp only; omega)) ?_
    refine O_build rfl rfl rfl rfl rfl (run_buildS [_, _] Tryd.zeroValue70 Tryd.runUnderlying70 (fun _ => 1) ⟨Tryd.sizeOf3, Tryd.sizeOf3, trivial⟩ rfl) ?_
    refine O_storeAgg (cs := [_, _]) hS rfl rfl rfl rfl rfl rfl Tryd.sizeOf70 rfl (Nat.le_of_ble_eq_true rfl) (by simp [one]) (fun _ hv => trivial) ?_
    intro w hS
    dsimp only [setsL, List.set_cons_zero, List.set_cons_succ, Value.cells] at hS
    refine R_nil ?_
    refine tn ?_
    refine F_ret ?_
    rw [show h + (l.tdiv 1000000000000 - 1) = h + l / 1000000000000 by have := he.1 hneg; omega, show l - (l.tdiv 1000000000000 - 1) * 1000000000000 = l % 1000000000000 by have := he.1 hneg; omega] at hS
    show endF _ _ _ _ _ _
    refine end_in (vs := [.agg #[.int .i64 (h + l / 1000000000000), .int .i64 (l % 1000000000000)]]) trivial rfl (hS.to (hemp_star _).symm) ?_
    intro w hS
    refine ⟨⟨_, rfl, loadVar_agg [_, _] Tryd.isAgg70 Tryd.sizeOf70 rfl (CellsAt.rd ⟨(by repeat (first | exact .here rfl | apply CellAt.there)), (by repeat (first | exact .here rfl | apply CellAt.there)), trivial⟩ hS), trivial⟩, rfl, ?_⟩
    replace hS := (hS).drop
    exact hS
  · try simp only [decide_eq_true_eq, decide_eq_false_iff_not, Bool.not_eq_true', Bool.not_eq_false', Bool.not_true, Bool.not_false, Option.isNone_iff_eq_none, Bool.false_eq_true, Bool.true_eq_false] at hneg
    refine F_skip ?_
    refine tn ?_
    refine F_seq ?_
    refine F_region (p := ⟨_, [0, 1, 0, 0, 0, 1, 0, 0, 0, 0, 2], []⟩) rfl [0, 1, 2, 3, 4, 5, 6, 7, 8, 9, 10] rfl ?_
    refine O_fieldAddr rfl rfl rfl rfl rfl Tryd.runUnderlying70 rfl Tryd.sizeOf3 ?_
    refine O_loadS hS rfl rfl rfl rfl rfl Tryd.isAgg3 (by repeat (first | exact .here rfl | apply CellAt.there)) (by trivial) ?_
    refine O_move rfl rfl rfl rfl rfl ?_
    refine O_addN rfl rfl rfl rfl rfl rfl (by first | omega | (dsimp only; omega)) ?_
    refine O_fieldAddr rfl rfl rfl rfl rfl Tryd.runUnderlying70 rfl Tryd.sizeOf3 ?_
    refine O_loadS hS rfl rfl rfl rfl rfl Tryd.isAgg3 (by repeat (first | exact .here rfl | apply CellAt.there)) (by trivial) ?_
    refine O_move rfl rfl rfl rfl rfl ?_
    refine O_mulN rfl rfl rfl rfl rfl rfl (by first | omega | (dsimp only; omega)) ?_
    refine O_subN rfl rfl rfl rfl rfl rfl (by first | omega | (dsimp only; omega)) ?_
    refine O_build rfl rfl rfl rfl rfl (run_buildS [_, _] Tryd.zeroValue70 Tryd.runUnderlying70 (fun _ => 1) ⟨Tryd.sizeOf3, Tryd.sizeOf3, trivial⟩ rfl) ?_
    refine O_storeAgg (cs := [_, _]) hS rfl rfl rfl rfl rfl rfl Tryd.sizeOf70 rfl (Nat.le_of_ble_eq_true rfl) (by simp [one]) (fun _ hv => trivial) ?_
    intro w hS
    dsimp only [setsL, List.set_cons_zero, List.set_cons_succ, Value.cells] at hS
    refine R_nil ?_
    refine tn ?_
    refine F_ret ?_
    rw [show h + l.tdiv 1000000000000 = h + l / 1000000000000 by have := he.2 hneg; omega, show l - l.tdiv 1000000000000 * 1000000000000 = l % 1000000000000 by have := he.2 hneg; omega] at hS
    show endF _ _ _ _ _ _
    refine end_in (vs := [.agg #[.int .i64 (h + l / 1000000000000), .int .i64 (l % 1000000000000)]]) trivial rfl (hS.to (hemp_star _).symm) ?_
    intro w hS
    refine ⟨⟨_, rfl, loadVar_agg [_, _] Tryd.isAgg70 Tryd.sizeOf70 rfl (CellsAt.rd ⟨(by repeat (first | exact .here rfl | apply CellAt.there)), (by repeat (first | exact .here rfl | apply CellAt.there)), trivial⟩ hS), trivial⟩, rfl, ?_⟩
    replace hS := (hS).drop
    exact hS
theorem vWadd {w0 w : World} {R : HProp} {T n t : Int} (hT : -3000000000000000000 ≤ T / 1000000000000 ∧ T / 1000000000000 ≤ 3000000000000000000) (hn : -1000000000000000000 ≤ n ∧ n ≤ 1000000000000000000) (ht : 0 ≤ t ∧ t ≤ 1000) (hS : Sat w0 R w) :
    Calls Tryd.prog 27 #[.agg #[.int .i64 (T / 1000000000000), .int .i64 (T % 1000000000000)], .int .i64 n, .int .i64 t] w (ret fun u w' => u = .agg #[.int .i64 ((T + n * t) / 1000000000000), .int .i64 ((T + n * t) % 1000000000000)] ∧ Sat w0 R w') := by
  have hq := tq12 n
  have h1 := mulB (a := n.tdiv 1000000000000) (b := t) (A := 1000001) (B := 1000) (by omega) ht
  have h2 := mulB (a := n.tmod 1000000000000) (b := t) (A := 1000000000000) (B := 1000) (by omega) ht
  have h3 := wadd12 T n t
  replace hS := hS.noblks
  refine enterF (args := [_, _, _]) Tryd.func27 rfl Tryd.ntmps27 rfl rfl ?_
  refine F_seq ?_
  refine F_region (p := ⟨_, [2, 2], []⟩) rfl [0, 1] rfl ?_
  refine O_boxS hS rfl rfl rfl rfl rfl (fun _ _ hv => trivial) ?_
  intro b1 w hS
  refine O_allocS hS rfl rfl rfl rfl Tryd.zeroValue70 (fun _ _ hv => trivial) ?_
  intro b2 w hS
  refine R_nil ?_
  refine tn ?_
  refine F_seq ?_
  refine F_region (p := ⟨_, [0, 0, 0, 0, 0, 0], []⟩) rfl [0, 1, 2, 3, 4, 5] rfl ?_
  refine O_move rfl rfl rfl rfl rfl ?_
  refine O_quoN rfl rfl rfl rfl rfl rfl (by first | decide | omega) (by first | omega | (dsimp only; omega)) ?_
  refine O_move rfl rfl rfl rfl rfl ?_
  refine O_rem rfl rfl rfl rfl rfl rfl (by first | decide | omega) ?_
  refine O_assign rfl rfl rfl rfl rfl ?_
  refine O_assign rfl rfl rfl rfl rfl ?_
  refine R_nil ?_
  refine tn ?_
  refine F_seq ?_
  refine F_region (p := ⟨_, [0, 1, 0, 0, 0, 0, 0, 1, 0, 0, 0, 0, 0, 2, 2], []⟩) rfl [0, 1, 2, 3, 4, 5, 6, 7, 8, 9, 10, 11, 12, 13, 14] rfl ?_
  refine O_fieldAddr rfl rfl rfl rfl rfl Tryd.runUnderlying70 rfl Tryd.sizeOf3 ?_
  refine O_loadS hS rfl rfl rfl rfl rfl Tryd.isAgg3 (by repeat (first | exact .here rfl | apply CellAt.there)) (by trivial) ?_
  refine O_move rfl rfl rfl rfl rfl ?_
  refine O_move rfl rfl rfl rfl rfl ?_
  refine O_mulN rfl rfl rfl rfl rfl rfl (by first | omega | (dsimp only; omega)) ?_
  refine O_addN rfl rfl rfl rfl rfl rfl (by first | omega | (dsimp only; omega)) ?_
  refine O_fieldAddr rfl rfl rfl rfl rfl Tryd.runUnderlying70 rfl Tryd.sizeOf3 ?_
  refine O_loadS hS rfl rfl rfl rfl rfl Tryd.isAgg3 (by repeat (first | exact .here rfl | apply CellAt.there)) (by trivial) ?_
  refine O_move rfl rfl rfl rfl rfl ?_
  refine O_move rfl rfl rfl rfl rfl ?_
  refine O_mulN rfl rfl rfl rfl rfl rfl (by first | omega | (dsimp only; omega)) ?_
  refine O_addN rfl rfl rfl rfl rfl rfl (by first | omega | (dsimp only; omega)) ?_
  refine O_build rfl rfl rfl rfl rfl (run_buildS [_, _] Tryd.zeroValue70 Tryd.runUnderlying70 (fun _ => 1) ⟨Tryd.sizeOf3, Tryd.sizeOf3, trivial⟩ rfl) ?_
  refine O_call rfl rfl rfl rfl Tryd.call49 rfl (vEven (by omega) (by omega) (hS)) (fun _ _ hv => trivial) ?_
  rintro _ w ⟨rfl, hS⟩
  rw [h3.1, h3.2]
  refine O_storeAgg (cs := [_, _]) hS rfl rfl rfl rfl rfl rfl Tryd.sizeOf70 rfl (Nat.le_of_ble_eq_true rfl) (by simp [one]) (fun _ hv => trivial) ?_
  intro w hS
  dsimp only [setsL, List.set_cons_zero, List.set_cons_succ, Value.cells] at hS
  refine R_nil ?_
  refine tn ?_
  refine F_ret ?_
  show endF _ _ _ _ _ _
  refine end_in (vs := [.agg #[.int .i64 ((T + n * t) / 1000000000000), .int .i64 ((T + n * t) % 1000000000000)]]) trivial rfl (hS.to (hemp_star _).symm) ?_
  intro w hS
  refine ⟨⟨_, rfl, loadVar_agg [_, _] Tryd.isAgg70 Tryd.sizeOf70 rfl (CellsAt.rd ⟨(by repeat (first | exact .here rfl | apply CellAt.there)), (by repeat (first | exact .here rfl | apply CellAt.there)), trivial⟩ hS), trivial⟩, rfl, ?_⟩
  replace hS := (hS).drop
  exact hS
theorem vInt {w0 w : World} {R : HProp} {T : Int} (hT : -3000000000000000000 ≤ T / 1000000000000 ∧ T / 1000000000000 ≤ 3000000000000000000) (hS : Sat w0 R w) :
    Calls Tryd.prog 29 #[.agg #[.int .i64 (T / 1000000000000), .int .i64 (T % 1000000000000)]] w (ret fun u w' => u = .tuple #[.int .i64 (clampI T), .bool (outI T)] ∧ Sat w0 R w') := by
  replace hS := hS.noblks
  refine enterF (args := [_]) Tryd.func29 rfl Tryd.ntmps29 rfl rfl ?_
  refine F_seq ?_
  refine F_region (p := ⟨_, [2, 0, 0], []⟩) rfl [0, 1, 2] rfl ?_
  refine O_boxS hS rfl rfl rfl rfl rfl (fun _ _ hv => trivial) ?_
  intro b1 w hS
  refine O_assign rfl rfl rfl rfl rfl ?_
  refine O_assign rfl rfl rfl rfl rfl ?_
  refine R_nil ?_
  refine tn ?_
  refine F_seq ?_
  refine F_block ?_
  refine F_seq ?_
  refine F_region (p := ⟨_, [0, 1, 0, 0, 0, 1, 0, 0, 0, 1, 0, 0, 0, 0], []⟩) rfl [0, 1, 2, 3, 4, 5, 6, 7, 8, 9, 10, 11, 12, 13] rfl ?_
  refine O_fieldAddr rfl rfl rfl rfl rfl Tryd.runUnderlying70 rfl Tryd.sizeOf3 ?_
  refine O_loadS hS rfl rfl rfl rfl rfl Tryd.isAgg3 (by repeat (first | exact .here rfl | apply CellAt.there)) (by trivial) ?_
  refine O_cmp rfl rfl rfl rfl rfl rfl rfl ?_
  refine O_move rfl rfl rfl rfl rfl ?_
  refine R_case (t := 8) rfl (fun ht8 => ?_) (fun ht8 => ?_)
  · try simp only [decide_eq_true_eq, decide_eq_false_iff_not, Bool.not_eq_true', Bool.not_eq_false', Bool.not_true, Bool.not_false, Option.isNone_iff_eq_none, Bool.false_eq_true, Bool.true_eq_false] at ht8
    refine R_skip rfl rfl rfl rfl ?_
    refine R_skip rfl rfl rfl rfl ?_
    refine R_skip rfl rfl rfl rfl ?_
    refine R_skip rfl rfl rfl rfl ?_
    refine R_skip rfl rfl rfl rfl ?_
    refine R_skip rfl rfl rfl rfl ?_
    refine R_skip rfl rfl rfl rfl ?_
    refine R_skip rfl rfl rfl rfl ?_
    refine O_pickT rfl rfl rfl rfl rfl rfl ?_
    refine O_assign rfl rfl rfl rfl rfl ?_
    refine R_nil ?_
    refine tn ?_
    refine F_true rfl rfl ?_
    refine F_seq ?_
    refine F_region (p := ⟨_, [0, 0], []⟩) rfl [0, 1] rfl ?_
    refine O_assign rfl rfl rfl rfl rfl ?_
    refine O_assign rfl rfl rfl rfl rfl ?_
    refine R_nil ?_
    refine tn ?_
    refine F_ret ?_
    refine br ?_
    refine tr ?_
    show endF _ _ _ _ _ _
    refine end0 trivial rfl rfl rfl hS ?_
    intro w hS
    replace hS := (hS).drop
    have hcl : clampI T = 9223372036854775807 ∧ outI T = true := by first | (exfalso; omega) | exact clampI_hi (n := T) (by omega) | (have h9 := clampI_hi (n := T) (by omega); exact ⟨by rw [h9.1]; omega, h9.2⟩)
    rw [hcl.1, hcl.2]
    exact ⟨rfl, hS⟩
  · try simp only [decide_eq_true_eq, decide_eq_false_iff_not, Bool.not_eq_true', Bool.not_eq_false', Bool.not_true, Bool.not_false, Option.isNone_iff_eq_none, Bool.false_eq_true, Bool.true_eq_false] at ht8
    refine O_fieldAddr rfl rfl rfl rfl rfl Tryd.runUnderlying70 rfl Tryd.sizeOf3 ?_
    refine O_loadS hS rfl rfl rfl rfl rfl Tryd.isAgg3 (by repeat (first | exact .here rfl | apply CellAt.there)) (by trivial) ?_
    refine O_cmp rfl rfl rfl rfl rfl rfl rfl ?_
    refine O_move rfl rfl rfl rfl rfl ?_
    refine R_case (t := 12) rfl (fun ht12 => ?_) (fun ht12 => ?_)
    · try simp only [decide_eq_true_eq, decide_eq_false_iff_not, Bool.not_eq_true', Bool.not_eq_false', Bool.not_true, Bool.not_false, Option.isNone_iff_eq_none, Bool.false_eq_true, Bool.true_eq_false] at ht12
      refine O_fieldAddr rfl rfl rfl rfl rfl Tryd.runUnderlying70 rfl Tryd.sizeOf3 ?_
      refine O_loadS hS rfl rfl rfl rfl rfl Tryd.isAgg3 (by repeat (first | exact .here rfl | apply CellAt.there)) (by trivial) ?_
      refine O_cmp rfl rfl rfl rfl rfl rfl rfl ?_
      refine O_pickT rfl rfl rfl rfl rfl rfl ?_
      refine O_pickF rfl rfl rfl rfl rfl rfl ?_
      refine O_assign rfl rfl rfl rfl rfl ?_
      refine R_nil ?_
      refine tn ?_
      refine F_cond rfl (fun ht4 => ?_) (fun ht4 => ?_)
      · try simp only [decide_eq_true_eq, decide_eq_false_iff_not, Bool.not_eq_true', Bool.not_eq_false', Bool.not_true, Bool.not_false, Option.isNone_iff_eq_none, Bool.false_eq_true, Bool.true_eq_false] at ht4
        refine F_seq ?_
        refine F_region (p := ⟨_, [0, 0], []⟩) rfl [0, 1] rfl ?_
        refine O_assign rfl rfl rfl rfl rfl ?_
        refine O_assign rfl rfl rfl rfl rfl ?_
        refine R_nil ?_
        refine tn ?_
        refine F_ret ?_
        refine br ?_
        refine tr ?_
        show endF _ _ _ _ _ _
        refine end0 trivial rfl rfl rfl hS ?_
        intro w hS
        replace hS := (hS).drop
        have hcl : clampI T = 9223372036854775807 ∧ outI T = true := by first | (exfalso; omega) | exact clampI_hi (n := T) (by omega) | (have h9 := clampI_hi (n := T) (by omega); exact ⟨by rw [h9.1]; omega, h9.2⟩)
        rw [hcl.1, hcl.2]
        exact ⟨rfl, hS⟩
      · try simp only [decide_eq_true_eq, decide_eq_false_iff_not, Bool.not_eq_true', Bool.not_eq_false', Bool.not_true, Bool.not_false, Option.isNone_iff_eq_none, Bool.false_eq_true, Bool.true_eq_false] at ht4
        refine F_seq ?_
        refine F_region (p := ⟨_, [0, 1, 0, 0, 0, 1, 0, 0, 0, 1, 0, 0, 0, 0], []⟩) rfl [0, 1, 2, 3, 4, 5, 6, 7, 8, 9, 10, 11, 12, 13] rfl ?_
        refine O_fieldAddr rfl rfl rfl rfl rfl Tryd.runUnderlying70 rfl Tryd.sizeOf3 ?_
        refine O_loadS hS rfl rfl rfl rfl rfl Tryd.isAgg3 (by repeat (first | exact .here rfl | apply CellAt.there)) (by trivial) ?_
        refine O_cmp rfl rfl rfl rfl rfl rfl rfl ?_
        refine O_move rfl rfl rfl rfl rfl ?_
        refine R_case (t := 22) rfl (fun ht22 => ?_) (fun ht22 => ?_)
        · try simp only [decide_eq_true_eq, decide_eq_false_iff_not, Bool.not_eq_true', Bool.not_eq_false', Bool.not_true, Bool.not_false, Option.isNone_iff_eq_none, Bool.false_eq_true, Bool.true_eq_false] at ht22
          refine R_skip rfl rfl rfl rfl ?_
          refine R_skip rfl rfl rfl rfl ?_
          refine R_skip rfl rfl rfl rfl ?_
          refine R_skip rfl rfl rfl rfl ?_
          refine R_skip rfl rfl rfl rfl ?_
          refine R_skip rfl rfl rfl rfl ?_
          refine R_skip rfl rfl rfl rfl ?_
          refine R_skip rfl rfl rfl rfl ?_
          refine O_pickT rfl rfl rfl rfl rfl rfl ?_
          refine O_assign rfl rfl rfl rfl rfl ?_
          refine R_nil ?_
          refine tn ?_
          refine F_true rfl rfl ?_
          refine F_seq ?_
          refine F_region (p := ⟨_, [0, 0], []⟩) rfl [0, 1] rfl ?_
          refine O_assign rfl rfl rfl rfl rfl ?_
          refine O_assign rfl rfl rfl rfl rfl ?_
          refine R_nil ?_
          refine tn ?_
          refine F_ret ?_
          refine br ?_
          refine tr ?_
          show endF _ _ _ _ _ _
          refine end0 trivial rfl rfl rfl hS ?_
          intro w hS
          replace hS := (hS).drop
          have hcl : clampI T = -9223372036854775808 ∧ outI T = true := by first | (exfalso; omega) | exact clampI_lo (n := T) (by omega) | (have h9 := clampI_lo (n := T) (by omega); exact ⟨by rw [h9.1]; omega, h9.2⟩)
          rw [hcl.1, hcl.2]
          exact ⟨rfl, hS⟩
        · try simp only [decide_eq_true_eq, decide_eq_false_iff_not, Bool.not_eq_true', Bool.not_eq_false', Bool.not_true, Bool.not_false, Option.isNone_iff_eq_none, Bool.false_eq_true, Bool.true_eq_false] at ht22
          refine O_fieldAddr rfl rfl rfl rfl rfl Tryd.runUnderlying70 rfl Tryd.sizeOf3 ?_
          refine O_loadS hS rfl rfl rfl rfl rfl Tryd.isAgg3 (by repeat (first | exact .here rfl | apply CellAt.there)) (by trivial) ?_
          refine O_cmp rfl rfl rfl rfl rfl rfl rfl ?_
          refine O_move rfl rfl rfl rfl rfl ?_
          refine R_case (t := 26) rfl (fun ht26 => ?_) (fun ht26 => ?_)
          · try simp only [decide_eq_true_eq, decide_eq_false_iff_not, Bool.not_eq_true', Bool.not_eq_false', Bool.not_true, Bool.not_false, Option.isNone_iff_eq_none, Bool.false_eq_true, Bool.true_eq_false] at ht26
            refine O_fieldAddr rfl rfl rfl rfl rfl Tryd.runUnderlying70 rfl Tryd.sizeOf3 ?_
            refine O_loadS hS rfl rfl rfl rfl rfl Tryd.isAgg3 (by repeat (first | exact .here rfl | apply CellAt.there)) (by trivial) ?_
            refine O_cmp rfl rfl rfl rfl rfl rfl rfl ?_
            refine O_pickT rfl rfl rfl rfl rfl rfl ?_
            refine O_pickF rfl rfl rfl rfl rfl rfl ?_
            refine O_assign rfl rfl rfl rfl rfl ?_
            refine R_nil ?_
            refine tn ?_
            refine F_cond rfl (fun ht18 => ?_) (fun ht18 => ?_)
            · try simp only [decide_eq_true_eq, decide_eq_false_iff_not, Bool.not_eq_true', Bool.not_eq_false', Bool.not_true, Bool.not_false, Option.isNone_iff_eq_none, Bool.false_eq_true, Bool.true_eq_false] at ht18
              refine F_seq ?_
              refine F_region (p := ⟨_, [0, 0], []⟩) rfl [0, 1] rfl ?_
              refine O_assign rfl rfl rfl rfl rfl ?_
              refine O_assign rfl rfl rfl rfl rfl ?_
              refine R_nil ?_
              refine tn ?_
              refine F_ret ?_
              refine br ?_
              refine tr ?_
              show endF _ _ _ _ _ _
              refine end0 trivial rfl rfl rfl hS ?_
              intro w hS
              replace hS := (hS).drop
              have hcl : clampI T = -9223372036854775808 ∧ outI T = true := by first | (exfalso; omega) | exact clampI_lo (n := T) (by omega) | (have h9 := clampI_lo (n := T) (by omega); exact ⟨by rw [h9.1]; omega, h9.2⟩)
              rw [hcl.1, hcl.2]
              exact ⟨rfl, hS⟩
            · try simp only [decide_eq_true_eq, decide_eq_false_iff_not, Bool.not_eq_true', Bool.not_eq_false', Bool.not_true, Bool.not_false, Option.isNone_iff_eq_none, Bool.false_eq_true, Bool.true_eq_false] at ht18
              refine F_seq ?_
              refine F_region (p := ⟨_, [0, 1, 0, 0], []⟩) rfl [0, 1, 2, 3] rfl ?_
              refine O_fieldAddr rfl rfl rfl rfl rfl Tryd.runUnderlying70 rfl Tryd.sizeOf3 ?_
              refine O_loadS hS rfl rfl rfl rfl rfl Tryd.isAgg3 (by repeat (first | exact .here rfl | apply CellAt.there)) (by trivial) ?_
              refine O_cmp rfl rfl rfl rfl rfl rfl rfl ?_
              refine O_assign rfl rfl rfl rfl rfl ?_
              refine R_nil ?_
              refine tn ?_
              refine F_cond rfl (fun ht32 => ?_) (fun ht32 => ?_)
              · try simp only [decide_eq_true_eq, decide_eq_false_iff_not, Bool.not_eq_true', Bool.not_eq_false', Bool.not_true, Bool.not_false, Option.isNone_iff_eq_none, Bool.false_eq_true, Bool.true_eq_false] at ht32
                refine F_seq ?_
                refine F_region (p := ⟨_, [0, 1, 0, 0, 0, 1, 0, 0, 0, 0], []⟩) rfl [0, 1, 2, 3, 4, 5, 6, 7, 8, 9] rfl ?_
                refine O_fieldAddr rfl rfl rfl rfl rfl Tryd.runUnderlying70 rfl Tryd.sizeOf3 ?_
                refine O_loadS hS rfl rfl rfl rfl rfl Tryd.isAgg3 (by repeat (first | exact .here rfl | apply CellAt.there)) (by trivial) ?_
                refine O_addN rfl rfl rfl rfl rfl rfl (by first | omega | (dsimp only; omega)) ?_
                refine O_mulN rfl rfl rfl rfl rfl rfl (by first | omega | (dsimp only; omega)) ?_
                refine O_fieldAddr rfl rfl rfl rfl rfl Tryd.runUnderlying70 rfl Tryd.sizeOf3 ?_
                refine O_loadS hS rfl rfl rfl rfl rfl Tryd.isAgg3 (by repeat (first | exact .here rfl | apply CellAt.there)) (by trivial) ?_
                refine O_subN rfl rfl rfl rfl rfl rfl (by first | omega | (dsimp only; omega)) ?_
                refine O_addN rfl rfl rfl rfl rfl rfl (by first | omega | (dsimp only; omega)) ?_
                refine O_assign rfl rfl rfl rfl rfl ?_
                refine O_assign rfl rfl rfl rfl rfl ?_
                refine R_nil ?_
                refine tn ?_
                refine F_ret ?_
                refine br ?_
                refine tr ?_
                show endF _ _ _ _ _ _
                refine end0 trivial rfl rfl rfl hS ?_
                intro w hS
                replace hS := (hS).drop
                have hcl : clampI T = ((T / 1000000000000 + 1) * 1000000000000 + (T % 1000000000000 - 1000000000000)) ∧ outI T = false := by first | (exfalso; omega) | exact clampI_in (n := T) (by omega) | (have h9 := clampI_in (n := T) (by omega); exact ⟨by rw [h9.1]; omega, h9.2⟩)
                rw [hcl.1, hcl.2]
                exact ⟨rfl, hS⟩
              · try simp only [decide_eq_true_eq, decide_eq_false_iff_not, Bool.not_eq_true', Bool.not_eq_false', Bool.not_true, Bool.not_false, Option.isNone_iff_eq_none, Bool.false_eq_true, Bool.true_eq_false] at ht32
                refine F_skip ?_
                refine bn ?_
                refine tn ?_
                refine F_seq ?_
                refine F_region (p := ⟨_, [0, 1, 0, 0, 1, 0, 0, 0], []⟩) rfl [0, 1, 2, 3, 4, 5, 6, 7] rfl ?_
                refine O_fieldAddr rfl rfl rfl rfl rfl Tryd.runUnderlying70 rfl Tryd.sizeOf3 ?_
                refine O_loadS hS rfl rfl rfl rfl rfl Tryd.isAgg3 (by repeat (first | exact .here rfl | apply CellAt.there)) (by trivial) ?_
                refine O_mulN rfl rfl rfl rfl rfl rfl (by first | omega | (dsimp only; omega)) ?_
                refine O_fieldAddr rfl rfl rfl rfl rfl Tryd.runUnderlying70 rfl Tryd.sizeOf3 ?_
                refine O_loadS hS rfl rfl rfl rfl rfl Tryd.isAgg3 (by repeat (first | exact .here rfl | apply CellAt.there)) (by trivial) ?_
                refine O_addN rfl rfl rfl rfl rfl rfl (by first | omega | (dsimp only; omega)) ?_
                refine O_assign rfl rfl rfl rfl rfl ?_
                refine O_assign rfl rfl rfl rfl rfl ?_
                refine R_nil ?_
                refine tn ?_
                refine F_ret ?_
                show endF _ _ _ _ _ _
                refine end0 trivial rfl rfl rfl hS ?_
                intro w hS
                replace hS := (hS).drop
                have hcl : clampI T = (T / 1000000000000 * 1000000000000 + T % 1000000000000) ∧ outI T = false := by first | (exfalso; omega) | exact clampI_in (n := T) (by omega) | (have h9 := clampI_in (n := T) (by omega); exact ⟨by rw [h9.1]; omega, h9.2⟩)
                rw [hcl.1, hcl.2]
                exact ⟨rfl, hS⟩
          · try simp only [decide_eq_true_eq, decide_eq_false_iff_not, Bool.not_eq_true', Bool.not_eq_false', Bool.not_true, Bool.not_false, Option.isNone_iff_eq_none, Bool.false_eq_true, Bool.true_eq_false] at ht26
            refine R_skip rfl rfl rfl rfl ?_
            refine R_skip rfl rfl rfl rfl ?_
            refine R_skip rfl rfl rfl rfl ?_
            refine O_pickF rfl rfl rfl rfl rfl rfl ?_
            refine O_pickF rfl rfl rfl rfl rfl rfl ?_
            refine O_assign rfl rfl rfl rfl rfl ?_
            refine R_nil ?_
            refine tn ?_
            refine F_false rfl rfl ?_
            refine F_seq ?_
            refine F_region (p := ⟨_, [0, 1, 0, 0], []⟩) rfl [0, 1, 2, 3] rfl ?_
            refine O_fieldAddr rfl rfl rfl rfl rfl Tryd.runUnderlying70 rfl Tryd.sizeOf3 ?_
            refine O_loadS hS rfl rfl rfl rfl rfl Tryd.isAgg3 (by repeat (first | exact .here rfl | apply CellAt.there)) (by trivial) ?_
            refine O_cmp rfl rfl rfl rfl rfl rfl rfl ?_
            refine O_assign rfl rfl rfl rfl rfl ?_
            refine R_nil ?_
            refine tn ?_
            refine F_cond rfl (fun ht32 => ?_) (fun ht32 => ?_)
            · try simp only [decide_eq_true_eq, decide_eq_false_iff_not, Bool.not_eq_true', Bool.not_eq_false', Bool.not_true, Bool.not_false, Option.isNone_iff_eq_none, Bool.false_eq_true, Bool.true_eq_false] at ht32
              refine F_seq ?_
              refine F_region (p := ⟨_, [0, 1, 0, 0, 0, 1, 0, 0, 0, 0], []⟩) rfl [0, 1, 2, 3, 4, 5, 6, 7, 8, 9] rfl ?_
              refine O_fieldAddr rfl rfl rfl rfl rfl Tryd.runUnderlying70 rfl Tryd.sizeOf3 ?_
              refine O_loadS hS rfl rfl rfl rfl rfl Tryd.isAgg3 (by repeat (first | exact .here rfl | apply CellAt.there)) (by trivial) ?_
              refine O_addN rfl rfl rfl rfl rfl rfl (by first | omega | (dsimp only; omega)) ?_
              refine O_mulN rfl rfl rfl rfl rfl rfl (by first | omega | (dsimp only; omega)) ?_
              refine O_fieldAddr rfl rfl rfl rfl rfl Tryd.runUnderlying70 rfl Tryd.sizeOf3 ?_
              refine O_loadS hS rfl rfl rfl rfl rfl Tryd.isAgg3 (by repeat (first | exact .here rfl | apply CellAt.there)) (by trivial) ?_
              refine O_subN rfl rfl rfl rfl rfl rfl (by first | omega | (dsimp only; omega)) ?_
              refine O_addN rfl rfl rfl rfl rfl rfl (by first | omega | (dsimp only; omega)) ?_
              refine O_assign rfl rfl rfl rfl rfl ?_
              refine O_assign rfl rfl rfl rfl rfl ?_
              refine R_nil ?_
              refine tn ?_
              refine F_ret ?_
              refine br ?_
              refine tr ?_
              show endF _ _ _ _ _ _
              refine end0 trivial rfl rfl rfl hS ?_
              intro w hS
              replace hS := (hS).drop
              have hcl : clampI T = ((T / 1000000000000 + 1) * 1000000000000 + (T % 1000000000000 - 1000000000000)) ∧ outI T = false := by first | (exfalso; omega) | exact clampI_in (n := T) (by omega) | (have h9 := clampI_in (n := T) (by omega); exact ⟨by rw [h9.1]; omega, h9.2⟩)
              rw [hcl.1, hcl.2]
              exact ⟨rfl, hS⟩
            · try simp only [decide_eq_true_eq, decide_eq_false_iff_not, Bool.not_eq_true', Bool.not_eq_false', Bool.not_true, Bool.not_false, Option.isNone_iff_eq_none, Bool.false_eq_true, Bool.true_eq_false] at ht32
              refine F_skip ?_
              refine bn ?_
              refine tn ?_
              refine F_seq ?_
              refine F_region (p := ⟨_, [0, 1, 0, 0, 1, 0, 0, 0], []⟩) rfl [0, 1, 2, 3, 4, 5, 6, 7] rfl ?_
              refine O_fieldAddr rfl rfl rfl rfl rfl Tryd.runUnderlying70 rfl Tryd.sizeOf3 ?_
              refine O_loadS hS rfl rfl rfl rfl rfl Tryd.isAgg3 (by repeat (first | exact .here rfl | apply CellAt.there)) (by trivial) ?_
              refine O_mulN rfl rfl rfl rfl rfl rfl (by first | omega | (dsimp only; omega)) ?_
              refine O_fieldAddr rfl rfl rfl rfl rfl Tryd.runUnderlying70 rfl Tryd.sizeOf3 ?_
              refine O_loadS hS rfl rfl rfl rfl rfl Tryd.isAgg3 (by repeat (first | exact .here rfl | apply CellAt.there)) (by trivial) ?_
              refine O_addN rfl rfl rfl rfl rfl rfl (by first | omega | (dsimp only; omega)) ?_
              refine O_assign rfl rfl rfl rfl rfl ?_
              refine O_assign rfl rfl rfl rfl rfl ?_
              refine R_nil ?_
              refine tn ?_
              refine F_ret ?_
              show endF _ _ _ _ _ _
              refine end0 trivial rfl rfl rfl hS ?_
              intro w hS
              replace hS := (hS).drop
              have hcl : clampI T = (T / 1000000000000 * 1000000000000 + T % 1000000000000) ∧ outI T = false := by first | (exfalso; omega) | exact clampI_in (n := T) (by omega) | (have h9 := clampI_in (n := T) (by omega); exact ⟨by rw [h9.1]; omega, h9.2⟩)
              rw [hcl.1, hcl.2]
              exact ⟨rfl, hS⟩
    · try simp only [decide_eq_true_eq, decide_eq_false_iff_not, Bool.not_eq_true', Bool.not_eq_false', Bool.not_true, Bool.not_false, Option.isNone_iff_eq_none, Bool.false_eq_true, Bool.true_eq_false] at ht12
      refine R_skip rfl rfl rfl rfl ?_
      refine R_skip rfl rfl rfl rfl ?_
      refine R_skip rfl rfl rfl rfl ?_
      refine O_pickF rfl rfl rfl rfl rfl rfl ?_
      refine O_pickF rfl rfl rfl rfl rfl rfl ?_
      refine O_assign rfl rfl rfl rfl rfl ?_
      refine R_nil ?_
      refine tn ?_
      refine F_false rfl rfl ?_
      refine F_seq ?_
      refine F_region (p := ⟨_, [0, 1, 0, 0, 0, 1, 0, 0, 0, 1, 0, 0, 0, 0], []⟩) rfl [0, 1, 2, 3, 4, 5, 6, 7, 8, 9, 10, 11, 12, 13] rfl ?_
      refine O_fieldAddr rfl rfl rfl rfl rfl Tryd.runUnderlying70 rfl Tryd.sizeOf3 ?_
      refine O_loadS hS rfl rfl rfl rfl rfl Tryd.isAgg3 (by repeat (first | exact .here rfl | apply CellAt.there)) (by trivial) ?_
      refine O_cmp rfl rfl rfl rfl rfl rfl rfl ?_
      refine O_move rfl rfl rfl rfl rfl ?_
      refine R_case (t := 22) rfl (fun ht22 => ?_) (fun ht22 => ?_)
      · try simp only [decide_eq_true_eq, decide_eq_false_iff_not, Bool.not_eq_true', Bool.not_eq_false', Bool.not_true, Bool.not_false, Option.isNone_iff_eq_none, Bool.false_eq_true, Bool.true_eq_false] at ht22
        refine R_skip rfl rfl rfl rfl ?_
        refine R_skip rfl rfl rfl rfl ?_
        refine R_skip rfl rfl rfl rfl ?_
        refine R_skip rfl rfl rfl rfl ?_
        refine R_skip rfl rfl rfl rfl ?_
        refine R_skip rfl rfl rfl rfl ?_
        refine R_skip rfl rfl rfl rfl ?_
        refine R_skip rfl rfl rfl rfl ?_
        refine O_pickT rfl rfl rfl rfl rfl rfl ?_
        refine O_assign rfl rfl rfl rfl rfl ?_
        refine R_nil ?_
        refine tn ?_
        refine F_true rfl rfl ?_
        refine F_seq ?_
        refine F_region (p := ⟨_, [0, 0], []⟩) rfl [0, 1] rfl ?_
        refine O_assign rfl rfl rfl rfl rfl ?_
        refine O_assign rfl rfl rfl rfl rfl ?_
        refine R_nil ?_
        refine tn ?_
        refine F_ret ?_
        refine br ?_
        refine tr ?_
        show endF _ _ _ _ _ _
        refine end0 trivial rfl rfl rfl hS ?_
        intro w hS
        replace hS := (hS).drop
        have hcl : clampI T = -9223372036854775808 ∧ outI T = true := by first | (exfalso; omega) | exact clampI_lo (n := T) (by omega) | (have h9 := clampI_lo (n := T) (by omega); exact ⟨by rw [h9.1]; omega, h9.2⟩)
        rw [hcl.1, hcl.2]
        exact ⟨rfl, hS⟩
      · try simp only [decide_eq_true_eq, decide_eq_false_iff_not, Bool.not_eq_true', Bool.not_eq_false', Bool.not_true, Bool.not_false, Option.isNone_iff_eq_none, Bool.false_eq_true, Bool.true_eq_false] at ht22
        refine O_fieldAddr rfl rfl rfl rfl rfl Tryd.runUnderlying70 rfl Tryd.sizeOf3 ?_
        refine O_loadS hS rfl rfl rfl rfl rfl Tryd.isAgg3 (by repeat (first | exact .here rfl | apply CellAt.there)) (by trivial) ?_
        refine O_cmp rfl rfl rfl rfl rfl rfl rfl ?_
        refine O_move rfl rfl rfl rfl rfl ?_
        refine R_case (t := 26) rfl (fun ht26 => ?_) (fun ht26 => ?_)
        · try simp only [decide_eq_true_eq, decide_eq_false_iff_not, Bool.not_eq_true', Bool.not_eq_false', Bool.not_true, Bool.not_false, Option.isNone_iff_eq_none, Bool.false_eq_true, Bool.true_eq_false] at ht26
          refine O_fieldAddr rfl rfl rfl rfl rfl Tryd.runUnderlying70 rfl Tryd.sizeOf3 ?_
          refine O_loadS hS rfl rfl rfl rfl rfl Tryd.isAgg3 (by repeat (first | exact .here rfl | apply CellAt.there)) (by trivial) ?_
          refine O_cmp rfl rfl rfl rfl rfl rfl rfl ?_
          refine O_pickT rfl rfl rfl rfl rfl rfl ?_
          refine O_pickF rfl rfl rfl rfl rfl rfl ?_
          refine O_assign rfl rfl rfl rfl rfl ?_
          refine R_nil ?_
          refine tn ?_
          refine F_cond rfl (fun ht18 => ?_) (fun ht18 => ?_)
          · try simp only [decide_eq_true_eq, decide_eq_false_iff_not, Bool.not_eq_true', Bool.not_eq_false', Bool.not_true, Bool.not_false, Option.isNone_iff_eq_none, Bool.false_eq_true, Bool.true_eq_false] at ht18
            refine F_seq ?_
            refine F_region (p := ⟨_, [0, 0], []⟩) rfl [0, 1] rfl ?_
            refine O_assign rfl rfl rfl rfl rfl ?_
            refine O_assign rfl rfl rfl rfl rfl ?_
            refine R_nil ?_
            refine tn ?_
            refine F_ret ?_
            refine br ?_
            refine tr ?_
            show endF _ _ _ _ _ _
            refine end0 trivial rfl rfl rfl hS ?_
            intro w hS
            replace hS := (hS).drop
            have hcl : clampI T = -9223372036854775808 ∧ outI T = true := by first | (exfalso; omega) | exact clampI_lo (n := T) (by omega) | (have h9 := clampI_lo (n := T) (by omega); exact ⟨by rw [h9.1]; omega, h9.2⟩)
            rw [hcl.1, hcl.2]
            exact ⟨rfl, hS⟩
          · try simp only [decide_eq_true_eq, decide_eq_false_iff_not, Bool.not_eq_true', Bool.not_eq_false', Bool.not_true, Bool.not_false, Option.isNone_iff_eq_none, Bool.false_eq_true, Bool.true_eq_false] at ht18
            refine F_seq ?_
            refine F_region (p := ⟨_, [0, 1, 0, 0], []⟩) rfl [0, 1, 2, 3] rfl ?_
            refine O_fieldAddr rfl rfl rfl rfl rfl Tryd.runUnderlying70 rfl Tryd.sizeOf3 ?_
            refine O_loadS hS rfl rfl rfl rfl rfl Tryd.isAgg3 (by repeat (first | exact .here rfl | apply CellAt.there)) (by trivial) ?_
            refine O_cmp rfl rfl rfl rfl rfl rfl rfl ?_
            refine O_assign rfl rfl rfl rfl rfl ?_
            refine R_nil ?_
            refine tn ?_
            refine F_cond rfl (fun ht32 => ?_) (fun ht32 => ?_)
            · try simp only [decide_eq_true_eq, decide_eq_false_iff_not, Bool.not_eq_true', Bool.not_eq_false', Bool.not_true, Bool.not_false, Option.isNone_iff_eq_none, Bool.false_eq_true, Bool.true_eq_false] at ht32
              refine F_seq ?_
              refine F_region (p := ⟨_, [0, 1, 0, 0, 0, 1, 0, 0, 0, 0], []⟩) rfl [0, 1, 2, 3, 4, 5, 6, 7, 8, 9] rfl ?_
              refine O_fieldAddr rfl rfl rfl rfl rfl Tryd.runUnderlying70 rfl Tryd.sizeOf3 ?_
              refine O_loadS hS rfl rfl rfl rfl rfl Tryd.isAgg3 (by repeat (first | exact .here rfl | apply CellAt.there)) (by trivial) ?_
              refine O_addN rfl rfl rfl rfl rfl rfl (by first | omega | (dsimp only; omega)) ?_
              refine O_mulN rfl rfl rfl rfl rfl rfl (by first | omega | (dsimp only; omega)) ?_
              refine O_fieldAddr rfl rfl rfl rfl rfl Tryd.runUnderlying70 rfl Tryd.sizeOf3 ?_
              refine O_loadS hS rfl rfl rfl rfl rfl Tryd.isAgg3 (by repeat (first | exact .here rfl | apply CellAt.there)) (by trivial) ?_
              refine O_subN rfl rfl rfl rfl rfl rfl (by first | omega | (dsimp only; omega)) ?_
              refine O_addN rfl rfl rfl rfl rfl rfl (by first | omega | (dsimp only; omega)) ?_
              refine O_assign rfl rfl rfl rfl rfl ?_
              refine O_assign rfl rfl rfl rfl rfl ?_
              refine R_nil ?_
              refine tn ?_
              refine F_ret ?_
              refine br ?_
              refine tr ?_
              show endF _ _ _ _ _ _
              refine end0 trivial rfl rfl rfl hS ?_
              intro w hS
              replace hS := (hS).drop
              have hcl : clampI T = ((T / 1000000000000 + 1) * 1000000000000 + (T % 1000000000000 - 1000000000000)) ∧ outI T = false := by first | (exfalso; omega) | exact clampI_in (n := T) (by omega) | (have h9 := clampI_in (n := T) (by omega); exact ⟨by rw [h9.1]; omega, h9.2⟩)
              rw [hcl.1, hcl.2]
              exact ⟨rfl, hS⟩
            · try simp only [decide_eq_true_eq, decide_eq_false_iff_not, Bool.not_eq_true', Bool.not_eq_false', Bool.not_true, Bool.not_false, Option.isNone_iff_eq_none, Bool.false_eq_true, Bool.true_eq_false] at ht32
              refine F_skip ?_
              refine bn ?_
              refine tn ?_
              refine F_seq ?_
              refine F_region (p := ⟨_, [0, 1, 0, 0, 1, 0, 0, 0], []⟩) rfl [0, 1, 2, 3, 4, 5, 6, 7] rfl ?_
              refine O_fieldAddr rfl rfl rfl rfl rfl Tryd.runUnderlying70 rfl Tryd.sizeOf3 ?_
              refine O_loadS hS rfl rfl rfl rfl rfl Tryd.isAgg3 (by repeat (first | exact .here rfl | apply CellAt.there)) (by trivial) ?_
              refine O_mulN rfl rfl rfl rfl rfl rfl (by first | omega | (dsimp only; omega)) ?_
              refine O_fieldAddr rfl rfl rfl rfl rfl Tryd.runUnderlying70 rfl Tryd.sizeOf3 ?_
              refine O_loadS hS rfl rfl rfl rfl rfl Tryd.isAgg3 (by repeat (first | exact .here rfl | apply CellAt.there)) (by trivial) ?_
              refine O_addN rfl rfl rfl rfl rfl rfl (by first | omega | (dsimp only; omega)) ?_
              refine O_assign rfl rfl rfl rfl rfl ?_
              refine O_assign rfl rfl rfl rfl rfl ?_
              refine R_nil ?_
              refine tn ?_
              refine F_ret ?_
              show endF _ _ _ _ _ _
              refine end0 trivial rfl rfl rfl hS ?_
              intro w hS
              replace hS := (hS).drop
              have hcl : clampI T = (T / 1000000000000 * 1000000000000 + T % 1000000000000) ∧ outI T = false := by first | (exfalso; omega) | exact clampI_in (n := T) (by omega) | (have h9 := clampI_in (n := T) (by omega); exact ⟨by rw [h9.1]; omega, h9.2⟩)
              rw [hcl.1, hcl.2]
              exact ⟨rfl, hS⟩
        · try simp only [decide_eq_true_eq, decide_eq_false_iff_not, Bool.not_eq_true', Bool.not_eq_false', Bool.not_true, Bool.not_false, Option.isNone_iff_eq_none, Bool.false_eq_true, Bool.true_eq_false] at ht26
          refine R_skip rfl rfl rfl rfl ?_
          refine R_skip rfl rfl rfl rfl ?_
          refine R_skip rfl rfl rfl rfl ?_
          refine O_pickF rfl rfl rfl rfl rfl rfl ?_
          refine O_pickF rfl rfl rfl rfl rfl rfl ?_
          refine O_assign rfl rfl rfl rfl rfl ?_
          refine R_nil ?_
          refine tn ?_
          refine F_false rfl rfl ?_
          refine F_seq ?_
          refine F_region (p := ⟨_, [0, 1, 0, 0], []⟩) rfl [0, 1, 2, 3] rfl ?_
          refine O_fieldAddr rfl rfl rfl rfl rfl Tryd.runUnderlying70 rfl Tryd.sizeOf3 ?_
          refine O_loadS hS rfl rfl rfl rfl rfl Tryd.isAgg3 (by repeat (first | exact .here rfl | apply CellAt.there)) (by trivial) ?_
          refine O_cmp rfl rfl rfl rfl rfl rfl rfl ?_
          refine O_assign rfl rfl rfl rfl rfl ?_
          refine R_nil ?_
          refine tn ?_
          refine F_cond rfl (fun ht32 => ?_) (fun ht32 => ?_)
          · try simp only [decide_eq_true_eq, decide_eq_false_iff_not, Bool.not_eq_true', Bool.not_eq_false', Bool.not_true, Bool.not_false, Option.isNone_iff_eq_none, Bool.false_eq_true, Bool.true_eq_false] at ht32
            refine F_seq ?_
            refine F_region (p := ⟨_, [0, 1, 0, 0, 0, 1, 0, 0, 0, 0], []⟩) rfl [0, 1, 2, 3, 4, 5, 6, 7, 8, 9] rfl ?_
            refine O_fieldAddr rfl rfl rfl rfl rfl Tryd.runUnderlying70 rfl Tryd.sizeOf3 ?_
            refine O_loadS hS rfl rfl rfl rfl rfl Tryd.isAgg3 (by repeat (first | exact .here rfl | apply CellAt.there)) (by trivial) ?_
            refine O_addN rfl rfl rfl rfl rfl rfl (by first | omega | (dsimp only; omega)) ?_
            refine O_mulN rfl rfl rfl rfl rfl rfl (by first | omega | (dsimp only; omega)) ?_
            refine O_fieldAddr rfl rfl rfl rfl rfl Tryd.runUnderlying70 rfl Tryd.sizeOf3 ?_
            refine O_loadS hS rfl rfl rfl rfl rfl Tryd.isAgg3 (by repeat (first | exact .here rfl | apply CellAt.there)) (by trivial) ?_
            refine O_subN rfl rfl rfl rfl rfl rfl (by first | omega | (dsimp only; omega)) ?_
            refine O_addN rfl rfl rfl rfl rfl rfl (by first | omega | (dsimp only; omega)) ?_
            refine O_assign rfl rfl rfl rfl rfl ?_
            refine O_assign rfl rfl rfl rfl rfl ?_
            refine R_nil ?_
            refine tn ?_
            refine F_ret ?_
            refine br ?_
            refine tr ?_
            show endF _ _ _ _ _ _
            refine end0 trivial rfl rfl rfl hS ?_
            intro w hS
            replace hS := (hS).drop
            have hcl : clampI T = ((T / 1000000000000 + 1) * 1000000000000 + (T % 1000000000000 - 1000000000000)) ∧ outI T = false := by first | (exfalso; omega) | exact clampI_in (n := T) (by omega) | (have h9 := clampI_in (n := T) (by omega); exact ⟨by rw [h9.1]; omega, h9.2⟩)
            rw [hcl.1, hcl.2]
            exact ⟨rfl, hS⟩
          · try simp only [decide_eq_true_eq, decide_eq_false_iff_not, Bool.not_eq_true', Bool.not_eq_false', Bool.not_true, Bool.not_false, Option.isNone_iff_eq_none, Bool.false_eq_true, Bool.true_eq_false] at ht32
            refine F_skip ?_
            refine bn ?_
            refine tn ?_
            refine F_seq ?_
            refine F_region (p := ⟨_, [0, 1, 0, 0, 1, 0, 0, 0], []⟩) rfl [0, 1, 2, 3, 4, 5, 6, 7] rfl ?_
            refine O_fieldAddr rfl rfl rfl rfl rfl Tryd.runUnderlying70 rfl Tryd.sizeOf3 ?_
            refine O_loadS hS rfl rfl rfl rfl rfl Tryd.isAgg3 (by repeat (first | exact .here rfl | apply CellAt.there)) (by trivial) ?_
            refine O_mulN rfl rfl rfl rfl rfl rfl (by first | omega | (dsimp only; omega)) ?_
            refine O_fieldAddr rfl rfl rfl rfl rfl Tryd.runUnderlying70 rfl Tryd.sizeOf3 ?_
            refine O_loadS hS rfl rfl rfl rfl rfl Tryd.isAgg3 (by repeat (first | exact .here rfl | apply CellAt.there)) (by trivial) ?_
            refine O_addN rfl rfl rfl rfl rfl rfl (by first | omega | (dsimp only; omega)) ?_
            refine O_assign rfl rfl rfl rfl rfl ?_
            refine O_assign rfl rfl rfl rfl rfl ?_
            refine R_nil ?_
            refine tn ?_
            refine F_ret ?_
            show endF _ _ _ _ _ _
            refine end0 trivial rfl rfl rfl hS ?_
            intro w hS
            replace hS := (hS).drop
            have hcl : clampI T = (T / 1000000000000 * 1000000000000 + T % 1000000000000) ∧ outI T = false := by first | (exfalso; omega) | exact clampI_in (n := T) (by omega) | (have h9 := clampI_in (n := T) (by omega); exact ⟨by rw [h9.1]; omega, h9.2⟩)
            rw [hcl.1, hcl.2]
            exact ⟨rfl, hS⟩
end Go.Proofs.YtpnigaoibhogfaaDoor
