/- YtpnigaoibhogfaaDoorV8: a part of the proof: walks over the translated code, and plain facts on lists beside. -/
import Derived.Test.YtpnigaoibhogfaaDoorV7
set_option linter.all false
namespace Go.Proofs.YtpnigaoibhogfaaDoor
open Go Go.RowKit Go.Sl
set_option linter.unusedVariables false
abbrev VV (m s : Int) : VatS := ⟨1, m, s, 0, 0, 0, ⟨#[]⟩, [], []⟩
set_option maxHeartbeats 2000000 in
theorem vatWhole_walk {w0 w : World} {R A : HProp} {a1 a2 : Option Addr} {c1 c2 : Nat} {vals rates : List Int} (h1 : Rds A a1 (vals.map fun n => .int .i64 n)) (h2 : Rds A a2 (rates.map fun n => .int .u8 n)) (hr : ∀ x ∈ rates, 0 ≤ x ∧ x ≤ 255) (hb1 : vals.length ≤ 9223372036854775807) (hb2 : rates.length ≤ 9223372036854775807) (hS : Sat w0 (A * R) w) :
    Calls Tryd.prog 6 #[.slice a1 vals.length c1, .slice a2 rates.length c2] w (ret fun u w' => u = .bool true ∧ Sat w0 (A * R) w') := by
  replace hS := hS.noblks
  refine enterF (args := [_, _]) Tryd.func6 rfl Tryd.ntmps6 rfl rfl ?_
  refine F_seq ?_
  refine F_region (p := ⟨_, [0], []⟩) rfl [0] rfl ?_
  refine O_assign rfl rfl rfl rfl rfl ?_
  refine R_nil ?_
  refine tn ?_
  refine F_seq ?_
  refine F_seq ?_
  refine F_region (p := ⟨_, [2, 0, 0, 0, 0, 0, 0, 0, 0, 0, 0, 0], []⟩) rfl [0, 1, 2, 3, 4, 5, 6, 7, 8, 9, 10, 11] rfl ?_
  refine O_call rfl rfl rfl rfl Tryd.call8 rfl (vAwake (hS)) (fun _ _ hv => trivial) ?_
  rintro _ w ⟨rfl, hS⟩
  refine O_not rfl rfl rfl rfl rfl ?_
  refine O_move rfl rfl rfl rfl rfl ?_
  refine O_move rfl rfl rfl rfl rfl ?_
  refine O_lenSl rfl rfl rfl rfl rfl Tryd.runUnderlying43 ?_
  refine O_cmp rfl rfl rfl rfl rfl rfl rfl ?_
  refine O_pickF rfl rfl rfl rfl rfl rfl ?_
  refine O_move rfl rfl rfl rfl rfl ?_
  refine R_case (t := 21) rfl (fun h21 => ?_) (fun h21 => ?_)
  · try simp only [decide_eq_true_eq, decide_eq_false_iff_not, Bool.not_eq_true', Bool.not_eq_false', Bool.not_true, Bool.not_false, Option.isNone_iff_eq_none, Bool.false_eq_true, Bool.true_eq_false] at h21
    refine R_skip rfl rfl rfl rfl ?_
    refine R_skip rfl rfl rfl rfl ?_
    refine R_skip rfl rfl rfl rfl ?_
    refine O_pickT rfl rfl rfl rfl rfl rfl ?_
    refine R_nil ?_
    refine tn ?_
    refine F_true rfl rfl ?_
    refine F_seq ?_
    refine F_region (p := ⟨_, [2, 0], []⟩) rfl [0, 1] rfl ?_
    refine O_call rfl rfl rfl rfl Tryd.call8 rfl (vAwake (hS)) (fun _ _ hv => trivial) ?_
    rintro _ w ⟨rfl, hS⟩
    refine O_assign rfl rfl rfl rfl rfl ?_
    refine R_nil ?_
    refine tn ?_
    refine F_ret ?_
    refine tr ?_
    show endF _ _ _ _ _ _
    refine end0 trivial rfl rfl rfl hS ?_
    intro w hS
    replace hS := (hS).drop
    exact ⟨rfl, hS⟩
  · try simp only [decide_eq_true_eq, decide_eq_false_iff_not, Bool.not_eq_true', Bool.not_eq_false', Bool.not_true, Bool.not_false, Option.isNone_iff_eq_none, Bool.false_eq_true, Bool.true_eq_false] at h21
    refine O_move rfl rfl rfl rfl rfl ?_
    refine O_lenSl rfl rfl rfl rfl rfl Tryd.runUnderlying55 ?_
    refine O_cmp rfl rfl rfl rfl rfl rfl rfl ?_
    refine O_pickF rfl rfl rfl rfl rfl rfl ?_
    refine R_nil ?_
    refine tn ?_
    refine F_cond rfl (fun h25 => ?_) (fun h25 => ?_)
    · try simp only [decide_eq_true_eq, decide_eq_false_iff_not, Bool.not_eq_true', Bool.not_eq_false', Bool.not_true, Bool.not_false, Option.isNone_iff_eq_none, Bool.false_eq_true, Bool.true_eq_false] at h25
      refine F_seq ?_
      refine F_region (p := ⟨_, [2, 0], []⟩) rfl [0, 1] rfl ?_
      refine O_call rfl rfl rfl rfl Tryd.call8 rfl (vAwake (hS)) (fun _ _ hv => trivial) ?_
      rintro _ w ⟨rfl, hS⟩
      refine O_assign rfl rfl rfl rfl rfl ?_
      refine R_nil ?_
      refine tn ?_
      refine F_ret ?_
      refine tr ?_
      show endF _ _ _ _ _ _
      refine end0 trivial rfl rfl rfl hS ?_
      intro w hS
      replace hS := (hS).drop
      exact ⟨rfl, hS⟩
    · try simp only [decide_eq_true_eq, decide_eq_false_iff_not, Bool.not_eq_true', Bool.not_eq_false', Bool.not_true, Bool.not_false, Option.isNone_iff_eq_none, Bool.false_eq_true, Bool.true_eq_false] at h25
      refine F_skip ?_
      refine tn ?_
      refine F_seq ?_
      refine F_region (p := ⟨_, [2, 0, 0, 0, 0, 0], []⟩) rfl [0, 1, 2, 3, 4, 5] rfl ?_
      refine O_call rfl rfl rfl rfl Tryd.call9 rfl (vNew (k := 1) (by omega) (by omega) (hS)) (fun _ _ hv => trivial) ?_
      rintro _ w ⟨pva, rfl, hS⟩
      replace hS := hS.u2
      refine O_move rfl rfl rfl rfl rfl ?_
      refine O_extract rfl rfl rfl rfl rfl rfl ?_
      refine O_extract rfl rfl rfl rfl rfl rfl ?_
      refine O_assign rfl rfl rfl rfl rfl ?_
      refine O_assign rfl rfl rfl rfl rfl ?_
      refine R_nil ?_
      refine tn ?_
      refine F_seq ?_
      refine F_region (p := ⟨_, [2, 0, 0, 0, 0, 0], []⟩) rfl [0, 1, 2, 3, 4, 5] rfl ?_
      refine O_call rfl rfl rfl rfl Tryd.call9 rfl (vNew (k := 1) (by omega) (by omega) (hS)) (fun _ _ hv => trivial) ?_
      rintro _ w ⟨pvb, rfl, hS⟩
      replace hS := hS.u2
      refine O_move rfl rfl rfl rfl rfl ?_
      refine O_extract rfl rfl rfl rfl rfl rfl ?_
      refine O_extract rfl rfl rfl rfl rfl rfl ?_
      refine O_assign rfl rfl rfl rfl rfl ?_
      refine O_assign rfl rfl rfl rfl rfl ?_
      refine R_nil ?_
      refine tn ?_
      refine F_seq ?_
      refine F_seq ?_
      refine F_region (p := ⟨_, [0, 0, 0, 0, 0, 0, 0, 0, 0, 0, 0, 0, 0, 0], []⟩) rfl [0, 1, 2, 3, 4, 5, 6, 7, 8, 9, 10, 11, 12, 13] rfl ?_
      refine O_move rfl rfl rfl rfl rfl ?_
      refine O_cmp rfl rfl rfl rfl rfl rfl rfl ?_
      refine O_move rfl rfl rfl rfl rfl ?_
      refine R_caseF (t := 37) rfl rfl ?_
      refine O_move rfl rfl rfl rfl rfl ?_
      refine O_cmp rfl rfl rfl rfl rfl rfl rfl ?_
      refine O_pickF rfl rfl rfl rfl rfl rfl ?_
      refine O_move rfl rfl rfl rfl rfl ?_
      refine R_caseF (t := 41) rfl rfl ?_
      refine O_move rfl rfl rfl rfl rfl ?_
      refine O_eqNil rfl rfl rfl rfl rfl rfl Tryd.runUnderlying24 ?_
      refine O_pickF rfl rfl rfl rfl rfl rfl ?_
      refine O_move rfl rfl rfl rfl rfl ?_
      refine R_caseF (t := 45) rfl rfl ?_
      refine O_move rfl rfl rfl rfl rfl ?_
      refine O_eqNil rfl rfl rfl rfl rfl rfl Tryd.runUnderlying24 ?_
      refine O_pickF rfl rfl rfl rfl rfl rfl ?_
      refine R_nil ?_
      refine tn ?_
      refine F_false rfl rfl ?_
      refine F_skip ?_
      refine tn ?_
      refine F_seq ?_
      refine F_seq ?_
      refine F_region (p := ⟨_, [0, 0, 0], []⟩) rfl [0, 1, 2] rfl ?_
      refine O_move rfl rfl rfl rfl rfl ?_
      refine O_lenSl rfl rfl rfl rfl rfl Tryd.runUnderlying43 ?_
      refine O_move rfl rfl rfl rfl rfl ?_
      refine R_nil ?_
      refine tn ?_
      refine F_block ?_
      have hvl : vals.length ≤ 30 := by omega
      have hrl : rates.length ≤ 30 := by omega
      refine F_loopL (α := (Int)) (σ := (Int × Int)) (vals) [(1, _), (5, _), (7, _), (49, _), (50, _)] (fun (pre : List (Int)) (st : Int × Int) => [(51, (.int .i64 (pre.length : Nat)))]) (fun (pre : List (Int)) (st : Int × Int) => vatP E_ii O_ii E_si O_si 74 109 114 pva (VV st.1 st.2) * vatP E_ii O_ii E_si O_si 74 109 114 pvb (VV st.1 st.2)) (fun (pre : List (Int)) (st : Int × Int) => (0 ≤ st.1 ∧ st.1 ≤ 300 * (pre.length : Int)) ∧ (-(300000000000000000000 * (pre.length : Int)) ≤ st.2 ∧ st.2 ≤ 300000000000000000000 * (pre.length : Int))) (0, 0) (Sup.app ⟨rfl, rfl, rfl, rfl, rfl, trivial⟩ ⟨rfl, trivial⟩) (hS.u2.u3.g2) ⟨by simp, by simp⟩ ?_ ?_
      · clear hS
        intro st w hI hS
        replace hS := hS.n2
        refine wpF.sup (L := [(1, _), (5, _), (7, _), (49, _), (50, _), (51, _)]) ?_ ⟨rfl, rfl, rfl, rfl, rfl, rfl, trivial⟩
        replace hS := hS.u3
        obtain ⟨hI1, hI2⟩ := hI
        refine F_seq ?_
        refine F_region (p := ⟨_, [0], []⟩) rfl [0] rfl ?_
        refine O_cmp rfl rfl rfl rfl rfl rfl rfl ?_
        refine R_nil ?_
        refine tn ?_
        refine F_seq ?_
        refine F_false rfl (decide_eq_false (by omega)) ?_
        refine F_exit ?_
        refine tx ?_
        refine tx ?_
        refine Go.Sl.bx rfl ?_
        refine tn ?_
        refine F_seq ?_
        refine F_region (p := ⟨_, [0, 2, 0, 2, 0, 0, 0, 2, 0, 2, 2, 0, 0], []⟩) rfl [0, 1, 2, 3, 4, 5, 6, 7, 8, 9, 10, 11, 12] rfl ?_
        refine O_move rfl rfl rfl rfl rfl ?_
        refine O_call rfl rfl rfl rfl Tryd.call12 rfl (vResC rfl rfl (by first | omega | (simp only; omega) | (dsimp only; omega) | decide) (hS.u2)) (fun _ _ hv => trivial) ?_
        rintro _ w ⟨rfl, hS⟩
        replace hS := hS.u2
        refine O_move rfl rfl rfl rfl rfl ?_
        refine O_call rfl rfl rfl rfl Tryd.call12 rfl (vResC rfl rfl (by first | omega | (simp only; omega) | (dsimp only; omega) | decide) (hS.u3)) (fun _ _ hv => trivial) ?_
        rintro _ w ⟨rfl, hS⟩
        replace hS := hS.u2
        refine O_eqAgg rfl rfl rfl rfl rfl rfl Tryd.eqGuardType38 (eq38 _ _ _ _ _ _ _ _ _ _ _ _ _ _ _ _ _ _) ?_
        refine O_move rfl rfl rfl rfl rfl ?_
        refine R_caseT (t := 100) rfl (by simp) ?_
        refine O_move rfl rfl rfl rfl rfl ?_
        refine O_call rfl rfl rfl rfl Tryd.call18 rfl (vState (hS.u3)) (fun _ _ hv => trivial) ?_
        rintro _ w ⟨p11, q11, p21, q21, rfl, hS⟩
        replace hS := hS.u4
        refine O_move rfl rfl rfl rfl rfl ?_
        refine O_call rfl rfl rfl rfl Tryd.call18 rfl (vState (hS.u5)) (fun _ _ hv => trivial) ?_
        rintro _ w ⟨p12, q12, p22, q22, rfl, hS⟩
        replace hS := hS.u4
        replace hS := hS.u3.u3.u6.u6.g4
        replace hS := hS.u2
        refine O_call rfl rfl rfl rfl Tryd.call17 rfl (rSame (s := ⟨1, st.1, st.2 / 1000000000000, st.2 % 1000000000000, 0, 0, 0, ⟨#[]⟩, expand [], expand []⟩) (t := ⟨1, st.1, st.2 / 1000000000000, st.2 % 1000000000000, 0, 0, 0, ⟨#[]⟩, expand [], expand []⟩) (sl_rds.l) (sl_rds.l.r) (sl_rds.l.r.r) (sl_rds.r.r.r) (by simp [expand]) (by simp [expand]) (hS.u2)) (fun _ _ hv => trivial) ?_
        rintro _ w ⟨rfl, hS⟩
        replace hS := hS.u2
        refine O_pickT rfl rfl rfl rfl rfl rfl ?_
        refine O_assign rfl rfl rfl rfl rfl ?_
        refine R_nil ?_
        refine tn ?_
        refine F_ret ?_
        show endF _ _ _ _ _ _
        refine end0 trivial rfl rfl rfl hS ?_
        intro w hS
        replace hS := (hS).drop
        replace hS := (hS).drop
        replace hS := (hS).drop
        replace hS := (hS).drop
        exact ⟨by simp [oneRes], hS⟩
      · clear hS
        intro pre x post st w hx hI hS
        replace hS := hS.n2
        refine wpF.sup (L := [(1, _), (5, _), (7, _), (49, _), (50, _), (51, _)]) ?_ ⟨rfl, rfl, rfl, rfl, rfl, rfl, trivial⟩
        replace hS := hS.u3
        have hlx : pre.length + (post.length + 1) = vals.length := by rw [hx]; simp
        obtain ⟨hI1, hI2⟩ := hI
        have hn : -1000000000000000000 < x.tmod 1000000000000000000 ∧ x.tmod 1000000000000000000 < 1000000000000000000 := by
          rcases Int.le_total 0 x with h | h
          · have := Int.tmod_nonneg 1000000000000000000 h; have := Int.tmod_lt_of_pos x (show (0 : Int) < 1000000000000000000 by omega); omega
          · have e1 : (-x).tmod 1000000000000000000 = - x.tmod 1000000000000000000 := Int.neg_tmod ..; have := Int.tmod_nonneg 1000000000000000000 (show 0 ≤ -x by omega); have := Int.tmod_lt_of_pos (-x) (show (0 : Int) < 1000000000000000000 by omega); omega
        refine F_seq ?_
        refine F_region (p := ⟨_, [0], []⟩) rfl [0] rfl ?_
        refine O_cmp rfl rfl rfl rfl rfl rfl rfl ?_
        refine R_nil ?_
        refine tn ?_
        refine F_seq ?_
        refine F_true rfl (decide_eq_true (by omega)) ?_
        refine F_skip ?_
        refine tn ?_
        refine F_seq ?_
        refine F_block ?_
        refine F_seq ?_
        refine F_region (p := ⟨_, [0, 0, 1, 0, 0], []⟩) rfl [0, 1, 2, 3, 4] rfl ?_
        refine O_move rfl rfl rfl rfl rfl ?_
        obtain ⟨ebq1, eoq1, hadq1⟩ := Rds.ad (k := pre.length) (u := (.int .i64 x)) (h1) (hS.u4) (by simp [hx])
        refine O_indexSlE (m := pre.length) rfl rfl rfl rfl Tryd.runUnderlying43 Tryd.sizeOf3 rfl hadq1 rfl rfl (by omega) ?_
        refine O_load rfl rfl rfl rfl rfl Tryd.isAgg3 (Rds.at (k := pre.length * 1) (u := (.int .i64 x)) (h1) (hS.u4) hadq1 (by simp [hx])) (by trivial) ?_
        refine O_assign rfl rfl rfl rfl rfl ?_
        refine O_assign rfl rfl rfl rfl rfl ?_
        refine R_nil ?_
        refine tn ?_
        refine F_seq ?_
        refine F_region (p := ⟨_, [0, 0, 0, 0, 2, 2], []⟩) rfl [0, 1, 2, 3, 4, 5] rfl ?_
        refine O_build rfl rfl rfl rfl rfl (run_buildS [_, _] Tryd.zeroValue30 Tryd.runUnderlying30 (fun _ => 1) ⟨Tryd.sizeOf9, Tryd.sizeOf28, trivial⟩ rfl) ?_
        refine O_move rfl rfl rfl rfl rfl ?_
        refine O_rem rfl rfl rfl rfl rfl rfl (by first | decide | omega) ?_
        refine O_build rfl rfl rfl rfl rfl (run_buildS [_, _, _, _, _, _, _, _, _] Tryd.zeroValue32 Tryd.runUnderlying32 (fun x => match x.offset with | 0 => 2 | _ => 1) ⟨Tryd.sizeOf30, Tryd.sizeOf3, Tryd.sizeOf3, Tryd.sizeOf9, Tryd.sizeOf3, Tryd.sizeOf3, Tryd.sizeOf9, Tryd.sizeOf3, trivial⟩ rfl) ?_
        refine O_allocS hS rfl rfl rfl rfl Tryd.zeroValue32 (fun _ _ hv => trivial) ?_
        intro b1 w hS
        refine O_storeAgg (cs := [_, _, _, _, _, _, _, _, _]) hS rfl rfl rfl rfl rfl rfl Tryd.sizeOf32 rfl (Nat.le_of_ble_eq_true rfl) (by simp [one]) (fun _ hv => trivial) ?_
        intro w hS
        dsimp only [setsL, List.set_cons_zero, List.set_cons_succ, Value.cells] at hS
        refine R_nil ?_
        refine tn ?_
        refine F_seq ?_
        refine F_seq ?_
        refine F_region (p := ⟨_, [0, 0, 0, 0], []⟩) rfl [0, 1, 2, 3] rfl ?_
        refine O_move rfl rfl rfl rfl rfl ?_
        refine O_move rfl rfl rfl rfl rfl ?_
        refine O_lenSl rfl rfl rfl rfl rfl Tryd.runUnderlying55 ?_
        refine O_cmp rfl rfl rfl rfl rfl rfl rfl ?_
        refine R_nil ?_
        refine tn ?_
        refine F_cond rfl (fun h63 => ?_) (fun h63 => ?_)
        · try simp only [decide_eq_true_eq, decide_eq_false_iff_not, Bool.not_eq_true', Bool.not_eq_false', Bool.not_true, Bool.not_false, Option.isNone_iff_eq_none, Bool.false_eq_true, Bool.true_eq_false] at h63
          obtain ⟨z, hz⟩ : ∃ z, rates[pre.length]? = some z := ⟨_, List.getElem?_eq_getElem (by omega)⟩
          have hzb := hr z (List.mem_of_getElem? hz)
          refine F_region (p := ⟨_, [0, 0, 0, 1, 0, 0, 0, 2], []⟩) rfl [0, 1, 2, 3, 4, 5, 6, 7] rfl ?_
          refine O_move rfl rfl rfl rfl rfl ?_
          refine O_move rfl rfl rfl rfl rfl ?_
          obtain ⟨ebq2, eoq2, hadq2⟩ := Rds.ad (k := pre.length) (u := (.int .u8 z)) (h2) (hS.u4) (by simp [hz])
          refine O_indexSlE (m := pre.length) rfl rfl rfl rfl Tryd.runUnderlying55 Tryd.sizeOf5 rfl hadq2 rfl rfl (by omega) ?_
          refine O_load rfl rfl rfl rfl rfl Tryd.isAgg5 (Rds.at (k := pre.length * 1) (u := (.int .u8 z)) (h2) (hS.u4) hadq2 (by simp [hz])) (by trivial) ?_
          refine O_convI rfl rfl rfl rfl Tryd.runUnderlying5 Tryd.runUnderlying3 rfl (by omega) ?_
          refine O_addN rfl rfl rfl rfl rfl rfl (by first | omega | (dsimp only; omega)) ?_
          refine O_fieldAddr rfl rfl rfl rfl rfl Tryd.runUnderlying32 rfl Tryd.sizeOf3 ?_
          refine O_storeS hS rfl rfl rfl rfl rfl rfl rfl Tryd.sizeOf3 (by repeat (first | exact .here rfl rfl | apply SetAt.there)) (fun w' hv => trivial) ?_
          intro w hS
          refine R_nil ?_
          refine tn ?_
          refine F_seq ?_
          refine F_region (p := ⟨_, [0, 1, 2], []⟩) rfl [0, 1, 2] rfl ?_
          refine O_move rfl rfl rfl rfl rfl ?_
          refine O_loadAgg [_, _, _, _, _, _, _, _, _] rfl rfl rfl rfl rfl Tryd.isAgg32 Tryd.sizeOf32 rfl (CellsAt.rd ⟨(by repeat (first | exact .here rfl | apply CellAt.there)), (by repeat (first | exact .here rfl | apply CellAt.there)), (by repeat (first | exact .here rfl | apply CellAt.there)), (by repeat (first | exact .here rfl | apply CellAt.there)), (by repeat (first | exact .here rfl | apply CellAt.there)), (by repeat (first | exact .here rfl | apply CellAt.there)), (by repeat (first | exact .here rfl | apply CellAt.there)), (by repeat (first | exact .here rfl | apply CellAt.there)), (by repeat (first | exact .here rfl | apply CellAt.there)), trivial⟩ (hS)) (by trivial) ?_
          refine O_call rfl rfl rfl rfl Tryd.call10 rfl (vAddC (e := ⟨.string ⟨#[97]⟩, .slice none 0 0, 1, x.tmod 1000000000000000000, ⟨#[]⟩, (1 + z), 0, ⟨#[97]⟩, 1⟩) rfl rfl (by first | omega | (simp only; omega) | (dsimp only; omega) | decide) (by first | omega | (simp only; omega) | (dsimp only; omega) | decide) (by first | omega | (simp only; omega) | (dsimp only; omega) | decide) (by first | omega | (simp only; omega) | (dsimp only; omega) | decide) (hS.u2)) (fun _ _ hv => trivial) ?_
          rintro _ w ⟨rfl, hS⟩
          replace hS := hS.u2
          refine R_nil ?_
          refine tn ?_
          refine F_seq ?_
          refine F_region (p := ⟨_, [1, 2, 2], []⟩) rfl [0, 1, 2] rfl ?_
          refine O_loadAgg [_, _, _, _, _, _, _, _, _] rfl rfl rfl rfl rfl Tryd.isAgg32 Tryd.sizeOf32 rfl (CellsAt.rd ⟨(by repeat (first | exact .here rfl | apply CellAt.there)), (by repeat (first | exact .here rfl | apply CellAt.there)), (by repeat (first | exact .here rfl | apply CellAt.there)), (by repeat (first | exact .here rfl | apply CellAt.there)), (by repeat (first | exact .here rfl | apply CellAt.there)), (by repeat (first | exact .here rfl | apply CellAt.there)), (by repeat (first | exact .here rfl | apply CellAt.there)), (by repeat (first | exact .here rfl | apply CellAt.there)), (by repeat (first | exact .here rfl | apply CellAt.there)), trivial⟩ (hS)) (by trivial) ?_
          refine O_allocS hS rfl rfl rfl rfl Tryd.zeroValue32 (fun _ _ hv => trivial) ?_
          intro b2 w hS
          refine O_storeAgg (cs := [_, _, _, _, _, _, _, _, _]) hS rfl rfl rfl rfl rfl rfl Tryd.sizeOf32 rfl (Nat.le_of_ble_eq_true rfl) (by simp [one]) (fun _ hv => trivial) ?_
          intro w hS
          dsimp only [setsL, List.set_cons_zero, List.set_cons_succ, Value.cells] at hS
          refine R_nil ?_
          refine tn ?_
          refine F_seq ?_
          refine F_region (p := ⟨_, [0, 2], []⟩) rfl [0, 1] rfl ?_
          refine O_fieldAddr rfl rfl rfl rfl rfl Tryd.runUnderlying32 rfl Tryd.sizeOf3 ?_
          refine O_storeS hS rfl rfl rfl rfl rfl rfl rfl Tryd.sizeOf3 (by repeat (first | exact .here rfl rfl | apply SetAt.there)) (fun w' hv => trivial) ?_
          intro w hS
          refine R_nil ?_
          refine tn ?_
          refine F_seq ?_
          refine F_seq ?_
          refine F_region (p := ⟨_, [0, 1, 0], []⟩) rfl [0, 1, 2] rfl ?_
          refine O_fieldAddr rfl rfl rfl rfl rfl Tryd.runUnderlying32 rfl Tryd.sizeOf3 ?_
          refine O_loadS hS rfl rfl rfl rfl rfl Tryd.isAgg3 (by repeat (first | exact .here rfl | apply CellAt.there)) (by trivial) ?_
          refine O_move rfl rfl rfl rfl rfl ?_
          refine R_nil ?_
          refine tn ?_
          refine F_block ?_
          obtain ⟨q, hq, hq1⟩ : ∃ q : Nat, (1 + z) = (q : Int) ∧ q ≤ 256 := ⟨((1 + z)).toNat, by omega, by omega⟩
          have hmq := mulB (a := x.tmod 1000000000000000000) (b := q) (A := 1000000000000000000) (B := 256) (by omega) (by omega)
          replace hS := hS.u3
          replace hS : Sat w0 (vatP E_ii O_ii E_si O_si 74 109 114 pvb (VV (st.1 + ((0 : Nat) : Int)) (st.2 + x.tmod 1000000000000000000 * ((0 : Nat) : Int))) * _) w := hS.to (by rw [show (VV (st.1 + ((0 : Nat) : Int)) (st.2 + x.tmod 1000000000000000000 * ((0 : Nat) : Int))) = VV st.1 st.2 by simp])
          replace hS := hS.u2
          refine F_loopK (α := Nat) [(1, _), (5, _), (7, _), (12, _), (49, _), (50, _), (51, _), (77, _)] (fun (k : Nat) => [(78, (.int .i64 (k : Nat)))]) (fun (k : Nat) => vatP E_ii O_ii E_si O_si 74 109 114 pvb (VV (st.1 + (k : Nat)) (st.2 + x.tmod 1000000000000000000 * (k : Nat)))) (fun (k : Nat) => k ≤ q ∧ True) (fun (k : Nat) => q - k) 0 (Sup.app ⟨rfl, rfl, rfl, rfl, rfl, rfl, rfl, rfl, trivial⟩ ⟨rfl, trivial⟩) (hS.u2) ⟨Nat.zero_le _, trivial⟩ ?_
          clear hS
          rintro k w ⟨hk, hIk⟩ hS
          replace hS := hS
          rcases Nat.lt_or_ge k q with hk2 | hk2
          · have hmk := mulB (a := x.tmod 1000000000000000000) (b := k) (A := 1000000000000000000) (B := 256) (by omega) (by omega)
            refine wpF.sup (L := [(1, _), (5, _), (7, _), (12, _), (49, _), (50, _), (51, _), (77, _), (78, _)]) ?_ ⟨rfl, rfl, rfl, rfl, rfl, rfl, rfl, rfl, rfl, trivial⟩
            replace hS := hS.u2
            refine F_seq ?_
            refine F_region (p := ⟨_, [0], []⟩) rfl [0] rfl ?_
            refine O_cmp rfl rfl rfl rfl rfl rfl rfl ?_
            refine R_nil ?_
            refine tn ?_
            refine F_seq ?_
            refine F_true rfl (decide_eq_true (by omega)) ?_
            refine F_skip ?_
            refine tn ?_
            refine F_seq ?_
            refine F_block ?_
            refine F_region (p := ⟨_, [0, 1, 2], []⟩) rfl [0, 1, 2] rfl ?_
            refine O_move rfl rfl rfl rfl rfl ?_
            refine O_loadAgg [_, _, _, _, _, _, _, _, _] rfl rfl rfl rfl rfl Tryd.isAgg32 Tryd.sizeOf32 rfl (CellsAt.rd ⟨(by repeat (first | exact .here rfl | apply CellAt.there)), (by repeat (first | exact .here rfl | apply CellAt.there)), (by repeat (first | exact .here rfl | apply CellAt.there)), (by repeat (first | exact .here rfl | apply CellAt.there)), (by repeat (first | exact .here rfl | apply CellAt.there)), (by repeat (first | exact .here rfl | apply CellAt.there)), (by repeat (first | exact .here rfl | apply CellAt.there)), (by repeat (first | exact .here rfl | apply CellAt.there)), (by repeat (first | exact .here rfl | apply CellAt.there)), trivial⟩ (hS)) (by trivial) ?_
            refine O_call rfl rfl rfl rfl Tryd.call10 rfl (vAddC (e := ⟨.string ⟨#[97]⟩, .slice none 0 0, 1, x.tmod 1000000000000000000, ⟨#[]⟩, 1, 0, ⟨#[97]⟩, 1⟩) rfl rfl (by first | omega | (simp only; omega) | (dsimp only; omega) | decide) (by first | omega | (simp only; omega) | (dsimp only; omega) | decide) (by first | omega | (simp only; omega) | (dsimp only; omega) | decide) (by first | omega | (simp only; omega) | (dsimp only; omega) | decide) (hS.u2)) (fun _ _ hv => trivial) ?_
            rintro _ w ⟨rfl, hS⟩
            replace hS := hS.u2
            refine R_nil ?_
            refine bn ?_
            refine tn ?_
            refine F_region (p := ⟨_, [0, 0], []⟩) rfl [0, 1] rfl ?_
            refine O_addN rfl rfl rfl rfl rfl rfl (by first | omega | (dsimp only; omega)) ?_
            refine O_move rfl rfl rfl rfl rfl ?_
            refine R_nil ?_
            replace hS := hS.u2
            replace hS : Sat w0 (vatP E_ii O_ii E_si O_si 74 109 114 pvb (VV (st.1 + (k + 1 : Nat)) (st.2 + x.tmod 1000000000000000000 * (k + 1 : Nat))) * _) w := hS.to (by rw [show (VV (st.1 + (k + 1 : Nat)) (st.2 + x.tmod 1000000000000000000 * (k + 1 : Nat))) = { (VV (st.1 + (k : Nat)) (st.2 + x.tmod 1000000000000000000 * (k : Nat))) with many := st.1 + (k : Nat) + 1, sum := st.2 + x.tmod 1000000000000000000 * (k : Nat) + x.tmod 1000000000000000000 * 1 } by simp only [VatS.mk.injEq, true_and, and_true]; refine ⟨?_, ?_⟩; (omega); (rw [Int.natCast_add, Int.mul_add]; omega)])
            replace hS := hS.u2
            replace hS := hS.lk2.lk2
            replace hS := hS.u4.u4.u3.u4
            refine tn ⟨rfl, rfl, k + 1, Sup.app ⟨rfl, rfl, rfl, rfl, rfl, rfl, rfl, rfl, trivial⟩ ⟨rfl, trivial⟩, ⟨⟨by omega, trivial⟩, hS⟩, by omega⟩
          · have ek : q = k := by omega
            subst ek
            refine wpF.sup (L := [(1, _), (5, _), (7, _), (12, _), (49, _), (50, _), (51, _), (77, _), (78, _)]) ?_ ⟨rfl, rfl, rfl, rfl, rfl, rfl, rfl, rfl, rfl, trivial⟩
            replace hS := hS.u2
            refine F_seq ?_
            refine F_region (p := ⟨_, [0], []⟩) rfl [0] rfl ?_
            refine O_cmp rfl rfl rfl rfl rfl rfl rfl ?_
            refine R_nil ?_
            refine tn ?_
            refine F_seq ?_
            refine F_false rfl (decide_eq_false (by omega)) ?_
            refine F_exit ?_
            refine tx ?_
            refine tx ?_
            refine Go.Sl.bx rfl ?_
            refine tn ?_
            refine F_seq ?_
            refine F_region (p := ⟨_, [0, 2, 2, 2], []⟩) rfl [0, 1, 2, 3] rfl ?_
            refine O_move rfl rfl rfl rfl rfl ?_
            refine O_call rfl rfl rfl rfl Tryd.call18 rfl (vState (hS.u3)) (fun _ _ hv => trivial) ?_
            rintro _ w ⟨p1, q1, p2, q2, rfl, hS⟩
            replace hS := hS.u4
            replace hS := (hS.u2).drop
            replace hS := (hS.u2).drop
            refine O_allocS hS rfl rfl rfl rfl Tryd.zeroValue52 (fun _ _ hv => trivial) ?_
            intro b3 w hS
            refine O_storeAgg (cs := [_, _, _, _, _, _, _, _, _, _]) hS rfl rfl rfl rfl rfl rfl Tryd.sizeOf52 rfl (Nat.le_of_ble_eq_true rfl) (by simp [one]) (fun _ hv => trivial) ?_
            intro w hS
            dsimp only [setsL, List.set_cons_zero, List.set_cons_succ, Value.cells] at hS
            refine R_nil ?_
            refine tn ?_
            refine F_seq ?_
            refine F_region (p := ⟨_, [0, 1, 0, 0, 0, 1, 0, 0], []⟩) rfl [0, 1, 2, 3, 4, 5, 6, 7] rfl ?_
            refine O_fieldAddr rfl rfl rfl rfl rfl Tryd.runUnderlying52 rfl Tryd.sizeOf3 ?_
            refine O_loadS hS rfl rfl rfl rfl rfl Tryd.isAgg3 (by repeat (first | exact .here rfl | apply CellAt.there)) (by trivial) ?_
            refine O_cmp rfl rfl rfl rfl rfl rfl rfl ?_
            refine O_move rfl rfl rfl rfl rfl ?_
            refine R_caseF (t := 89) rfl (decide_eq_false (by omega)) ?_
            refine O_fieldAddr rfl rfl rfl rfl rfl Tryd.runUnderlying52 rfl Tryd.sizeOf3 ?_
            refine O_loadS hS rfl rfl rfl rfl rfl Tryd.isAgg3 (by repeat (first | exact .here rfl | apply CellAt.there)) (by trivial) ?_
            refine O_cmp rfl rfl rfl rfl rfl rfl rfl ?_
            refine O_pickF rfl rfl rfl rfl rfl rfl ?_
            refine R_nil ?_
            refine tn ?_
            refine F_false rfl (decide_eq_false (by omega)) ?_
            refine F_skip ?_
            refine bn ?_
            refine tn ?_
            refine F_region (p := ⟨_, [0, 0], []⟩) rfl [0, 1] rfl ?_
            refine O_addN rfl rfl rfl rfl rfl rfl (by first | omega | (dsimp only; omega)) ?_
            refine O_move rfl rfl rfl rfl rfl ?_
            refine R_nil ?_
            replace hS := hS.u2
            replace hS := hS.to (congrArg (fun v => vatP E_ii O_ii E_si O_si 74 109 114 pva v * _) (show ({ VV st.1 st.2 with many := st.1 + (1 + z), sum := st.2 + x.tmod 1000000000000000000 * (1 + z) } : VatS) = (VV (st.1 + (q : Nat)) (st.2 + x.tmod 1000000000000000000 * (q : Nat))) by rw [← hq]))
            replace hS := hS.u3
            replace hS := hS.u3
            replace hS := hS.sp1.drop
            replace hS := hS.sp1.drop
            replace hS := hS.sp1.drop
            replace hS := hS.u4.u2.u3.u4
            refine tn ⟨rfl, rfl, (st.1 + q, st.2 + x.tmod 1000000000000000000 * q), Sup.app ⟨rfl, rfl, rfl, rfl, rfl, trivial⟩ ⟨congrArg (fun z : Nat => some (Value.int .i64 z)) (show pre.length + 1 = (pre ++ [x]).length by simp), trivial⟩, ⟨by simp only [List.length_append, List.length_singleton]; omega, by simp only [List.length_append, List.length_singleton]; omega⟩, hS.g2⟩
        · try simp only [decide_eq_true_eq, decide_eq_false_iff_not, Bool.not_eq_true', Bool.not_eq_false', Bool.not_true, Bool.not_false, Option.isNone_iff_eq_none, Bool.false_eq_true, Bool.true_eq_false] at h63
          have hz : True := trivial
          refine F_skip ?_
          refine tn ?_
          refine F_seq ?_
          refine F_region (p := ⟨_, [0, 1, 2], []⟩) rfl [0, 1, 2] rfl ?_
          refine O_move rfl rfl rfl rfl rfl ?_
          refine O_loadAgg [_, _, _, _, _, _, _, _, _] rfl rfl rfl rfl rfl Tryd.isAgg32 Tryd.sizeOf32 rfl (CellsAt.rd ⟨(by repeat (first | exact .here rfl | apply CellAt.there)), (by repeat (first | exact .here rfl | apply CellAt.there)), (by repeat (first | exact .here rfl | apply CellAt.there)), (by repeat (first | exact .here rfl | apply CellAt.there)), (by repeat (first | exact .here rfl | apply CellAt.there)), (by repeat (first | exact .here rfl | apply CellAt.there)), (by repeat (first | exact .here rfl | apply CellAt.there)), (by repeat (first | exact .here rfl | apply CellAt.there)), (by repeat (first | exact .here rfl | apply CellAt.there)), trivial⟩ (hS)) (by trivial) ?_
          refine O_call rfl rfl rfl rfl Tryd.call10 rfl (vAddC (e := ⟨.string ⟨#[97]⟩, .slice none 0 0, 1, x.tmod 1000000000000000000, ⟨#[]⟩, (1 : Int), 0, ⟨#[97]⟩, 1⟩) rfl rfl (by first | omega | (simp only; omega) | (dsimp only; omega) | decide) (by first | omega | (simp only; omega) | (dsimp only; omega) | decide) (by first | omega | (simp only; omega) | (dsimp only; omega) | decide) (by first | omega | (simp only; omega) | (dsimp only; omega) | decide) (hS.u2)) (fun _ _ hv => trivial) ?_
          rintro _ w ⟨rfl, hS⟩
          replace hS := hS.u2
          refine R_nil ?_
          refine tn ?_
          refine F_seq ?_
          refine F_region (p := ⟨_, [1, 2, 2], []⟩) rfl [0, 1, 2] rfl ?_
          refine O_loadAgg [_, _, _, _, _, _, _, _, _] rfl rfl rfl rfl rfl Tryd.isAgg32 Tryd.sizeOf32 rfl (CellsAt.rd ⟨(by repeat (first | exact .here rfl | apply CellAt.there)), (by repeat (first | exact .here rfl | apply CellAt.there)), (by repeat (first | exact .here rfl | apply CellAt.there)), (by repeat (first | exact .here rfl | apply CellAt.there)), (by repeat (first | exact .here rfl | apply CellAt.there)), (by repeat (first | exact .here rfl | apply CellAt.there)), (by repeat (first | exact .here rfl | apply CellAt.there)), (by repeat (first | exact .here rfl | apply CellAt.there)), (by repeat (first | exact .here rfl | apply CellAt.there)), trivial⟩ (hS)) (by trivial) ?_
          refine O_allocS hS rfl rfl rfl rfl Tryd.zeroValue32 (fun _ _ hv => trivial) ?_
          intro b2 w hS
          refine O_storeAgg (cs := [_, _, _, _, _, _, _, _, _]) hS rfl rfl rfl rfl rfl rfl Tryd.sizeOf32 rfl (Nat.le_of_ble_eq_true rfl) (by simp [one]) (fun _ hv => trivial) ?_
          intro w hS
          dsimp only [setsL, List.set_cons_zero, List.set_cons_succ, Value.cells] at hS
          refine R_nil ?_
          refine tn ?_
          refine F_seq ?_
          refine F_region (p := ⟨_, [0, 2], []⟩) rfl [0, 1] rfl ?_
          refine O_fieldAddr rfl rfl rfl rfl rfl Tryd.runUnderlying32 rfl Tryd.sizeOf3 ?_
          refine O_storeS hS rfl rfl rfl rfl rfl rfl rfl Tryd.sizeOf3 (by repeat (first | exact .here rfl rfl | apply SetAt.there)) (fun w' hv => trivial) ?_
          intro w hS
          refine R_nil ?_
          refine tn ?_
          refine F_seq ?_
          refine F_seq ?_
          refine F_region (p := ⟨_, [0, 1, 0], []⟩) rfl [0, 1, 2] rfl ?_
          refine O_fieldAddr rfl rfl rfl rfl rfl Tryd.runUnderlying32 rfl Tryd.sizeOf3 ?_
          refine O_loadS hS rfl rfl rfl rfl rfl Tryd.isAgg3 (by repeat (first | exact .here rfl | apply CellAt.there)) (by trivial) ?_
          refine O_move rfl rfl rfl rfl rfl ?_
          refine R_nil ?_
          refine tn ?_
          refine F_block ?_
          obtain ⟨q, hq, hq1⟩ : ∃ q : Nat, (1 : Int) = (q : Int) ∧ q ≤ 256 := ⟨((1 : Int)).toNat, by omega, by omega⟩
          have hmq := mulB (a := x.tmod 1000000000000000000) (b := q) (A := 1000000000000000000) (B := 256) (by omega) (by omega)
          replace hS := hS.u3
          replace hS : Sat w0 (vatP E_ii O_ii E_si O_si 74 109 114 pvb (VV (st.1 + ((0 : Nat) : Int)) (st.2 + x.tmod 1000000000000000000 * ((0 : Nat) : Int))) * _) w := hS.to (by rw [show (VV (st.1 + ((0 : Nat) : Int)) (st.2 + x.tmod 1000000000000000000 * ((0 : Nat) : Int))) = VV st.1 st.2 by simp])
          replace hS := hS.u2
          refine F_loopK (α := Nat) [(1, _), (5, _), (7, _), (12, _), (49, _), (50, _), (51, _), (77, _)] (fun (k : Nat) => [(78, (.int .i64 (k : Nat)))]) (fun (k : Nat) => vatP E_ii O_ii E_si O_si 74 109 114 pvb (VV (st.1 + (k : Nat)) (st.2 + x.tmod 1000000000000000000 * (k : Nat)))) (fun (k : Nat) => k ≤ q ∧ True) (fun (k : Nat) => q - k) 0 (Sup.app ⟨rfl, rfl, rfl, rfl, rfl, rfl, rfl, rfl, trivial⟩ ⟨rfl, trivial⟩) (hS.u2) ⟨Nat.zero_le _, trivial⟩ ?_
          clear hS
          rintro k w ⟨hk, hIk⟩ hS
          replace hS := hS
          rcases Nat.lt_or_ge k q with hk2 | hk2
          · have hmk := mulB (a := x.tmod 1000000000000000000) (b := k) (A := 1000000000000000000) (B := 256) (by omega) (by omega)
            refine wpF.sup (L := [(1, _), (5, _), (7, _), (12, _), (49, _), (50, _), (51, _), (77, _), (78, _)]) ?_ ⟨rfl, rfl, rfl, rfl, rfl, rfl, rfl, rfl, rfl, trivial⟩
            replace hS := hS.u2
            refine F_seq ?_
            refine F_region (p := ⟨_, [0], []⟩) rfl [0] rfl ?_
            refine O_cmp rfl rfl rfl rfl rfl rfl rfl ?_
            refine R_nil ?_
            refine tn ?_
            refine F_seq ?_
            refine F_true rfl (decide_eq_true (by omega)) ?_
            refine F_skip ?_
            refine tn ?_
            refine F_seq ?_
            refine F_block ?_
            refine F_region (p := ⟨_, [0, 1, 2], []⟩) rfl [0, 1, 2] rfl ?_
            refine O_move rfl rfl rfl rfl rfl ?_
            refine O_loadAgg [_, _, _, _, _, _, _, _, _] rfl rfl rfl rfl rfl Tryd.isAgg32 Tryd.sizeOf32 rfl (CellsAt.rd ⟨(by repeat (first | exact .here rfl | apply CellAt.there)), (by repeat (first | exact .here rfl | apply CellAt.there)), (by repeat (first | exact .here rfl | apply CellAt.there)), (by repeat (first | exact .here rfl | apply CellAt.there)), (by repeat (first | exact .here rfl | apply CellAt.there)), (by repeat (first | exact .here rfl | apply CellAt.there)), (by repeat (first | exact .here rfl | apply CellAt.there)), (by repeat (first | exact .here rfl | apply CellAt.there)), (by repeat (first | exact .here rfl | apply CellAt.there)), trivial⟩ (hS)) (by trivial) ?_
            refine O_call rfl rfl rfl rfl Tryd.call10 rfl (vAddC (e := ⟨.string ⟨#[97]⟩, .slice none 0 0, 1, x.tmod 1000000000000000000, ⟨#[]⟩, 1, 0, ⟨#[97]⟩, 1⟩) rfl rfl (by first | omega | (simp only; omega) | (dsimp only; omega) | decide) (by first | omega | (simp only; omega) | (dsimp only; omega) | decide) (by first | omega | (simp only; omega) | (dsimp only; omega) | decide) (by first | omega | (simp only; omega) | (dsimp only; omega) | decide) (hS.u2)) (fun _ _ hv => trivial) ?_
            rintro _ w ⟨rfl, hS⟩
            replace hS := hS.u2
            refine R_nil ?_
            refine bn ?_
            refine tn ?_
            refine F_region (p := ⟨_, [0, 0], []⟩) rfl [0, 1] rfl ?_
            refine O_addN rfl rfl rfl rfl rfl rfl (by first | omega | (dsimp only; omega)) ?_
            refine O_move rfl rfl rfl rfl rfl ?_
            refine R_nil ?_
            replace hS := hS.u2
            replace hS : Sat w0 (vatP E_ii O_ii E_si O_si 74 109 114 pvb (VV (st.1 + (k + 1 : Nat)) (st.2 + x.tmod 1000000000000000000 * (k + 1 : Nat))) * _) w := hS.to (by rw [show (VV (st.1 + (k + 1 : Nat)) (st.2 + x.tmod 1000000000000000000 * (k + 1 : Nat))) = { (VV (st.1 + (k : Nat)) (st.2 + x.tmod 1000000000000000000 * (k : Nat))) with many := st.1 + (k : Nat) + 1, sum := st.2 + x.tmod 1000000000000000000 * (k : Nat) + x.tmod 1000000000000000000 * 1 } by simp only [VatS.mk.injEq, true_and, and_true]; refine ⟨?_, ?_⟩; (omega); (rw [Int.natCast_add, Int.mul_add]; omega)])
            replace hS := hS.u2
            replace hS := hS.lk2.lk2
            replace hS := hS.u4.u4.u3.u4
            refine tn ⟨rfl, rfl, k + 1, Sup.app ⟨rfl, rfl, rfl, rfl, rfl, rfl, rfl, rfl, trivial⟩ ⟨rfl, trivial⟩, ⟨⟨by omega, trivial⟩, hS⟩, by omega⟩
          · have ek : q = k := by omega
            subst ek
            refine wpF.sup (L := [(1, _), (5, _), (7, _), (12, _), (49, _), (50, _), (51, _), (77, _), (78, _)]) ?_ ⟨rfl, rfl, rfl, rfl, rfl, rfl, rfl, rfl, rfl, trivial⟩
            replace hS := hS.u2
            refine F_seq ?_
            refine F_region (p := ⟨_, [0], []⟩) rfl [0] rfl ?_
            refine O_cmp rfl rfl rfl rfl rfl rfl rfl ?_
            refine R_nil ?_
            refine tn ?_
            refine F_seq ?_
            refine F_false rfl (decide_eq_false (by omega)) ?_
            refine F_exit ?_
            refine tx ?_
            refine tx ?_
            refine Go.Sl.bx rfl ?_
            refine tn ?_
            refine F_seq ?_
            refine F_region (p := ⟨_, [0, 2, 2, 2], []⟩) rfl [0, 1, 2, 3] rfl ?_
            refine O_move rfl rfl rfl rfl rfl ?_
            refine O_call rfl rfl rfl rfl Tryd.call18 rfl (vState (hS.u3)) (fun _ _ hv => trivial) ?_
            rintro _ w ⟨p1, q1, p2, q2, rfl, hS⟩
            replace hS := hS.u4
            replace hS := (hS.u2).drop
            replace hS := (hS.u2).drop
            refine O_allocS hS rfl rfl rfl rfl Tryd.zeroValue52 (fun _ _ hv => trivial) ?_
            intro b3 w hS
            refine O_storeAgg (cs := [_, _, _, _, _, _, _, _, _, _]) hS rfl rfl rfl rfl rfl rfl Tryd.sizeOf52 rfl (Nat.le_of_ble_eq_true rfl) (by simp [one]) (fun _ hv => trivial) ?_
            intro w hS
            dsimp only [setsL, List.set_cons_zero, List.set_cons_succ, Value.cells] at hS
            refine R_nil ?_
            refine tn ?_
            refine F_seq ?_
            refine F_region (p := ⟨_, [0, 1, 0, 0, 0, 1, 0, 0], []⟩) rfl [0, 1, 2, 3, 4, 5, 6, 7] rfl ?_
            refine O_fieldAddr rfl rfl rfl rfl rfl Tryd.runUnderlying52 rfl Tryd.sizeOf3 ?_
            refine O_loadS hS rfl rfl rfl rfl rfl Tryd.isAgg3 (by repeat (first | exact .here rfl | apply CellAt.there)) (by trivial) ?_
            refine O_cmp rfl rfl rfl rfl rfl rfl rfl ?_
            refine O_move rfl rfl rfl rfl rfl ?_
            refine R_caseF (t := 89) rfl (decide_eq_false (by omega)) ?_
            refine O_fieldAddr rfl rfl rfl rfl rfl Tryd.runUnderlying52 rfl Tryd.sizeOf3 ?_
            refine O_loadS hS rfl rfl rfl rfl rfl Tryd.isAgg3 (by repeat (first | exact .here rfl | apply CellAt.there)) (by trivial) ?_
            refine O_cmp rfl rfl rfl rfl rfl rfl rfl ?_
            refine O_pickF rfl rfl rfl rfl rfl rfl ?_
            refine R_nil ?_
            refine tn ?_
            refine F_false rfl (decide_eq_false (by omega)) ?_
            refine F_skip ?_
            refine bn ?_
            refine tn ?_
            refine F_region (p := ⟨_, [0, 0], []⟩) rfl [0, 1] rfl ?_
            refine O_addN rfl rfl rfl rfl rfl rfl (by first | omega | (dsimp only; omega)) ?_
            refine O_move rfl rfl rfl rfl rfl ?_
            refine R_nil ?_
            replace hS := hS.u2
            replace hS := hS.to (congrArg (fun v => vatP E_ii O_ii E_si O_si 74 109 114 pva v * _) (show ({ VV st.1 st.2 with many := st.1 + (1 : Int), sum := st.2 + x.tmod 1000000000000000000 * (1 : Int) } : VatS) = (VV (st.1 + (q : Nat)) (st.2 + x.tmod 1000000000000000000 * (q : Nat))) by rw [← hq]))
            replace hS := hS.u3
            replace hS := hS.u3
            replace hS := hS.sp1.drop
            replace hS := hS.sp1.drop
            replace hS := hS.sp1.drop
            replace hS := hS.u4.u2.u3.u4
            refine tn ⟨rfl, rfl, (st.1 + q, st.2 + x.tmod 1000000000000000000 * q), Sup.app ⟨rfl, rfl, rfl, rfl, rfl, trivial⟩ ⟨congrArg (fun z : Nat => some (Value.int .i64 z)) (show pre.length + 1 = (pre ++ [x]).length by simp), trivial⟩, ⟨by simp only [List.length_append, List.length_singleton]; omega, by simp only [List.length_append, List.length_singleton]; omega⟩, hS.g2⟩
end Go.Proofs.YtpnigaoibhogfaaDoor
