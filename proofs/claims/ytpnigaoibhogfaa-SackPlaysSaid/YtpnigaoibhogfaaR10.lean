/- YtpnigaoibhogfaaR10: a part of the proof: walks over the translated code, and plain facts on lists beside. -/
import Derived.Test.YtpnigaoibhogfaaR8
set_option linter.all false
namespace Go.Proofs.Ytpnigaoibhogfaa
open Go Go.RowKit Go.Sl
set_option linter.unusedVariables false
abbrev opE : Int × Int → List Value := fun p => [eI p.1, eI p.2]
theorem sackPlays_walk {W : World} {a1 : Option Addr} {n1 c1 : Nat} {ops : List (Int × Int)} {room q : Int} (h1 : RdW W a1 (ops.flatMap opE)) (hn1 : ops.length = n1) (e1 : n1 ≤ 9223372036854775807) :
    Calls Try.prog 3 #[.int .i64 room, .slice a1 n1 c1, .int .u8 q] W (ret fun u w' => u = .bool true ∧ Sat W (whole W * hemp) w') := by
  have hS : Sat W (whole W * hemp) W := (Sat.start W).to (star_hemp _).symm
  have hA1 := whole_rds h1
  generalize hemp = R at hS ⊢
  obtain ⟨w0, hw0⟩ : ∃ w0, w0 = W := ⟨_, rfl⟩
  rw [← hw0] at hS ⊢
  rw [← hw0] at hA1
  obtain ⟨w, hw⟩ : ∃ w, w = w0 := ⟨_, rfl⟩
  have hS : Sat w0 (whole w0 * R) w := hw ▸ hS
  rw [show Calls Try.prog 3 #[.int .i64 room, .slice a1 n1 c1, .int .u8 q] w0 = Calls Try.prog 3 #[.int .i64 room, .slice a1 n1 c1, .int .u8 q] w by rw [hw]]
  clear hw
  by_cases hlong : 100 < (n1 : Int)
  ·
    refine enterF (args := [_, _, _]) Try.func3 rfl Try.ntmps3 rfl rfl ?_
    refine F_seq ?_
    refine F_region (p := ⟨_, [0], []⟩) rfl [0] rfl ?_
    refine O_assign rfl rfl rfl rfl rfl ?_
    refine R_nil ?_
    refine tn ?_
    refine F_seq ?_
    refine F_seq ?_
    refine F_region (p := ⟨_, [2, 0, 0, 0, 0, 0, 0], []⟩) rfl [0, 1, 2, 3, 4, 5, 6] rfl ?_
    refine O_call rfl rfl rfl rfl Try.call8 rfl (awake_ii hS) (fun _ _ hv => trivial) ?_
    rintro _ w ⟨rfl, hS⟩
    refine O_not rfl rfl rfl rfl rfl ?_
    refine O_move rfl rfl rfl rfl rfl ?_
    refine R_caseF (t := 17) rfl rfl ?_
    refine O_move rfl rfl rfl rfl rfl ?_
    refine O_lenSl rfl rfl rfl rfl rfl Try.runUnderlying22 ?_
    refine O_cmp rfl rfl rfl rfl rfl rfl rfl ?_
    refine O_pickF rfl rfl rfl rfl rfl rfl ?_
    refine R_nil ?_
    refine tn ?_
    refine F_true rfl (decide_eq_true (by omega)) ?_
    refine F_seq ?_
    refine F_region (p := ⟨_, [2, 0], []⟩) rfl [0, 1] rfl ?_
    refine O_call rfl rfl rfl rfl Try.call8 rfl (awake_ii hS) (fun _ _ hv => trivial) ?_
    rintro _ w ⟨rfl, hS⟩
    refine O_assign rfl rfl rfl rfl rfl ?_
    refine R_nil ?_
    refine tn ?_
    refine F_ret ?_
    refine tr ?_
    show endF _ _ _ _ _ _
    refine end0 trivial rfl rfl rfl hS ?_
    intro w hS
    exact ⟨rfl, hS⟩
  by_cases hlo : room < 0
  ·
    refine enterF (args := [_, _, _]) Try.func3 rfl Try.ntmps3 rfl rfl ?_
    refine F_seq ?_
    refine F_region (p := ⟨_, [0], []⟩) rfl [0] rfl ?_
    refine O_assign rfl rfl rfl rfl rfl ?_
    refine R_nil ?_
    refine tn ?_
    refine F_seq ?_
    refine F_seq ?_
    refine F_region (p := ⟨_, [2, 0, 0, 0, 0, 0, 0], []⟩) rfl [0, 1, 2, 3, 4, 5, 6] rfl ?_
    refine O_call rfl rfl rfl rfl Try.call8 rfl (awake_ii hS) (fun _ _ hv => trivial) ?_
    rintro _ w ⟨rfl, hS⟩
    refine O_not rfl rfl rfl rfl rfl ?_
    refine O_move rfl rfl rfl rfl rfl ?_
    refine R_caseF (t := 17) rfl rfl ?_
    refine O_move rfl rfl rfl rfl rfl ?_
    refine O_lenSl rfl rfl rfl rfl rfl Try.runUnderlying22 ?_
    refine O_cmp rfl rfl rfl rfl rfl rfl rfl ?_
    refine O_pickF rfl rfl rfl rfl rfl rfl ?_
    refine R_nil ?_
    refine tn ?_
    refine F_false rfl (decide_eq_false (by omega)) ?_
    refine F_skip ?_
    refine tn ?_
    refine F_seq ?_
    refine F_region (p := ⟨_, [0, 2, 0, 0, 0, 0, 0], []⟩) rfl [0, 1, 2, 3, 4, 5, 6] rfl ?_
    refine O_move rfl rfl rfl rfl rfl ?_
    refine O_call rfl rfl rfl rfl Try.call9 rfl (sNew_bad_ii (by omega) hS) (fun _ _ hv => trivial) ?_
    rintro _ w ⟨rfl, hS⟩
    refine O_move rfl rfl rfl rfl rfl ?_
    refine O_extract rfl rfl rfl rfl rfl rfl ?_
    refine O_extract rfl rfl rfl rfl rfl rfl ?_
    refine O_assign rfl rfl rfl rfl rfl ?_
    refine O_assign rfl rfl rfl rfl rfl ?_
    refine R_nil ?_
    refine tn ?_
    refine F_seq ?_
    refine F_seq ?_
    refine F_region (p := ⟨_, [0, 0, 0, 0, 0, 0], []⟩) rfl [0, 1, 2, 3, 4, 5] rfl ?_
    refine O_move rfl rfl rfl rfl rfl ?_
    refine O_cmp rfl rfl rfl rfl rfl rfl rfl ?_
    refine O_move rfl rfl rfl rfl rfl ?_
    refine R_caseT (t := 30) rfl (decide_eq_true (by omega)) ?_
    refine R_skip rfl rfl rfl rfl ?_
    refine R_skip rfl rfl rfl rfl ?_
    refine O_pickT rfl rfl rfl rfl rfl rfl ?_
    refine R_nil ?_
    refine tn ?_
    refine F_true rfl rfl ?_
    refine F_seq ?_
    refine F_region (p := ⟨_, [0, 0, 0, 0, 0, 0, 0], []⟩) rfl [0, 1, 2, 3, 4, 5, 6] rfl ?_
    refine O_move rfl rfl rfl rfl rfl ?_
    refine O_cmp rfl rfl rfl rfl rfl rfl rfl ?_
    refine O_move rfl rfl rfl rfl rfl ?_
    refine R_caseT (t := 36) rfl rfl ?_
    refine O_move rfl rfl rfl rfl rfl ?_
    refine O_eqNil rfl rfl rfl rfl rfl rfl Try.runUnderlying24 ?_
    refine O_pickT rfl rfl rfl rfl rfl rfl ?_
    refine O_assign rfl rfl rfl rfl rfl ?_
    refine R_nil ?_
    refine tn ?_
    refine F_ret ?_
    refine tr ?_
    show endF _ _ _ _ _ _
    refine end0 trivial rfl rfl rfl hS ?_
    intro w hS
    exact ⟨rfl, hS⟩
  by_cases hhi : 1000 < room
  ·
    refine enterF (args := [_, _, _]) Try.func3 rfl Try.ntmps3 rfl rfl ?_
    refine F_seq ?_
    refine F_region (p := ⟨_, [0], []⟩) rfl [0] rfl ?_
    refine O_assign rfl rfl rfl rfl rfl ?_
    refine R_nil ?_
    refine tn ?_
    refine F_seq ?_
    refine F_seq ?_
    refine F_region (p := ⟨_, [2, 0, 0, 0, 0, 0, 0], []⟩) rfl [0, 1, 2, 3, 4, 5, 6] rfl ?_
    refine O_call rfl rfl rfl rfl Try.call8 rfl (awake_ii hS) (fun _ _ hv => trivial) ?_
    rintro _ w ⟨rfl, hS⟩
    refine O_not rfl rfl rfl rfl rfl ?_
    refine O_move rfl rfl rfl rfl rfl ?_
    refine R_caseF (t := 17) rfl rfl ?_
    refine O_move rfl rfl rfl rfl rfl ?_
    refine O_lenSl rfl rfl rfl rfl rfl Try.runUnderlying22 ?_
    refine O_cmp rfl rfl rfl rfl rfl rfl rfl ?_
    refine O_pickF rfl rfl rfl rfl rfl rfl ?_
    refine R_nil ?_
    refine tn ?_
    refine F_false rfl (decide_eq_false (by omega)) ?_
    refine F_skip ?_
    refine tn ?_
    refine F_seq ?_
    refine F_region (p := ⟨_, [0, 2, 0, 0, 0, 0, 0], []⟩) rfl [0, 1, 2, 3, 4, 5, 6] rfl ?_
    refine O_move rfl rfl rfl rfl rfl ?_
    refine O_call rfl rfl rfl rfl Try.call9 rfl (sNew_bad_ii (by omega) hS) (fun _ _ hv => trivial) ?_
    rintro _ w ⟨rfl, hS⟩
    refine O_move rfl rfl rfl rfl rfl ?_
    refine O_extract rfl rfl rfl rfl rfl rfl ?_
    refine O_extract rfl rfl rfl rfl rfl rfl ?_
    refine O_assign rfl rfl rfl rfl rfl ?_
    refine O_assign rfl rfl rfl rfl rfl ?_
    refine R_nil ?_
    refine tn ?_
    refine F_seq ?_
    refine F_seq ?_
    refine F_region (p := ⟨_, [0, 0, 0, 0, 0, 0], []⟩) rfl [0, 1, 2, 3, 4, 5] rfl ?_
    refine O_move rfl rfl rfl rfl rfl ?_
    refine O_cmp rfl rfl rfl rfl rfl rfl rfl ?_
    refine O_move rfl rfl rfl rfl rfl ?_
    refine R_caseF (t := 30) rfl (decide_eq_false (by omega)) ?_
    refine O_move rfl rfl rfl rfl rfl ?_
    refine O_cmp rfl rfl rfl rfl rfl rfl rfl ?_
    refine O_pickF rfl rfl rfl rfl rfl rfl ?_
    refine R_nil ?_
    refine tn ?_
    refine F_true rfl (decide_eq_true (by omega)) ?_
    refine F_seq ?_
    refine F_region (p := ⟨_, [0, 0, 0, 0, 0, 0, 0], []⟩) rfl [0, 1, 2, 3, 4, 5, 6] rfl ?_
    refine O_move rfl rfl rfl rfl rfl ?_
    refine O_cmp rfl rfl rfl rfl rfl rfl rfl ?_
    refine O_move rfl rfl rfl rfl rfl ?_
    refine R_caseT (t := 36) rfl rfl ?_
    refine O_move rfl rfl rfl rfl rfl ?_
    refine O_eqNil rfl rfl rfl rfl rfl rfl Try.runUnderlying24 ?_
    refine O_pickT rfl rfl rfl rfl rfl rfl ?_
    refine O_assign rfl rfl rfl rfl rfl ?_
    refine R_nil ?_
    refine tn ?_
    refine F_ret ?_
    refine tr ?_
    show endF _ _ _ _ _ _
    refine end0 trivial rfl rfl rfl hS ?_
    intro w hS
    exact ⟨rfl, hS⟩
  ·
    refine enterF (args := [_, _, _]) Try.func3 rfl Try.ntmps3 rfl rfl ?_
    refine F_seq ?_
    refine F_region (p := ⟨_, [0], []⟩) rfl [0] rfl ?_
    refine O_assign rfl rfl rfl rfl rfl ?_
    refine R_nil ?_
    refine tn ?_
    refine F_seq ?_
    refine F_seq ?_
    refine F_region (p := ⟨_, [2, 0, 0, 0, 0, 0, 0], []⟩) rfl [0, 1, 2, 3, 4, 5, 6] rfl ?_
    refine O_call rfl rfl rfl rfl Try.call8 rfl (awake_ii hS) (fun _ _ hv => trivial) ?_
    rintro _ w ⟨rfl, hS⟩
    refine O_not rfl rfl rfl rfl rfl ?_
    refine O_move rfl rfl rfl rfl rfl ?_
    refine R_caseF (t := 17) rfl rfl ?_
    refine O_move rfl rfl rfl rfl rfl ?_
    refine O_lenSl rfl rfl rfl rfl rfl Try.runUnderlying22 ?_
    refine O_cmp rfl rfl rfl rfl rfl rfl rfl ?_
    refine O_pickF rfl rfl rfl rfl rfl rfl ?_
    refine R_nil ?_
    refine tn ?_
    refine F_false rfl (decide_eq_false (by omega)) ?_
    refine F_skip ?_
    refine tn ?_
    refine F_seq ?_
    refine F_region (p := ⟨_, [0, 2, 0, 0, 0, 0, 0], []⟩) rfl [0, 1, 2, 3, 4, 5, 6] rfl ?_
    refine O_move rfl rfl rfl rfl rfl ?_
    refine O_call rfl rfl rfl rfl Try.call9 rfl (sNew_ii (by omega) (by omega) hS) (fun _ _ hv => trivial) ?_
    rintro _ w ⟨sb, rfl, hS⟩
    refine O_move rfl rfl rfl rfl rfl ?_
    refine O_extract rfl rfl rfl rfl rfl rfl ?_
    refine O_extract rfl rfl rfl rfl rfl rfl ?_
    refine O_assign rfl rfl rfl rfl rfl ?_
    refine O_assign rfl rfl rfl rfl rfl ?_
    refine R_nil ?_
    refine tn ?_
    refine F_seq ?_
    refine F_seq ?_
    refine F_region (p := ⟨_, [0, 0, 0, 0, 0, 0], []⟩) rfl [0, 1, 2, 3, 4, 5] rfl ?_
    refine O_move rfl rfl rfl rfl rfl ?_
    refine O_cmp rfl rfl rfl rfl rfl rfl rfl ?_
    refine O_move rfl rfl rfl rfl rfl ?_
    refine R_caseF (t := 30) rfl (decide_eq_false (by omega)) ?_
    refine O_move rfl rfl rfl rfl rfl ?_
    refine O_cmp rfl rfl rfl rfl rfl rfl rfl ?_
    refine O_pickF rfl rfl rfl rfl rfl rfl ?_
    refine R_nil ?_
    refine tn ?_
    refine F_false rfl (decide_eq_false (by omega)) ?_
    refine F_skip ?_
    refine tn ?_
    refine F_seq ?_
    refine F_seq ?_
    refine F_region (p := ⟨_, [0, 0, 0, 0, 0, 0], []⟩) rfl [0, 1, 2, 3, 4, 5] rfl ?_
    refine O_move rfl rfl rfl rfl rfl ?_
    refine O_cmp rfl rfl rfl rfl rfl rfl rfl ?_
    refine O_move rfl rfl rfl rfl rfl ?_
    refine R_caseF (t := 42) rfl rfl ?_
    refine O_move rfl rfl rfl rfl rfl ?_
    refine O_eqNil rfl rfl rfl rfl rfl rfl Try.runUnderlying24 ?_
    refine O_pickF rfl rfl rfl rfl rfl rfl ?_
    refine R_nil ?_
    refine tn ?_
    refine F_false rfl rfl ?_
    refine F_skip ?_
    refine tn ?_
    refine F_seq ?_
    refine F_region (p := ⟨_, [0], []⟩) rfl [0] rfl ?_
    refine O_assign rfl rfl rfl rfl rfl ?_
    refine R_nil ?_
    refine tn ?_
    refine F_seq ?_
    refine F_seq ?_
    refine F_region (p := ⟨_, [0, 0, 0], []⟩) rfl [0, 1, 2] rfl ?_
    refine O_move rfl rfl rfl rfl rfl ?_
    refine O_lenSl rfl rfl rfl rfl rfl Try.runUnderlying22 ?_
    refine O_move rfl rfl rfl rfl rfl ?_
    refine R_nil ?_
    refine tn ?_
    refine F_block ?_
    refine F_loop3 (fun (pre _ : List (Int × Int)) (v : Value) => [(0, .int .i64 room), (2, .int .u8 q), (7, .pointer (some ⟨sb, 0, none⟩)), (9, v), (46, .slice a1 n1 c1), (47, .int .i64 n1), (48, .int .i64 (pre.length : Nat))]) (fun pre post v w => ops = pre ++ post ∧ ∃ es, Sat w0 (sackP E_ii O_ii 81 sb es room * (sl 3 1 v (expand es).length ((expand es).map eI) * (whole w0 * R))) w) (fun _ post _ => post.length) [] ops (.slice none 0 0) ⟨rfl, rfl, rfl, rfl, rfl, rfl, rfl, trivial⟩ ⟨rfl, [], (sl_nil (e := 3) (size := 1) hS).b2⟩ ?_
    clear hS
    rintro pre post v w ⟨hx, es, hS⟩
    have hlp : pre.length + post.length = n1 := by rw [← hn1, hx, List.length_append]
    obtain ⟨_, hw, hs, ht, hr, _⟩ := sackP_open hS
    have hlen := len_expand hw
    have h0 := tot0 hw
    obtain ⟨ad, cap, rfl, _, _, _⟩ := sl_form hS.b2
    rcases post with _ | ⟨x, post⟩
    · simp only [List.length_nil, Nat.add_zero] at hlp
      rw [List.append_nil] at hx
      subst hx
      refine F_seq ?_
      refine F_region (p := ⟨_, [0], []⟩) rfl [0] rfl ?_
      refine O_cmp rfl rfl rfl rfl rfl rfl rfl ?_
      refine R_nil ?_
      refine tn ?_
      refine F_seq ?_
      refine F_false rfl (decide_eq_false (by omega)) ?_
      refine F_exit ?_
      refine tx ?_
      refine tx ?_
      refine Go.Sl.bx rfl ?_
      refine tn ?_
      refine F_seq ?_
      refine F_region (p := ⟨_, [0, 2, 0, 2, 0, 0, 2, 0, 0, 0, 0, 2, 0, 0], []⟩) rfl [0, 1, 2, 3, 4, 5, 6, 7, 8, 9, 10, 11, 12, 13] rfl ?_
      refine O_move rfl rfl rfl rfl rfl ?_
      refine O_call rfl rfl rfl rfl Try.call20 rfl (sAll_ii ⟨sb, rfl⟩ hS) (fun _ _ hv => trivial) ?_
      rintro _ w ⟨bx1, rfl, hS⟩
      replace hS : Sat w0 (pt bx1 (.cells #[.pointer (some ⟨sb, 0, none⟩)] 24) * (sackP E_ii O_ii 81 sb es room * (sl 3 1 (.slice ad (expand es).length cap) ((expand es)).length (((expand es)).map eI) * (whole w0 * R)))) w := hS
      refine O_move rfl rfl rfl rfl rfl ?_
      replace hS : Sat w0 ((pt bx1 (.cells #[.pointer (some ⟨sb, 0, none⟩)] 24) * sackP E_ii O_ii 81 sb es room) * (sl 3 1 (.slice ad (expand es).length cap) ((expand es)).length (((expand es)).map eI) * (whole w0 * R))) w := hS.to (by ac_rfl)
      refine O_call rfl rfl rfl rfl Try.call19 rfl (has_ii (sall_ii_iter) sl_rds rfl (by omega) hS) (fun _ _ hv => trivial) ?_
      rintro _ w ⟨rfl, hS⟩
      replace hS : Sat w0 (sackP E_ii O_ii 81 sb es room * (sl 3 1 (.slice ad (expand es).length cap) ((expand es)).length (((expand es)).map eI) * (whole w0 * R))) w := Sat.drop (A := pt bx1 (.cells #[.pointer (some ⟨sb, 0, none⟩)] 24)) (hS.to (by ac_rfl))
      refine O_move rfl rfl rfl rfl rfl ?_
      refine R_caseT (t := 141) rfl rfl ?_
      refine O_move rfl rfl rfl rfl rfl ?_
      refine O_call rfl rfl rfl rfl Try.call20 rfl (sAll_ii ⟨sb, rfl⟩ hS) (fun _ _ hv => trivial) ?_
      rintro _ w ⟨bx2, rfl, hS⟩
      replace hS : Sat w0 (pt bx2 (.cells #[.pointer (some ⟨sb, 0, none⟩)] 24) * (sackP E_ii O_ii 81 sb es room * (sl 3 1 (.slice ad (expand es).length cap) ((expand es)).length (((expand es)).map eI) * (whole w0 * R)))) w := hS
      refine O_move rfl rfl rfl rfl rfl ?_
      refine O_move rfl rfl rfl rfl rfl ?_
      refine O_rem rfl rfl rfl rfl rfl rfl (by decide) ?_
      refine O_convInt rfl rfl rfl rfl (fun w => ⟨_, Try.runUnderlying5 w⟩) Try.runUnderlying3 rfl ?_
      replace hS : Sat w0 ((pt bx2 (.cells #[.pointer (some ⟨sb, 0, none⟩)] 24) * sackP E_ii O_ii 81 sb es room) * (sl 3 1 (.slice ad (expand es).length cap) ((expand es)).length (((expand es)).map eI) * (whole w0 * R))) w := hS.to (by ac_rfl)
      refine O_call rfl rfl rfl rfl Try.call19 rfl (has_ii (sall_ii_iter) sl_rds rfl (by omega) hS) (fun _ _ hv => trivial) ?_
      rintro _ w ⟨rfl, hS⟩
      replace hS : Sat w0 (sackP E_ii O_ii 81 sb es room * (sl 3 1 (.slice ad (expand es).length cap) ((expand es)).length (((expand es)).map eI) * (whole w0 * R))) w := Sat.drop (A := pt bx2 (.cells #[.pointer (some ⟨sb, 0, none⟩)] 24)) (hS.to (by ac_rfl))
      refine O_pickT rfl rfl rfl rfl rfl rfl ?_
      refine O_assign rfl rfl rfl rfl rfl ?_
      refine R_nil ?_
      refine tn ?_
      refine F_ret ?_
      replace hS : Sat w0 (whole w0 * R) w := Sat.drop (A := sackP E_ii O_ii 81 sb es room * sl 3 1 (.slice ad (expand es).length cap) ((expand es)).length (((expand es)).map eI)) (hS.to (by ac_rfl))
      show endF _ _ _ _ _ _
      refine end0 trivial rfl rfl rfl hS ?_
      intro w hS
      exact ⟨rfl, hS⟩
    · simp only [List.length_cons] at hlp
      obtain ⟨kd, ky⟩ := x
      obtain ⟨eb, eo, had, hcell⟩ := elK (enc := opE) (k := 2) (m := pre.length) (x := (kd, ky)) (fun _ => rfl) (by decide) (hA1 _ (sackP E_ii O_ii 81 sb es room * (sl 3 1 (.slice ad (expand es).length cap) ((expand es)).length (((expand es)).map eI) * R)) _ (hS.to (by ac_rfl))) (by rw [hx]; simp)
      by_cases hk1 : kd = 1
      · by_cases hfull : room ≤ ((expand es).length : Int)
        · refine F_seq ?_
          refine F_region (p := ⟨_, [0], []⟩) rfl [0] rfl ?_
          refine O_cmp rfl rfl rfl rfl rfl rfl rfl ?_
          refine R_nil ?_
          refine tn ?_
          refine F_seq ?_
          refine F_true rfl (decide_eq_true (by omega)) ?_
          refine F_skip ?_
          refine tn ?_
          refine F_seq ?_
          refine F_block ?_
          refine F_seq ?_
          refine F_region (p := ⟨_, [0, 1, 2, 2], []⟩) rfl [0, 1, 2, 3] rfl ?_
          refine O_indexSlE (m := pre.length) rfl rfl rfl rfl Try.runUnderlying22 Try.sizeOf30 rfl had rfl rfl (by omega) ?_
          refine O_loadAgg [eI kd, eI ky] rfl rfl rfl rfl rfl Try.isAgg30 Try.sizeOf30 rfl hcell (by trivial) ?_
          replace hS := hS.noblks
          refine O_allocS hS rfl rfl rfl rfl Try.zeroValue30 (fun _ _ hv => trivial) ?_
          intro b1 w hS
          refine O_storeAgg (cs := [eI kd, eI ky]) hS rfl rfl rfl rfl rfl rfl Try.sizeOf30 rfl (Nat.le_refl 2) (by simp [one]) (fun _ _ => trivial) ?_
          intro w hS
          replace hS : Sat w0 (blks [(b1, .cells #[eI kd, eI ky] 30 (0, 0))] * (sackP E_ii O_ii 81 sb es room * (sl 3 1 (.slice ad (expand es).length cap) ((expand es)).length (((expand es)).map eI) * (whole w0 * R)))) w := hS
          refine R_nil ?_
          refine tn ?_
          refine F_seq ?_
          refine F_region (p := ⟨_, [0], []⟩) rfl [0] rfl ?_
          refine O_assign rfl rfl rfl rfl rfl ?_
          refine R_nil ?_
          refine tn ?_
          refine F_seq ?_
          refine F_seq ?_
          refine F_region (p := ⟨_, [0, 1], []⟩) rfl [0, 1] rfl ?_
          refine O_fieldAddr rfl rfl rfl rfl rfl Try.runUnderlying30 rfl Try.sizeOf3 ?_
          replace hS : Sat w0 (blks [(b1, .cells #[eI kd, eI ky] 30 (0, 0))] * (sackP E_ii O_ii 81 sb es room * (sl 3 1 (.slice ad (expand es).length cap) ((expand es)).length (((expand es)).map eI) * (whole w0 * R)))) w := hS.to (by ac_rfl)
          refine O_loadS hS rfl rfl rfl rfl rfl Try.isAgg3 (by first | exact .here rfl | exact .there (.here rfl) | exact .there (.there (.here rfl)) | exact .there (.there (.there (.here rfl))) | exact .there (.there (.there (.there (.here rfl)))) | exact .there (.there (.there (.there (.there (.here rfl))))) | exact .there (.there (.there (.there (.there (.there (.here rfl)))))) | exact .there (.there (.there (.there (.there (.there (.there (.here rfl))))))) | exact .there (.there (.there (.there (.there (.there (.there (.there (.here rfl))))))))) (by trivial) ?_
          refine R_nil ?_
          refine tn ?_
          refine F_block ?_
          refine F_seq ?_
          refine F_region (p := ⟨_, [0, 0], []⟩) rfl [0, 1] rfl ?_
          refine O_cmp rfl rfl rfl rfl rfl rfl rfl ?_
          refine O_assign rfl rfl rfl rfl rfl ?_
          refine R_nil ?_
          refine tn ?_
          refine F_true rfl (decide_eq_true (by omega)) ?_
          refine F_seq ?_
          refine F_seq ?_
          refine F_region (p := ⟨_, [0, 0, 0, 0], []⟩) rfl [0, 1, 2, 3] rfl ?_
          refine O_move rfl rfl rfl rfl rfl ?_
          refine O_lenSl rfl rfl rfl rfl rfl Try.runUnderlying28 ?_
          refine O_move rfl rfl rfl rfl rfl ?_
          refine O_cmp rfl rfl rfl rfl rfl rfl rfl ?_
          refine R_nil ?_
          refine tn ?_
          refine F_true rfl (decide_eq_true (by omega)) ?_
          refine F_region (p := ⟨_, [0], []⟩) rfl [0] rfl ?_
          refine O_assign rfl rfl rfl rfl rfl ?_
          refine R_nil ?_
          refine tn ?_
          refine F_seq ?_
          refine F_region (p := ⟨_, [0, 0, 1, 2, 0, 0], []⟩) rfl [0, 1, 2, 3, 4, 5] rfl ?_
          refine O_move rfl rfl rfl rfl rfl ?_
          refine O_fieldAddr rfl rfl rfl rfl rfl Try.runUnderlying30 rfl Try.sizeOf3 ?_
          replace hS : Sat w0 (blks [(b1, .cells #[eI kd, eI ky] 30 (0, 0))] * (sackP E_ii O_ii 81 sb es room * (sl 3 1 (.slice ad (expand es).length cap) ((expand es)).length (((expand es)).map eI) * (whole w0 * R)))) w := hS.to (by ac_rfl)
          refine O_loadS hS rfl rfl rfl rfl rfl Try.isAgg3 (by first | exact .here rfl | exact .there (.here rfl) | exact .there (.there (.here rfl)) | exact .there (.there (.there (.here rfl))) | exact .there (.there (.there (.there (.here rfl)))) | exact .there (.there (.there (.there (.there (.here rfl))))) | exact .there (.there (.there (.there (.there (.there (.here rfl)))))) | exact .there (.there (.there (.there (.there (.there (.there (.here rfl))))))) | exact .there (.there (.there (.there (.there (.there (.there (.there (.here rfl))))))))) (by trivial) ?_
          replace hS : Sat w0 (sackP E_ii O_ii 81 sb es room * (blks [(b1, .cells #[eI kd, eI ky] 30 (0, 0))] * (sl 3 1 (.slice ad (expand es).length cap) ((expand es)).length (((expand es)).map eI) * (whole w0 * R)))) w := hS.to (by ac_rfl)
          refine O_call rfl rfl rfl rfl Try.call11 rfl (sAdd_ii ky hS) (fun _ _ hv => trivial) ?_
          rintro _ w (⟨rfl, hno, hS⟩ | ⟨rfl, hyes, hS⟩)
          · refine O_move rfl rfl rfl rfl rfl ?_
            refine O_cmp rfl rfl rfl rfl rfl rfl rfl ?_
            refine R_nil ?_
            refine tn ?_
            refine F_false rfl rfl ?_
            refine F_skip ?_
            refine bn ?_
            refine tn ?_
            refine F_seq ?_
            refine F_drawnS hS (by kernel_rfl) (p := ⟨_, [0, 2, 0, 0, 0, 0, 0, 2, 0, 0, 0, 0, 0, 0, 0, 0, 0, 1, 2, 0, 0, 1, 2, 0, 0], [(18, 21)]⟩) rfl (.ofList [0, 1, 2, 3, 4, 5, 6, 7, 8, 9, 10, 11, 12, 13, 14, 15, 16, 17, 19, 20, 21, 18, 22, 23, 24]) (by kernel_rfl) ?_
            intro w hS
            refine O_move rfl rfl rfl rfl rfl ?_
            replace hS : Sat w0 (sackP E_ii O_ii 81 sb es room * (blks [(b1, .cells #[eI kd, eI ky] 30 (0, 0))] * (sl 3 1 (.slice ad (expand es).length cap) ((expand es)).length (((expand es)).map eI) * (whole w0 * R)))) w := hS.to (by ac_rfl)
            obtain ⟨_, hw2, hs2, ht2, hr2, _⟩ := sackP_open hS
            have hlen2 := len_expand hw2
            have hcnt : cnt O_ii ky es = cntR O_ii ky (expand es) := by rw [← cnt_expand hw2 hs2]
            refine O_call rfl rfl rfl rfl Try.call16 rfl (pLen_ii hS) (fun _ _ hv => trivial) ?_
            rintro _ w ⟨rfl, hS⟩
            refine O_move rfl rfl rfl rfl rfl ?_
            refine O_lenSl rfl rfl rfl rfl rfl Try.runUnderlying28 ?_
            refine O_cmp rfl rfl rfl rfl rfl rfl rfl ?_
            refine O_move rfl rfl rfl rfl rfl ?_
            refine R_caseF (t := 116) rfl (congrArg Bool.not (decide_eq_true (by omega))) ?_
            refine O_move rfl rfl rfl rfl rfl ?_
            replace hS : Sat w0 (sackP E_ii O_ii 81 sb es room * (blks [(b1, .cells #[eI kd, eI ky] 30 (0, 0))] * (sl 3 1 (.slice ad (expand es).length cap) ((expand es)).length (((expand es)).map eI) * (whole w0 * R)))) w := hS.to (by ac_rfl)
            refine O_call rfl rfl rfl rfl Try.call17 rfl (pRoom_ii hS) (fun _ _ hv => trivial) ?_
            rintro _ w ⟨rfl, hS⟩
            refine O_move rfl rfl rfl rfl rfl ?_
            refine O_move rfl rfl rfl rfl rfl ?_
            refine O_lenSl rfl rfl rfl rfl rfl Try.runUnderlying28 ?_
            refine O_subN rfl rfl rfl rfl rfl rfl (by omega) ?_
            refine O_cmp rfl rfl rfl rfl rfl rfl rfl ?_
            refine O_pickF rfl rfl rfl rfl rfl rfl ?_
            refine O_move rfl rfl rfl rfl rfl ?_
            refine R_caseF (t := 125) rfl (congrArg Bool.not (decide_eq_true (by omega))) ?_
            refine O_move rfl rfl rfl rfl rfl ?_
            refine O_fieldAddr rfl rfl rfl rfl rfl Try.runUnderlying30 rfl Try.sizeOf3 ?_
            replace hS : Sat w0 (blks [(b1, .cells #[eI kd, eI ky] 30 (0, 0))] * (sackP E_ii O_ii 81 sb es room * (sl 3 1 (.slice ad (expand es).length cap) ((expand es)).length (((expand es)).map eI) * (whole w0 * R)))) w := hS.to (by ac_rfl)
            refine O_loadS hS rfl rfl rfl rfl rfl Try.isAgg3 (by first | exact .here rfl | exact .there (.here rfl) | exact .there (.there (.here rfl)) | exact .there (.there (.there (.here rfl))) | exact .there (.there (.there (.there (.here rfl)))) | exact .there (.there (.there (.there (.there (.here rfl))))) | exact .there (.there (.there (.there (.there (.there (.here rfl)))))) | exact .there (.there (.there (.there (.there (.there (.there (.here rfl))))))) | exact .there (.there (.there (.there (.there (.there (.there (.there (.here rfl))))))))) (by trivial) ?_
            refine O_move rfl rfl rfl rfl rfl ?_
            refine O_fieldAddr rfl rfl rfl rfl rfl Try.runUnderlying30 rfl Try.sizeOf3 ?_
            replace hS : Sat w0 (blks [(b1, .cells #[eI kd, eI ky] 30 (0, 0))] * (sackP E_ii O_ii 81 sb es room * (sl 3 1 (.slice ad (expand es).length cap) ((expand es)).length (((expand es)).map eI) * (whole w0 * R)))) w := hS.to (by ac_rfl)
            refine O_loadS hS rfl rfl rfl rfl rfl Try.isAgg3 (by first | exact .here rfl | exact .there (.here rfl) | exact .there (.there (.here rfl)) | exact .there (.there (.there (.here rfl))) | exact .there (.there (.there (.there (.here rfl)))) | exact .there (.there (.there (.there (.there (.here rfl))))) | exact .there (.there (.there (.there (.there (.there (.here rfl)))))) | exact .there (.there (.there (.there (.there (.there (.there (.here rfl))))))) | exact .there (.there (.there (.there (.there (.there (.there (.there (.here rfl))))))))) (by trivial) ?_
            replace hS : Sat w0 (sackP E_ii O_ii 81 sb es room * (blks [(b1, .cells #[eI kd, eI ky] 30 (0, 0))] * (sl 3 1 (.slice ad (expand es).length cap) ((expand es)).length (((expand es)).map eI) * (whole w0 * R)))) w := hS.to (by ac_rfl)
            have hS_18 := hS
            refine O_call rfl rfl rfl rfl Try.call18 rfl (pMany_ii ky hS) (fun _ _ hv => ⟨CellAt.cell (by first | exact .here rfl | exact .there (.here rfl) | exact .there (.there (.here rfl)) | exact .there (.there (.there (.here rfl))) | exact .there (.there (.there (.there (.here rfl)))) | exact .there (.there (.there (.there (.there (.here rfl))))) | exact .there (.there (.there (.there (.there (.there (.here rfl)))))) | exact .there (.there (.there (.there (.there (.there (.there (.here rfl))))))) | exact .there (.there (.there (.there (.there (.there (.there (.there (.here rfl))))))))) (hv.2.b2), trivial⟩) ?_
            rintro _ w ⟨rfl, hS⟩
            replace hS : Sat w0 (sl 3 1 (.slice ad (expand es).length cap) ((expand es)).length (((expand es)).map eI) * (sackP E_ii O_ii 81 sb es room * (blks [(b1, .cells #[eI kd, eI ky] 30 (0, 0))] * (whole w0 * R)))) w := hS.to (by ac_rfl)
            refine O_call rfl rfl rfl rfl Try.call12 rfl (rMany_ii sl_rds rfl (by omega) ky hS) (fun _ _ hv => ⟨trivial, trivial⟩) ?_
            rintro _ w ⟨rfl, hS⟩
            refine O_cmp rfl rfl rfl rfl rfl rfl rfl ?_
            refine O_pickF rfl rfl rfl rfl rfl rfl ?_
            refine R_nil ?_
            refine tn ?_
            refine F_false rfl (congrArg Bool.not (decide_eq_true hcnt)) ?_
            refine F_skip ?_
            refine bn ?_
            refine tn ?_
            refine F_region (p := ⟨_, [0, 0], []⟩) rfl [0, 1] rfl ?_
            refine O_addN rfl rfl rfl rfl rfl rfl (by omega) ?_
            refine O_move rfl rfl rfl rfl rfl ?_
            refine R_nil ?_
            replace hS : Sat w0 (sl 3 1 (.slice ad (expand es).length cap) ((expand es)).length (((expand es)).map eI) * (sackP E_ii O_ii 81 sb es room * (whole w0 * R))) w := Sat.drop (A := blks [(b1, .cells #[eI kd, eI ky] 30 (0, 0))]) (hS.to (by ac_rfl))
            replace hS : Sat w0 (sackP E_ii O_ii 81 sb es room * (sl 3 1 (.slice ad (expand es).length cap) ((expand es)).length (((expand es)).map eI) * (whole w0 * R))) w := hS.to (by ac_rfl)
            refine tn ⟨rfl, rfl, (pre ++ [(kd, ky)], post, _), ⟨rfl, rfl, rfl, rfl, rfl, rfl, congrArg (fun z : Nat => some (Value.int .i64 z)) (show pre.length + 1 = (pre ++ [(kd, ky)]).length by simp), trivial⟩, ⟨by rw [hx]; simp, es, ?_⟩, Nat.lt_succ_self _⟩
            exact hS
          · exfalso
            omega
        · refine F_seq ?_
          refine F_region (p := ⟨_, [0], []⟩) rfl [0] rfl ?_
          refine O_cmp rfl rfl rfl rfl rfl rfl rfl ?_
          refine R_nil ?_
          refine tn ?_
          refine F_seq ?_
          refine F_true rfl (decide_eq_true (by omega)) ?_
          refine F_skip ?_
          refine tn ?_
          refine F_seq ?_
          refine F_block ?_
          refine F_seq ?_
          refine F_region (p := ⟨_, [0, 1, 2, 2], []⟩) rfl [0, 1, 2, 3] rfl ?_
          refine O_indexSlE (m := pre.length) rfl rfl rfl rfl Try.runUnderlying22 Try.sizeOf30 rfl had rfl rfl (by omega) ?_
          refine O_loadAgg [eI kd, eI ky] rfl rfl rfl rfl rfl Try.isAgg30 Try.sizeOf30 rfl hcell (by trivial) ?_
          replace hS := hS.noblks
          refine O_allocS hS rfl rfl rfl rfl Try.zeroValue30 (fun _ _ hv => trivial) ?_
          intro b1 w hS
          refine O_storeAgg (cs := [eI kd, eI ky]) hS rfl rfl rfl rfl rfl rfl Try.sizeOf30 rfl (Nat.le_refl 2) (by simp [one]) (fun _ _ => trivial) ?_
          intro w hS
          replace hS : Sat w0 (blks [(b1, .cells #[eI kd, eI ky] 30 (0, 0))] * (sackP E_ii O_ii 81 sb es room * (sl 3 1 (.slice ad (expand es).length cap) ((expand es)).length (((expand es)).map eI) * (whole w0 * R)))) w := hS
          refine R_nil ?_
          refine tn ?_
          refine F_seq ?_
          refine F_region (p := ⟨_, [0], []⟩) rfl [0] rfl ?_
          refine O_assign rfl rfl rfl rfl rfl ?_
          refine R_nil ?_
          refine tn ?_
          refine F_seq ?_
          refine F_seq ?_
          refine F_region (p := ⟨_, [0, 1], []⟩) rfl [0, 1] rfl ?_
          refine O_fieldAddr rfl rfl rfl rfl rfl Try.runUnderlying30 rfl Try.sizeOf3 ?_
          replace hS : Sat w0 (blks [(b1, .cells #[eI kd, eI ky] 30 (0, 0))] * (sackP E_ii O_ii 81 sb es room * (sl 3 1 (.slice ad (expand es).length cap) ((expand es)).length (((expand es)).map eI) * (whole w0 * R)))) w := hS.to (by ac_rfl)
          refine O_loadS hS rfl rfl rfl rfl rfl Try.isAgg3 (by first | exact .here rfl | exact .there (.here rfl) | exact .there (.there (.here rfl)) | exact .there (.there (.there (.here rfl))) | exact .there (.there (.there (.there (.here rfl)))) | exact .there (.there (.there (.there (.there (.here rfl))))) | exact .there (.there (.there (.there (.there (.there (.here rfl)))))) | exact .there (.there (.there (.there (.there (.there (.there (.here rfl))))))) | exact .there (.there (.there (.there (.there (.there (.there (.there (.here rfl))))))))) (by trivial) ?_
          refine R_nil ?_
          refine tn ?_
          refine F_block ?_
          refine F_seq ?_
          refine F_region (p := ⟨_, [0, 0], []⟩) rfl [0, 1] rfl ?_
          refine O_cmp rfl rfl rfl rfl rfl rfl rfl ?_
          refine O_assign rfl rfl rfl rfl rfl ?_
          refine R_nil ?_
          refine tn ?_
          refine F_true rfl (decide_eq_true (by omega)) ?_
          refine F_seq ?_
          refine F_seq ?_
          refine F_region (p := ⟨_, [0, 0, 0, 0], []⟩) rfl [0, 1, 2, 3] rfl ?_
          refine O_move rfl rfl rfl rfl rfl ?_
          refine O_lenSl rfl rfl rfl rfl rfl Try.runUnderlying28 ?_
          refine O_move rfl rfl rfl rfl rfl ?_
          refine O_cmp rfl rfl rfl rfl rfl rfl rfl ?_
          refine R_nil ?_
          refine tn ?_
          refine F_false rfl (decide_eq_false (by omega)) ?_
          refine F_region (p := ⟨_, [0, 0, 1, 2, 0], []⟩) rfl [0, 1, 2, 3, 4] rfl ?_
          refine O_move rfl rfl rfl rfl rfl ?_
          refine O_fieldAddr rfl rfl rfl rfl rfl Try.runUnderlying30 rfl Try.sizeOf3 ?_
          replace hS : Sat w0 (blks [(b1, .cells #[eI kd, eI ky] 30 (0, 0))] * (sackP E_ii O_ii 81 sb es room * (sl 3 1 (.slice ad (expand es).length cap) ((expand es)).length (((expand es)).map eI) * (whole w0 * R)))) w := hS.to (by ac_rfl)
          refine O_loadS hS rfl rfl rfl rfl rfl Try.isAgg3 (by first | exact .here rfl | exact .there (.here rfl) | exact .there (.there (.here rfl)) | exact .there (.there (.there (.here rfl))) | exact .there (.there (.there (.there (.here rfl)))) | exact .there (.there (.there (.there (.there (.here rfl))))) | exact .there (.there (.there (.there (.there (.there (.here rfl)))))) | exact .there (.there (.there (.there (.there (.there (.there (.here rfl))))))) | exact .there (.there (.there (.there (.there (.there (.there (.there (.here rfl))))))))) (by trivial) ?_
          replace hS : Sat w0 (sl 3 1 (.slice ad (expand es).length cap) ((expand es)).length (((expand es)).map eI) * (blks [(b1, .cells #[eI kd, eI ky] 30 (0, 0))] * (sackP E_ii O_ii 81 sb es room * (whole w0 * R)))) w := hS.to (by ac_rfl)
          refine O_call rfl rfl rfl rfl Try.call10 rfl (rAdd_ii (by omega) ky hS) (fun _ _ hv => trivial) ?_
          rintro v2 w hS
          obtain ⟨ad2, cap2, rfl, _, _, _⟩ := sl_form hS
          refine O_assign rfl rfl rfl rfl rfl ?_
          refine R_nil ?_
          refine tn ?_
          refine F_seq ?_
          refine F_region (p := ⟨_, [0, 0, 1, 2, 0, 0], []⟩) rfl [0, 1, 2, 3, 4, 5] rfl ?_
          refine O_move rfl rfl rfl rfl rfl ?_
          refine O_fieldAddr rfl rfl rfl rfl rfl Try.runUnderlying30 rfl Try.sizeOf3 ?_
          replace hS : Sat w0 (blks [(b1, .cells #[eI kd, eI ky] 30 (0, 0))] * (sl 3 1 (.slice ad2 ((insR O_ii ky (expand es))).length cap2) ((insR O_ii ky (expand es))).length (((insR O_ii ky (expand es))).map eI) * (sackP E_ii O_ii 81 sb es room * (whole w0 * R)))) w := hS.to (by ac_rfl)
          refine O_loadS hS rfl rfl rfl rfl rfl Try.isAgg3 (by first | exact .here rfl | exact .there (.here rfl) | exact .there (.there (.here rfl)) | exact .there (.there (.there (.here rfl))) | exact .there (.there (.there (.there (.here rfl)))) | exact .there (.there (.there (.there (.there (.here rfl))))) | exact .there (.there (.there (.there (.there (.there (.here rfl)))))) | exact .there (.there (.there (.there (.there (.there (.there (.here rfl))))))) | exact .there (.there (.there (.there (.there (.there (.there (.there (.here rfl))))))))) (by trivial) ?_
          replace hS : Sat w0 (sackP E_ii O_ii 81 sb es room * (blks [(b1, .cells #[eI kd, eI ky] 30 (0, 0))] * (sl 3 1 (.slice ad2 ((insR O_ii ky (expand es))).length cap2) ((insR O_ii ky (expand es))).length (((insR O_ii ky (expand es))).map eI) * (whole w0 * R)))) w := hS.to (by ac_rfl)
          refine O_call rfl rfl rfl rfl Try.call11 rfl (sAdd_ii ky hS) (fun _ _ hv => trivial) ?_
          rintro _ w (⟨rfl, hno, hS⟩ | ⟨rfl, hyes, hS⟩)
          · exfalso
            omega
          · have hx2 : expand (addE O_ii ky es) = insR O_ii ky (expand es) := addE_exp hw hs
            refine O_move rfl rfl rfl rfl rfl ?_
            refine O_cmp rfl rfl rfl rfl rfl rfl rfl ?_
            refine R_nil ?_
            refine tn ?_
            refine F_false rfl rfl ?_
            refine F_skip ?_
            refine bn ?_
            refine tn ?_
            refine F_seq ?_
            refine F_drawnS hS (by kernel_rfl) (p := ⟨_, [0, 2, 0, 0, 0, 0, 0, 2, 0, 0, 0, 0, 0, 0, 0, 0, 0, 1, 2, 0, 0, 1, 2, 0, 0], [(18, 21)]⟩) rfl (.ofList [0, 1, 2, 3, 4, 5, 6, 7, 8, 9, 10, 11, 12, 13, 14, 15, 16, 17, 19, 20, 21, 18, 22, 23, 24]) (by kernel_rfl) ?_
            intro w hS
            refine O_move rfl rfl rfl rfl rfl ?_
            replace hS : Sat w0 (sackP E_ii O_ii 81 sb (addE O_ii ky es) room * (blks [(b1, .cells #[eI kd, eI ky] 30 (0, 0))] * (sl 3 1 (.slice ad2 ((insR O_ii ky (expand es))).length cap2) ((insR O_ii ky (expand es))).length (((insR O_ii ky (expand es))).map eI) * (whole w0 * R)))) w := hS.to (by ac_rfl)
            obtain ⟨_, hw2, hs2, ht2, hr2, _⟩ := sackP_open hS
            have hlen2 := len_expand hw2
            rw [hx2] at hlen2
            have hcnt : cnt O_ii ky (addE O_ii ky es) = cntR O_ii ky (insR O_ii ky (expand es)) := by rw [← cnt_expand hw2 hs2, hx2]
            refine O_call rfl rfl rfl rfl Try.call16 rfl (pLen_ii hS) (fun _ _ hv => trivial) ?_
            rintro _ w ⟨rfl, hS⟩
            refine O_move rfl rfl rfl rfl rfl ?_
            refine O_lenSl rfl rfl rfl rfl rfl Try.runUnderlying28 ?_
            refine O_cmp rfl rfl rfl rfl rfl rfl rfl ?_
            refine O_move rfl rfl rfl rfl rfl ?_
            refine R_caseF (t := 116) rfl (congrArg Bool.not (decide_eq_true (by omega))) ?_
            refine O_move rfl rfl rfl rfl rfl ?_
            replace hS : Sat w0 (sackP E_ii O_ii 81 sb (addE O_ii ky es) room * (blks [(b1, .cells #[eI kd, eI ky] 30 (0, 0))] * (sl 3 1 (.slice ad2 ((insR O_ii ky (expand es))).length cap2) ((insR O_ii ky (expand es))).length (((insR O_ii ky (expand es))).map eI) * (whole w0 * R)))) w := hS.to (by ac_rfl)
            refine O_call rfl rfl rfl rfl Try.call17 rfl (pRoom_ii hS) (fun _ _ hv => trivial) ?_
            rintro _ w ⟨rfl, hS⟩
            refine O_move rfl rfl rfl rfl rfl ?_
            refine O_move rfl rfl rfl rfl rfl ?_
            refine O_lenSl rfl rfl rfl rfl rfl Try.runUnderlying28 ?_
            refine O_subN rfl rfl rfl rfl rfl rfl (by omega) ?_
            refine O_cmp rfl rfl rfl rfl rfl rfl rfl ?_
            refine O_pickF rfl rfl rfl rfl rfl rfl ?_
            refine O_move rfl rfl rfl rfl rfl ?_
            refine R_caseF (t := 125) rfl (congrArg Bool.not (decide_eq_true (by omega))) ?_
            refine O_move rfl rfl rfl rfl rfl ?_
            refine O_fieldAddr rfl rfl rfl rfl rfl Try.runUnderlying30 rfl Try.sizeOf3 ?_
            replace hS : Sat w0 (blks [(b1, .cells #[eI kd, eI ky] 30 (0, 0))] * (sackP E_ii O_ii 81 sb (addE O_ii ky es) room * (sl 3 1 (.slice ad2 ((insR O_ii ky (expand es))).length cap2) ((insR O_ii ky (expand es))).length (((insR O_ii ky (expand es))).map eI) * (whole w0 * R)))) w := hS.to (by ac_rfl)
            refine O_loadS hS rfl rfl rfl rfl rfl Try.isAgg3 (by first | exact .here rfl | exact .there (.here rfl) | exact .there (.there (.here rfl)) | exact .there (.there (.there (.here rfl))) | exact .there (.there (.there (.there (.here rfl)))) | exact .there (.there (.there (.there (.there (.here rfl))))) | exact .there (.there (.there (.there (.there (.there (.here rfl)))))) | exact .there (.there (.there (.there (.there (.there (.there (.here rfl))))))) | exact .there (.there (.there (.there (.there (.there (.there (.there (.here rfl))))))))) (by trivial) ?_
            refine O_move rfl rfl rfl rfl rfl ?_
            refine O_fieldAddr rfl rfl rfl rfl rfl Try.runUnderlying30 rfl Try.sizeOf3 ?_
            replace hS : Sat w0 (blks [(b1, .cells #[eI kd, eI ky] 30 (0, 0))] * (sackP E_ii O_ii 81 sb (addE O_ii ky es) room * (sl 3 1 (.slice ad2 ((insR O_ii ky (expand es))).length cap2) ((insR O_ii ky (expand es))).length (((insR O_ii ky (expand es))).map eI) * (whole w0 * R)))) w := hS.to (by ac_rfl)
            refine O_loadS hS rfl rfl rfl rfl rfl Try.isAgg3 (by first | exact .here rfl | exact .there (.here rfl) | exact .there (.there (.here rfl)) | exact .there (.there (.there (.here rfl))) | exact .there (.there (.there (.there (.here rfl)))) | exact .there (.there (.there (.there (.there (.here rfl))))) | exact .there (.there (.there (.there (.there (.there (.here rfl)))))) | exact .there (.there (.there (.there (.there (.there (.there (.here rfl))))))) | exact .there (.there (.there (.there (.there (.there (.there (.there (.here rfl))))))))) (by trivial) ?_
            replace hS : Sat w0 (sackP E_ii O_ii 81 sb (addE O_ii ky es) room * (blks [(b1, .cells #[eI kd, eI ky] 30 (0, 0))] * (sl 3 1 (.slice ad2 ((insR O_ii ky (expand es))).length cap2) ((insR O_ii ky (expand es))).length (((insR O_ii ky (expand es))).map eI) * (whole w0 * R)))) w := hS.to (by ac_rfl)
            have hS_18 := hS
            refine O_call rfl rfl rfl rfl Try.call18 rfl (pMany_ii ky hS) (fun _ _ hv => ⟨CellAt.cell (by first | exact .here rfl | exact .there (.here rfl) | exact .there (.there (.here rfl)) | exact .there (.there (.there (.here rfl))) | exact .there (.there (.there (.there (.here rfl)))) | exact .there (.there (.there (.there (.there (.here rfl))))) | exact .there (.there (.there (.there (.there (.there (.here rfl)))))) | exact .there (.there (.there (.there (.there (.there (.there (.here rfl))))))) | exact .there (.there (.there (.there (.there (.there (.there (.there (.here rfl))))))))) (hv.2.b2), trivial⟩) ?_
            rintro _ w ⟨rfl, hS⟩
            replace hS : Sat w0 (sl 3 1 (.slice ad2 ((insR O_ii ky (expand es))).length cap2) ((insR O_ii ky (expand es))).length (((insR O_ii ky (expand es))).map eI) * (sackP E_ii O_ii 81 sb (addE O_ii ky es) room * (blks [(b1, .cells #[eI kd, eI ky] 30 (0, 0))] * (whole w0 * R)))) w := hS.to (by ac_rfl)
            refine O_call rfl rfl rfl rfl Try.call12 rfl (rMany_ii sl_rds rfl (by omega) ky hS) (fun _ _ hv => ⟨trivial, trivial⟩) ?_
            rintro _ w ⟨rfl, hS⟩
            refine O_cmp rfl rfl rfl rfl rfl rfl rfl ?_
            refine O_pickF rfl rfl rfl rfl rfl rfl ?_
            refine R_nil ?_
            refine tn ?_
            refine F_false rfl (congrArg Bool.not (decide_eq_true hcnt)) ?_
            refine F_skip ?_
            refine bn ?_
            refine tn ?_
            refine F_region (p := ⟨_, [0, 0], []⟩) rfl [0, 1] rfl ?_
            refine O_addN rfl rfl rfl rfl rfl rfl (by omega) ?_
            refine O_move rfl rfl rfl rfl rfl ?_
            refine R_nil ?_
            replace hS : Sat w0 (sl 3 1 (.slice ad2 ((insR O_ii ky (expand es))).length cap2) ((insR O_ii ky (expand es))).length (((insR O_ii ky (expand es))).map eI) * (sackP E_ii O_ii 81 sb (addE O_ii ky es) room * (whole w0 * R))) w := Sat.drop (A := blks [(b1, .cells #[eI kd, eI ky] 30 (0, 0))]) (hS.to (by ac_rfl))
            replace hS : Sat w0 (sackP E_ii O_ii 81 sb (addE O_ii ky es) room * (sl 3 1 (.slice ad2 ((insR O_ii ky (expand es))).length cap2) ((insR O_ii ky (expand es))).length (((insR O_ii ky (expand es))).map eI) * (whole w0 * R))) w := hS.to (by ac_rfl)
            refine tn ⟨rfl, rfl, (pre ++ [(kd, ky)], post, _), ⟨rfl, rfl, rfl, rfl, rfl, rfl, congrArg (fun z : Nat => some (Value.int .i64 z)) (show pre.length + 1 = (pre ++ [(kd, ky)]).length by simp), trivial⟩, ⟨by rw [hx]; simp, (addE O_ii ky es), ?_⟩, Nat.lt_succ_self _⟩
            rw [hx2]
            exact hS
      by_cases hk2 : kd = 2
      · have hcode : (if cnt O_ii ky es = 0 then (5 : Int) else 0) = (if cntR O_ii ky (expand es) = 0 then 5 else 0) := by rw [cnt_expand hw hs]
        by_cases hz : cntR O_ii ky (expand es) = 0
        · rw [if_pos hz] at hcode
          refine F_seq ?_
          refine F_region (p := ⟨_, [0], []⟩) rfl [0] rfl ?_
          refine O_cmp rfl rfl rfl rfl rfl rfl rfl ?_
          refine R_nil ?_
          refine tn ?_
          refine F_seq ?_
          refine F_true rfl (decide_eq_true (by omega)) ?_
          refine F_skip ?_
          refine tn ?_
          refine F_seq ?_
          refine F_block ?_
          refine F_seq ?_
          refine F_region (p := ⟨_, [0, 1, 2, 2], []⟩) rfl [0, 1, 2, 3] rfl ?_
          refine O_indexSlE (m := pre.length) rfl rfl rfl rfl Try.runUnderlying22 Try.sizeOf30 rfl had rfl rfl (by omega) ?_
          refine O_loadAgg [eI kd, eI ky] rfl rfl rfl rfl rfl Try.isAgg30 Try.sizeOf30 rfl hcell (by trivial) ?_
          replace hS := hS.noblks
          refine O_allocS hS rfl rfl rfl rfl Try.zeroValue30 (fun _ _ hv => trivial) ?_
          intro b1 w hS
          refine O_storeAgg (cs := [eI kd, eI ky]) hS rfl rfl rfl rfl rfl rfl Try.sizeOf30 rfl (Nat.le_refl 2) (by simp [one]) (fun _ _ => trivial) ?_
          intro w hS
          replace hS : Sat w0 (blks [(b1, .cells #[eI kd, eI ky] 30 (0, 0))] * (sackP E_ii O_ii 81 sb es room * (sl 3 1 (.slice ad (expand es).length cap) ((expand es)).length (((expand es)).map eI) * (whole w0 * R)))) w := hS
          refine R_nil ?_
          refine tn ?_
          refine F_seq ?_
          refine F_region (p := ⟨_, [0], []⟩) rfl [0] rfl ?_
          refine O_assign rfl rfl rfl rfl rfl ?_
          refine R_nil ?_
          refine tn ?_
          refine F_seq ?_
          refine F_seq ?_
          refine F_region (p := ⟨_, [0, 1], []⟩) rfl [0, 1] rfl ?_
          refine O_fieldAddr rfl rfl rfl rfl rfl Try.runUnderlying30 rfl Try.sizeOf3 ?_
          replace hS : Sat w0 (blks [(b1, .cells #[eI kd, eI ky] 30 (0, 0))] * (sackP E_ii O_ii 81 sb es room * (sl 3 1 (.slice ad (expand es).length cap) ((expand es)).length (((expand es)).map eI) * (whole w0 * R)))) w := hS.to (by ac_rfl)
          refine O_loadS hS rfl rfl rfl rfl rfl Try.isAgg3 (by first | exact .here rfl | exact .there (.here rfl) | exact .there (.there (.here rfl)) | exact .there (.there (.there (.here rfl))) | exact .there (.there (.there (.there (.here rfl)))) | exact .there (.there (.there (.there (.there (.here rfl))))) | exact .there (.there (.there (.there (.there (.there (.here rfl)))))) | exact .there (.there (.there (.there (.there (.there (.there (.here rfl))))))) | exact .there (.there (.there (.there (.there (.there (.there (.there (.here rfl))))))))) (by trivial) ?_
          refine R_nil ?_
          refine tn ?_
          refine F_block ?_
          refine F_seq ?_
          refine F_region (p := ⟨_, [0, 0], []⟩) rfl [0, 1] rfl ?_
          refine O_cmp rfl rfl rfl rfl rfl rfl rfl ?_
          refine O_assign rfl rfl rfl rfl rfl ?_
          refine R_nil ?_
          refine tn ?_
          refine F_false rfl (decide_eq_false (by omega)) ?_
          refine F_seq ?_
          refine F_region (p := ⟨_, [0, 0], []⟩) rfl [0, 1] rfl ?_
          refine O_cmp rfl rfl rfl rfl rfl rfl rfl ?_
          refine O_assign rfl rfl rfl rfl rfl ?_
          refine R_nil ?_
          refine tn ?_
          refine F_true rfl (decide_eq_true (by omega)) ?_
          refine F_seq ?_
          refine F_seq ?_
          refine F_region (p := ⟨_, [0, 0, 1, 2, 0], []⟩) rfl [0, 1, 2, 3, 4] rfl ?_
          refine O_move rfl rfl rfl rfl rfl ?_
          refine O_fieldAddr rfl rfl rfl rfl rfl Try.runUnderlying30 rfl Try.sizeOf3 ?_
          replace hS : Sat w0 (blks [(b1, .cells #[eI kd, eI ky] 30 (0, 0))] * (sackP E_ii O_ii 81 sb es room * (sl 3 1 (.slice ad (expand es).length cap) ((expand es)).length (((expand es)).map eI) * (whole w0 * R)))) w := hS.to (by ac_rfl)
          refine O_loadS hS rfl rfl rfl rfl rfl Try.isAgg3 (by first | exact .here rfl | exact .there (.here rfl) | exact .there (.there (.here rfl)) | exact .there (.there (.there (.here rfl))) | exact .there (.there (.there (.there (.here rfl)))) | exact .there (.there (.there (.there (.there (.here rfl))))) | exact .there (.there (.there (.there (.there (.there (.here rfl)))))) | exact .there (.there (.there (.there (.there (.there (.there (.here rfl))))))) | exact .there (.there (.there (.there (.there (.there (.there (.there (.here rfl))))))))) (by trivial) ?_
          replace hS : Sat w0 (sl 3 1 (.slice ad (expand es).length cap) ((expand es)).length (((expand es)).map eI) * (blks [(b1, .cells #[eI kd, eI ky] 30 (0, 0))] * (sackP E_ii O_ii 81 sb es room * (whole w0 * R)))) w := hS.to (by ac_rfl)
          refine O_call rfl rfl rfl rfl Try.call12 rfl (rMany_ii sl_rds rfl (by omega) ky hS) (fun _ _ hv => trivial) ?_
          rintro _ w ⟨rfl, hS⟩
          refine O_cmp rfl rfl rfl rfl rfl rfl rfl ?_
          refine R_nil ?_
          refine tn ?_
          refine F_true rfl (decide_eq_true hz) ?_
          refine F_region (p := ⟨_, [0], []⟩) rfl [0] rfl ?_
          refine O_assign rfl rfl rfl rfl rfl ?_
          refine R_nil ?_
          refine tn ?_
          refine F_seq ?_
          refine F_region (p := ⟨_, [0, 0, 1, 2, 0], []⟩) rfl [0, 1, 2, 3, 4] rfl ?_
          refine O_move rfl rfl rfl rfl rfl ?_
          refine O_fieldAddr rfl rfl rfl rfl rfl Try.runUnderlying30 rfl Try.sizeOf3 ?_
          replace hS : Sat w0 (blks [(b1, .cells #[eI kd, eI ky] 30 (0, 0))] * (sl 3 1 (.slice ad (expand es).length cap) ((expand es)).length (((expand es)).map eI) * (sackP E_ii O_ii 81 sb es room * (whole w0 * R)))) w := hS.to (by ac_rfl)
          refine O_loadS hS rfl rfl rfl rfl rfl Try.isAgg3 (by first | exact .here rfl | exact .there (.here rfl) | exact .there (.there (.here rfl)) | exact .there (.there (.there (.here rfl))) | exact .there (.there (.there (.there (.here rfl)))) | exact .there (.there (.there (.there (.there (.here rfl))))) | exact .there (.there (.there (.there (.there (.there (.here rfl)))))) | exact .there (.there (.there (.there (.there (.there (.there (.here rfl))))))) | exact .there (.there (.there (.there (.there (.there (.there (.there (.here rfl))))))))) (by trivial) ?_
          replace hS : Sat w0 (sl 3 1 (.slice ad (expand es).length cap) ((expand es)).length (((expand es)).map eI) * (blks [(b1, .cells #[eI kd, eI ky] 30 (0, 0))] * (sackP E_ii O_ii 81 sb es room * (whole w0 * R)))) w := hS.to (by ac_rfl)
          refine O_call rfl rfl rfl rfl Try.call13 rfl (rDrop_ii (by omega) (srtR_expand hw hs) ky hS) (fun _ _ hv => trivial) ?_
          rintro v2 w hS
          obtain ⟨ad2, cap2, rfl, _, _, _⟩ := sl_form hS
          refine O_assign rfl rfl rfl rfl rfl ?_
          refine R_nil ?_
          refine tn ?_
          refine F_seq ?_
          refine F_region (p := ⟨_, [0, 0, 1, 2, 0, 0], []⟩) rfl [0, 1, 2, 3, 4, 5] rfl ?_
          refine O_move rfl rfl rfl rfl rfl ?_
          refine O_fieldAddr rfl rfl rfl rfl rfl Try.runUnderlying30 rfl Try.sizeOf3 ?_
          replace hS : Sat w0 (blks [(b1, .cells #[eI kd, eI ky] 30 (0, 0))] * (sl 3 1 (.slice ad2 ((eraR O_ii ky (expand es))).length cap2) ((eraR O_ii ky (expand es))).length (((eraR O_ii ky (expand es))).map eI) * (sackP E_ii O_ii 81 sb es room * (whole w0 * R)))) w := hS.to (by ac_rfl)
          refine O_loadS hS rfl rfl rfl rfl rfl Try.isAgg3 (by first | exact .here rfl | exact .there (.here rfl) | exact .there (.there (.here rfl)) | exact .there (.there (.there (.here rfl))) | exact .there (.there (.there (.there (.here rfl)))) | exact .there (.there (.there (.there (.there (.here rfl))))) | exact .there (.there (.there (.there (.there (.there (.here rfl)))))) | exact .there (.there (.there (.there (.there (.there (.there (.here rfl))))))) | exact .there (.there (.there (.there (.there (.there (.there (.there (.here rfl))))))))) (by trivial) ?_
          replace hS : Sat w0 (sackP E_ii O_ii 81 sb es room * (blks [(b1, .cells #[eI kd, eI ky] 30 (0, 0))] * (sl 3 1 (.slice ad2 ((eraR O_ii ky (expand es))).length cap2) ((eraR O_ii ky (expand es))).length (((eraR O_ii ky (expand es))).map eI) * (whole w0 * R)))) w := hS.to (by ac_rfl)
          refine O_call rfl rfl rfl rfl Try.call14 rfl (sDrop_ii ky hS) (fun _ _ hv => trivial) ?_
          rintro _ w ⟨rfl, hS⟩
          have hx2 : expand (dropE O_ii ky es) = eraR O_ii ky (expand es) := dropE_exp hw hs
          refine O_move rfl rfl rfl rfl rfl ?_
          refine O_cmp rfl rfl rfl rfl rfl rfl rfl ?_
          refine R_nil ?_
          refine tn ?_
          refine F_false rfl (congrArg Bool.not (decide_eq_true hcode)) ?_
          refine F_skip ?_
          refine bn ?_
          refine tn ?_
          refine F_seq ?_
          refine F_drawnS hS (by kernel_rfl) (p := ⟨_, [0, 2, 0, 0, 0, 0, 0, 2, 0, 0, 0, 0, 0, 0, 0, 0, 0, 1, 2, 0, 0, 1, 2, 0, 0], [(18, 21)]⟩) rfl (.ofList [0, 1, 2, 3, 4, 5, 6, 7, 8, 9, 10, 11, 12, 13, 14, 15, 16, 17, 19, 20, 21, 18, 22, 23, 24]) (by kernel_rfl) ?_
          intro w hS
          refine O_move rfl rfl rfl rfl rfl ?_
          replace hS : Sat w0 (sackP E_ii O_ii 81 sb (dropE O_ii ky es) room * (blks [(b1, .cells #[eI kd, eI ky] 30 (0, 0))] * (sl 3 1 (.slice ad2 ((eraR O_ii ky (expand es))).length cap2) ((eraR O_ii ky (expand es))).length (((eraR O_ii ky (expand es))).map eI) * (whole w0 * R)))) w := hS.to (by ac_rfl)
          obtain ⟨_, hw2, hs2, ht2, hr2, _⟩ := sackP_open hS
          have hlen2 := len_expand hw2
          rw [hx2] at hlen2
          have hcnt : cnt O_ii ky (dropE O_ii ky es) = cntR O_ii ky (eraR O_ii ky (expand es)) := by rw [← cnt_expand hw2 hs2, hx2]
          refine O_call rfl rfl rfl rfl Try.call16 rfl (pLen_ii hS) (fun _ _ hv => trivial) ?_
          rintro _ w ⟨rfl, hS⟩
          refine O_move rfl rfl rfl rfl rfl ?_
          refine O_lenSl rfl rfl rfl rfl rfl Try.runUnderlying28 ?_
          refine O_cmp rfl rfl rfl rfl rfl rfl rfl ?_
          refine O_move rfl rfl rfl rfl rfl ?_
          refine R_caseF (t := 116) rfl (congrArg Bool.not (decide_eq_true (by omega))) ?_
          refine O_move rfl rfl rfl rfl rfl ?_
          replace hS : Sat w0 (sackP E_ii O_ii 81 sb (dropE O_ii ky es) room * (blks [(b1, .cells #[eI kd, eI ky] 30 (0, 0))] * (sl 3 1 (.slice ad2 ((eraR O_ii ky (expand es))).length cap2) ((eraR O_ii ky (expand es))).length (((eraR O_ii ky (expand es))).map eI) * (whole w0 * R)))) w := hS.to (by ac_rfl)
          refine O_call rfl rfl rfl rfl Try.call17 rfl (pRoom_ii hS) (fun _ _ hv => trivial) ?_
          rintro _ w ⟨rfl, hS⟩
          refine O_move rfl rfl rfl rfl rfl ?_
          refine O_move rfl rfl rfl rfl rfl ?_
          refine O_lenSl rfl rfl rfl rfl rfl Try.runUnderlying28 ?_
          refine O_subN rfl rfl rfl rfl rfl rfl (by omega) ?_
          refine O_cmp rfl rfl rfl rfl rfl rfl rfl ?_
          refine O_pickF rfl rfl rfl rfl rfl rfl ?_
          refine O_move rfl rfl rfl rfl rfl ?_
          refine R_caseF (t := 125) rfl (congrArg Bool.not (decide_eq_true (by omega))) ?_
          refine O_move rfl rfl rfl rfl rfl ?_
          refine O_fieldAddr rfl rfl rfl rfl rfl Try.runUnderlying30 rfl Try.sizeOf3 ?_
          replace hS : Sat w0 (blks [(b1, .cells #[eI kd, eI ky] 30 (0, 0))] * (sackP E_ii O_ii 81 sb (dropE O_ii ky es) room * (sl 3 1 (.slice ad2 ((eraR O_ii ky (expand es))).length cap2) ((eraR O_ii ky (expand es))).length (((eraR O_ii ky (expand es))).map eI) * (whole w0 * R)))) w := hS.to (by ac_rfl)
          refine O_loadS hS rfl rfl rfl rfl rfl Try.isAgg3 (by first | exact .here rfl | exact .there (.here rfl) | exact .there (.there (.here rfl)) | exact .there (.there (.there (.here rfl))) | exact .there (.there (.there (.there (.here rfl)))) | exact .there (.there (.there (.there (.there (.here rfl))))) | exact .there (.there (.there (.there (.there (.there (.here rfl)))))) | exact .there (.there (.there (.there (.there (.there (.there (.here rfl))))))) | exact .there (.there (.there (.there (.there (.there (.there (.there (.here rfl))))))))) (by trivial) ?_
          refine O_move rfl rfl rfl rfl rfl ?_
          refine O_fieldAddr rfl rfl rfl rfl rfl Try.runUnderlying30 rfl Try.sizeOf3 ?_
          replace hS : Sat w0 (blks [(b1, .cells #[eI kd, eI ky] 30 (0, 0))] * (sackP E_ii O_ii 81 sb (dropE O_ii ky es) room * (sl 3 1 (.slice ad2 ((eraR O_ii ky (expand es))).length cap2) ((eraR O_ii ky (expand es))).length (((eraR O_ii ky (expand es))).map eI) * (whole w0 * R)))) w := hS.to (by ac_rfl)
          refine O_loadS hS rfl rfl rfl rfl rfl Try.isAgg3 (by first | exact .here rfl | exact .there (.here rfl) | exact .there (.there (.here rfl)) | exact .there (.there (.there (.here rfl))) | exact .there (.there (.there (.there (.here rfl)))) | exact .there (.there (.there (.there (.there (.here rfl))))) | exact .there (.there (.there (.there (.there (.there (.here rfl)))))) | exact .there (.there (.there (.there (.there (.there (.there (.here rfl))))))) | exact .there (.there (.there (.there (.there (.there (.there (.there (.here rfl))))))))) (by trivial) ?_
          replace hS : Sat w0 (sackP E_ii O_ii 81 sb (dropE O_ii ky es) room * (blks [(b1, .cells #[eI kd, eI ky] 30 (0, 0))] * (sl 3 1 (.slice ad2 ((eraR O_ii ky (expand es))).length cap2) ((eraR O_ii ky (expand es))).length (((eraR O_ii ky (expand es))).map eI) * (whole w0 * R)))) w := hS.to (by ac_rfl)
          have hS_18 := hS
          refine O_call rfl rfl rfl rfl Try.call18 rfl (pMany_ii ky hS) (fun _ _ hv => ⟨CellAt.cell (by first | exact .here rfl | exact .there (.here rfl) | exact .there (.there (.here rfl)) | exact .there (.there (.there (.here rfl))) | exact .there (.there (.there (.there (.here rfl)))) | exact .there (.there (.there (.there (.there (.here rfl))))) | exact .there (.there (.there (.there (.there (.there (.here rfl)))))) | exact .there (.there (.there (.there (.there (.there (.there (.here rfl))))))) | exact .there (.there (.there (.there (.there (.there (.there (.there (.here rfl))))))))) (hv.2.b2), trivial⟩) ?_
          rintro _ w ⟨rfl, hS⟩
          replace hS : Sat w0 (sl 3 1 (.slice ad2 ((eraR O_ii ky (expand es))).length cap2) ((eraR O_ii ky (expand es))).length (((eraR O_ii ky (expand es))).map eI) * (sackP E_ii O_ii 81 sb (dropE O_ii ky es) room * (blks [(b1, .cells #[eI kd, eI ky] 30 (0, 0))] * (whole w0 * R)))) w := hS.to (by ac_rfl)
          refine O_call rfl rfl rfl rfl Try.call12 rfl (rMany_ii sl_rds rfl (by omega) ky hS) (fun _ _ hv => ⟨trivial, trivial⟩) ?_
          rintro _ w ⟨rfl, hS⟩
          refine O_cmp rfl rfl rfl rfl rfl rfl rfl ?_
          refine O_pickF rfl rfl rfl rfl rfl rfl ?_
          refine R_nil ?_
          refine tn ?_
          refine F_false rfl (congrArg Bool.not (decide_eq_true hcnt)) ?_
          refine F_skip ?_
          refine bn ?_
          refine tn ?_
          refine F_region (p := ⟨_, [0, 0], []⟩) rfl [0, 1] rfl ?_
          refine O_addN rfl rfl rfl rfl rfl rfl (by omega) ?_
          refine O_move rfl rfl rfl rfl rfl ?_
          refine R_nil ?_
          replace hS : Sat w0 (sl 3 1 (.slice ad2 ((eraR O_ii ky (expand es))).length cap2) ((eraR O_ii ky (expand es))).length (((eraR O_ii ky (expand es))).map eI) * (sackP E_ii O_ii 81 sb (dropE O_ii ky es) room * (whole w0 * R))) w := Sat.drop (A := blks [(b1, .cells #[eI kd, eI ky] 30 (0, 0))]) (hS.to (by ac_rfl))
          replace hS : Sat w0 (sackP E_ii O_ii 81 sb (dropE O_ii ky es) room * (sl 3 1 (.slice ad2 ((eraR O_ii ky (expand es))).length cap2) ((eraR O_ii ky (expand es))).length (((eraR O_ii ky (expand es))).map eI) * (whole w0 * R))) w := hS.to (by ac_rfl)
          refine tn ⟨rfl, rfl, (pre ++ [(kd, ky)], post, _), ⟨rfl, rfl, rfl, rfl, rfl, rfl, congrArg (fun z : Nat => some (Value.int .i64 z)) (show pre.length + 1 = (pre ++ [(kd, ky)]).length by simp), trivial⟩, ⟨by rw [hx]; simp, (dropE O_ii ky es), ?_⟩, Nat.lt_succ_self _⟩
          rw [hx2]
          exact hS
        · rw [if_neg hz] at hcode
          refine F_seq ?_
          refine F_region (p := ⟨_, [0], []⟩) rfl [0] rfl ?_
          refine O_cmp rfl rfl rfl rfl rfl rfl rfl ?_
          refine R_nil ?_
          refine tn ?_
          refine F_seq ?_
          refine F_true rfl (decide_eq_true (by omega)) ?_
          refine F_skip ?_
          refine tn ?_
          refine F_seq ?_
          refine F_block ?_
          refine F_seq ?_
          refine F_region (p := ⟨_, [0, 1, 2, 2], []⟩) rfl [0, 1, 2, 3] rfl ?_
          refine O_indexSlE (m := pre.length) rfl rfl rfl rfl Try.runUnderlying22 Try.sizeOf30 rfl had rfl rfl (by omega) ?_
          refine O_loadAgg [eI kd, eI ky] rfl rfl rfl rfl rfl Try.isAgg30 Try.sizeOf30 rfl hcell (by trivial) ?_
          replace hS := hS.noblks
          refine O_allocS hS rfl rfl rfl rfl Try.zeroValue30 (fun _ _ hv => trivial) ?_
          intro b1 w hS
          refine O_storeAgg (cs := [eI kd, eI ky]) hS rfl rfl rfl rfl rfl rfl Try.sizeOf30 rfl (Nat.le_refl 2) (by simp [one]) (fun _ _ => trivial) ?_
          intro w hS
          replace hS : Sat w0 (blks [(b1, .cells #[eI kd, eI ky] 30 (0, 0))] * (sackP E_ii O_ii 81 sb es room * (sl 3 1 (.slice ad (expand es).length cap) ((expand es)).length (((expand es)).map eI) * (whole w0 * R)))) w := hS
          refine R_nil ?_
          refine tn ?_
          refine F_seq ?_
          refine F_region (p := ⟨_, [0], []⟩) rfl [0] rfl ?_
          refine O_assign rfl rfl rfl rfl rfl ?_
          refine R_nil ?_
          refine tn ?_
          refine F_seq ?_
          refine F_seq ?_
          refine F_region (p := ⟨_, [0, 1], []⟩) rfl [0, 1] rfl ?_
          refine O_fieldAddr rfl rfl rfl rfl rfl Try.runUnderlying30 rfl Try.sizeOf3 ?_
          replace hS : Sat w0 (blks [(b1, .cells #[eI kd, eI ky] 30 (0, 0))] * (sackP E_ii O_ii 81 sb es room * (sl 3 1 (.slice ad (expand es).length cap) ((expand es)).length (((expand es)).map eI) * (whole w0 * R)))) w := hS.to (by ac_rfl)
          refine O_loadS hS rfl rfl rfl rfl rfl Try.isAgg3 (by first | exact .here rfl | exact .there (.here rfl) | exact .there (.there (.here rfl)) | exact .there (.there (.there (.here rfl))) | exact .there (.there (.there (.there (.here rfl)))) | exact .there (.there (.there (.there (.there (.here rfl))))) | exact .there (.there (.there (.there (.there (.there (.here rfl)))))) | exact .there (.there (.there (.there (.there (.there (.there (.here rfl))))))) | exact .there (.there (.there (.there (.there (.there (.there (.there (.here rfl))))))))) (by trivial) ?_
          refine R_nil ?_
          refine tn ?_
          refine F_block ?_
          refine F_seq ?_
          refine F_region (p := ⟨_, [0, 0], []⟩) rfl [0, 1] rfl ?_
          refine O_cmp rfl rfl rfl rfl rfl rfl rfl ?_
          refine O_assign rfl rfl rfl rfl rfl ?_
          refine R_nil ?_
          refine tn ?_
          refine F_false rfl (decide_eq_false (by omega)) ?_
          refine F_seq ?_
          refine F_region (p := ⟨_, [0, 0], []⟩) rfl [0, 1] rfl ?_
          refine O_cmp rfl rfl rfl rfl rfl rfl rfl ?_
          refine O_assign rfl rfl rfl rfl rfl ?_
          refine R_nil ?_
          refine tn ?_
          refine F_true rfl (decide_eq_true (by omega)) ?_
          refine F_seq ?_
          refine F_seq ?_
          refine F_region (p := ⟨_, [0, 0, 1, 2, 0], []⟩) rfl [0, 1, 2, 3, 4] rfl ?_
          refine O_move rfl rfl rfl rfl rfl ?_
          refine O_fieldAddr rfl rfl rfl rfl rfl Try.runUnderlying30 rfl Try.sizeOf3 ?_
          replace hS : Sat w0 (blks [(b1, .cells #[eI kd, eI ky] 30 (0, 0))] * (sackP E_ii O_ii 81 sb es room * (sl 3 1 (.slice ad (expand es).length cap) ((expand es)).length (((expand es)).map eI) * (whole w0 * R)))) w := hS.to (by ac_rfl)
          refine O_loadS hS rfl rfl rfl rfl rfl Try.isAgg3 (by first | exact .here rfl | exact .there (.here rfl) | exact .there (.there (.here rfl)) | exact .there (.there (.there (.here rfl))) | exact .there (.there (.there (.there (.here rfl)))) | exact .there (.there (.there (.there (.there (.here rfl))))) | exact .there (.there (.there (.there (.there (.there (.here rfl)))))) | exact .there (.there (.there (.there (.there (.there (.there (.here rfl))))))) | exact .there (.there (.there (.there (.there (.there (.there (.there (.here rfl))))))))) (by trivial) ?_
          replace hS : Sat w0 (sl 3 1 (.slice ad (expand es).length cap) ((expand es)).length (((expand es)).map eI) * (blks [(b1, .cells #[eI kd, eI ky] 30 (0, 0))] * (sackP E_ii O_ii 81 sb es room * (whole w0 * R)))) w := hS.to (by ac_rfl)
          refine O_call rfl rfl rfl rfl Try.call12 rfl (rMany_ii sl_rds rfl (by omega) ky hS) (fun _ _ hv => trivial) ?_
          rintro _ w ⟨rfl, hS⟩
          refine O_cmp rfl rfl rfl rfl rfl rfl rfl ?_
          refine R_nil ?_
          refine tn ?_
          refine F_false rfl (decide_eq_false hz) ?_
          refine F_skip ?_
          refine tn ?_
          refine F_seq ?_
          refine F_region (p := ⟨_, [0, 0, 1, 2, 0], []⟩) rfl [0, 1, 2, 3, 4] rfl ?_
          refine O_move rfl rfl rfl rfl rfl ?_
          refine O_fieldAddr rfl rfl rfl rfl rfl Try.runUnderlying30 rfl Try.sizeOf3 ?_
          replace hS : Sat w0 (blks [(b1, .cells #[eI kd, eI ky] 30 (0, 0))] * (sl 3 1 (.slice ad (expand es).length cap) ((expand es)).length (((expand es)).map eI) * (sackP E_ii O_ii 81 sb es room * (whole w0 * R)))) w := hS.to (by ac_rfl)
          refine O_loadS hS rfl rfl rfl rfl rfl Try.isAgg3 (by first | exact .here rfl | exact .there (.here rfl) | exact .there (.there (.here rfl)) | exact .there (.there (.there (.here rfl))) | exact .there (.there (.there (.there (.here rfl)))) | exact .there (.there (.there (.there (.there (.here rfl))))) | exact .there (.there (.there (.there (.there (.there (.here rfl)))))) | exact .there (.there (.there (.there (.there (.there (.there (.here rfl))))))) | exact .there (.there (.there (.there (.there (.there (.there (.there (.here rfl))))))))) (by trivial) ?_
          replace hS : Sat w0 (sl 3 1 (.slice ad (expand es).length cap) ((expand es)).length (((expand es)).map eI) * (blks [(b1, .cells #[eI kd, eI ky] 30 (0, 0))] * (sackP E_ii O_ii 81 sb es room * (whole w0 * R)))) w := hS.to (by ac_rfl)
          refine O_call rfl rfl rfl rfl Try.call13 rfl (rDrop_ii (by omega) (srtR_expand hw hs) ky hS) (fun _ _ hv => trivial) ?_
          rintro v2 w hS
          obtain ⟨ad2, cap2, rfl, _, _, _⟩ := sl_form hS
          refine O_assign rfl rfl rfl rfl rfl ?_
          refine R_nil ?_
          refine tn ?_
          refine F_seq ?_
          refine F_region (p := ⟨_, [0, 0, 1, 2, 0, 0], []⟩) rfl [0, 1, 2, 3, 4, 5] rfl ?_
          refine O_move rfl rfl rfl rfl rfl ?_
          refine O_fieldAddr rfl rfl rfl rfl rfl Try.runUnderlying30 rfl Try.sizeOf3 ?_
          replace hS : Sat w0 (blks [(b1, .cells #[eI kd, eI ky] 30 (0, 0))] * (sl 3 1 (.slice ad2 ((eraR O_ii ky (expand es))).length cap2) ((eraR O_ii ky (expand es))).length (((eraR O_ii ky (expand es))).map eI) * (sackP E_ii O_ii 81 sb es room * (whole w0 * R)))) w := hS.to (by ac_rfl)
          refine O_loadS hS rfl rfl rfl rfl rfl Try.isAgg3 (by first | exact .here rfl | exact .there (.here rfl) | exact .there (.there (.here rfl)) | exact .there (.there (.there (.here rfl))) | exact .there (.there (.there (.there (.here rfl)))) | exact .there (.there (.there (.there (.there (.here rfl))))) | exact .there (.there (.there (.there (.there (.there (.here rfl)))))) | exact .there (.there (.there (.there (.there (.there (.there (.here rfl))))))) | exact .there (.there (.there (.there (.there (.there (.there (.there (.here rfl))))))))) (by trivial) ?_
          replace hS : Sat w0 (sackP E_ii O_ii 81 sb es room * (blks [(b1, .cells #[eI kd, eI ky] 30 (0, 0))] * (sl 3 1 (.slice ad2 ((eraR O_ii ky (expand es))).length cap2) ((eraR O_ii ky (expand es))).length (((eraR O_ii ky (expand es))).map eI) * (whole w0 * R)))) w := hS.to (by ac_rfl)
          refine O_call rfl rfl rfl rfl Try.call14 rfl (sDrop_ii ky hS) (fun _ _ hv => trivial) ?_
          rintro _ w ⟨rfl, hS⟩
          have hx2 : expand (dropE O_ii ky es) = eraR O_ii ky (expand es) := dropE_exp hw hs
          refine O_move rfl rfl rfl rfl rfl ?_
          refine O_cmp rfl rfl rfl rfl rfl rfl rfl ?_
          refine R_nil ?_
          refine tn ?_
          refine F_false rfl (congrArg Bool.not (decide_eq_true hcode)) ?_
          refine F_skip ?_
          refine bn ?_
          refine tn ?_
          refine F_seq ?_
          refine F_drawnS hS (by kernel_rfl) (p := ⟨_, [0, 2, 0, 0, 0, 0, 0, 2, 0, 0, 0, 0, 0, 0, 0, 0, 0, 1, 2, 0, 0, 1, 2, 0, 0], [(18, 21)]⟩) rfl (.ofList [0, 1, 2, 3, 4, 5, 6, 7, 8, 9, 10, 11, 12, 13, 14, 15, 16, 17, 19, 20, 21, 18, 22, 23, 24]) (by kernel_rfl) ?_
          intro w hS
          refine O_move rfl rfl rfl rfl rfl ?_
          replace hS : Sat w0 (sackP E_ii O_ii 81 sb (dropE O_ii ky es) room * (blks [(b1, .cells #[eI kd, eI ky] 30 (0, 0))] * (sl 3 1 (.slice ad2 ((eraR O_ii ky (expand es))).length cap2) ((eraR O_ii ky (expand es))).length (((eraR O_ii ky (expand es))).map eI) * (whole w0 * R)))) w := hS.to (by ac_rfl)
          obtain ⟨_, hw2, hs2, ht2, hr2, _⟩ := sackP_open hS
          have hlen2 := len_expand hw2
          rw [hx2] at hlen2
          have hcnt : cnt O_ii ky (dropE O_ii ky es) = cntR O_ii ky (eraR O_ii ky (expand es)) := by rw [← cnt_expand hw2 hs2, hx2]
          refine O_call rfl rfl rfl rfl Try.call16 rfl (pLen_ii hS) (fun _ _ hv => trivial) ?_
          rintro _ w ⟨rfl, hS⟩
          refine O_move rfl rfl rfl rfl rfl ?_
          refine O_lenSl rfl rfl rfl rfl rfl Try.runUnderlying28 ?_
          refine O_cmp rfl rfl rfl rfl rfl rfl rfl ?_
          refine O_move rfl rfl rfl rfl rfl ?_
          refine R_caseF (t := 116) rfl (congrArg Bool.not (decide_eq_true (by omega))) ?_
          refine O_move rfl rfl rfl rfl rfl ?_
          replace hS : Sat w0 (sackP E_ii O_ii 81 sb (dropE O_ii ky es) room * (blks [(b1, .cells #[eI kd, eI ky] 30 (0, 0))] * (sl 3 1 (.slice ad2 ((eraR O_ii ky (expand es))).length cap2) ((eraR O_ii ky (expand es))).length (((eraR O_ii ky (expand es))).map eI) * (whole w0 * R)))) w := hS.to (by ac_rfl)
          refine O_call rfl rfl rfl rfl Try.call17 rfl (pRoom_ii hS) (fun _ _ hv => trivial) ?_
          rintro _ w ⟨rfl, hS⟩
          refine O_move rfl rfl rfl rfl rfl ?_
          refine O_move rfl rfl rfl rfl rfl ?_
          refine O_lenSl rfl rfl rfl rfl rfl Try.runUnderlying28 ?_
          refine O_subN rfl rfl rfl rfl rfl rfl (by omega) ?_
          refine O_cmp rfl rfl rfl rfl rfl rfl rfl ?_
          refine O_pickF rfl rfl rfl rfl rfl rfl ?_
          refine O_move rfl rfl rfl rfl rfl ?_
          refine R_caseF (t := 125) rfl (congrArg Bool.not (decide_eq_true (by omega))) ?_
          refine O_move rfl rfl rfl rfl rfl ?_
          refine O_fieldAddr rfl rfl rfl rfl rfl Try.runUnderlying30 rfl Try.sizeOf3 ?_
          replace hS : Sat w0 (blks [(b1, .cells #[eI kd, eI ky] 30 (0, 0))] * (sackP E_ii O_ii 81 sb (dropE O_ii ky es) room * (sl 3 1 (.slice ad2 ((eraR O_ii ky (expand es))).length cap2) ((eraR O_ii ky (expand es))).length (((eraR O_ii ky (expand es))).map eI) * (whole w0 * R)))) w := hS.to (by ac_rfl)
          refine O_loadS hS rfl rfl rfl rfl rfl Try.isAgg3 (by first | exact .here rfl | exact .there (.here rfl) | exact .there (.there (.here rfl)) | exact .there (.there (.there (.here rfl))) | exact .there (.there (.there (.there (.here rfl)))) | exact .there (.there (.there (.there (.there (.here rfl))))) | exact .there (.there (.there (.there (.there (.there (.here rfl)))))) | exact .there (.there (.there (.there (.there (.there (.there (.here rfl))))))) | exact .there (.there (.there (.there (.there (.there (.there (.there (.here rfl))))))))) (by trivial) ?_
          refine O_move rfl rfl rfl rfl rfl ?_
          refine O_fieldAddr rfl rfl rfl rfl rfl Try.runUnderlying30 rfl Try.sizeOf3 ?_
          replace hS : Sat w0 (blks [(b1, .cells #[eI kd, eI ky] 30 (0, 0))] * (sackP E_ii O_ii 81 sb (dropE O_ii ky es) room * (sl 3 1 (.slice ad2 ((eraR O_ii ky (expand es))).length cap2) ((eraR O_ii ky (expand es))).length (((eraR O_ii ky (expand es))).map eI) * (whole w0 * R)))) w := hS.to (by ac_rfl)
          refine O_loadS hS rfl rfl rfl rfl rfl Try.isAgg3 (by first | exact .here rfl | exact .there (.here rfl) | exact .there (.there (.here rfl)) | exact .there (.there (.there (.here rfl))) | exact .there (.there (.there (.there (.here rfl)))) | exact .there (.there (.there (.there (.there (.here rfl))))) | exact .there (.there (.there (.there (.there (.there (.here rfl)))))) | exact .there (.there (.there (.there (.there (.there (.there (.here rfl))))))) | exact .there (.there (.there (.there (.there (.there (.there (.there (.here rfl))))))))) (by trivial) ?_
          replace hS : Sat w0 (sackP E_ii O_ii 81 sb (dropE O_ii ky es) room * (blks [(b1, .cells #[eI kd, eI ky] 30 (0, 0))] * (sl 3 1 (.slice ad2 ((eraR O_ii ky (expand es))).length cap2) ((eraR O_ii ky (expand es))).length (((eraR O_ii ky (expand es))).map eI) * (whole w0 * R)))) w := hS.to (by ac_rfl)
          have hS_18 := hS
          refine O_call rfl rfl rfl rfl Try.call18 rfl (pMany_ii ky hS) (fun _ _ hv => ⟨CellAt.cell (by first | exact .here rfl | exact .there (.here rfl) | exact .there (.there (.here rfl)) | exact .there (.there (.there (.here rfl))) | exact .there (.there (.there (.there (.here rfl)))) | exact .there (.there (.there (.there (.there (.here rfl))))) | exact .there (.there (.there (.there (.there (.there (.here rfl)))))) | exact .there (.there (.there (.there (.there (.there (.there (.here rfl))))))) | exact .there (.there (.there (.there (.there (.there (.there (.there (.here rfl))))))))) (hv.2.b2), trivial⟩) ?_
          rintro _ w ⟨rfl, hS⟩
          replace hS : Sat w0 (sl 3 1 (.slice ad2 ((eraR O_ii ky (expand es))).length cap2) ((eraR O_ii ky (expand es))).length (((eraR O_ii ky (expand es))).map eI) * (sackP E_ii O_ii 81 sb (dropE O_ii ky es) room * (blks [(b1, .cells #[eI kd, eI ky] 30 (0, 0))] * (whole w0 * R)))) w := hS.to (by ac_rfl)
          refine O_call rfl rfl rfl rfl Try.call12 rfl (rMany_ii sl_rds rfl (by omega) ky hS) (fun _ _ hv => ⟨trivial, trivial⟩) ?_
          rintro _ w ⟨rfl, hS⟩
          refine O_cmp rfl rfl rfl rfl rfl rfl rfl ?_
          refine O_pickF rfl rfl rfl rfl rfl rfl ?_
          refine R_nil ?_
          refine tn ?_
          refine F_false rfl (congrArg Bool.not (decide_eq_true hcnt)) ?_
          refine F_skip ?_
          refine bn ?_
          refine tn ?_
          refine F_region (p := ⟨_, [0, 0], []⟩) rfl [0, 1] rfl ?_
          refine O_addN rfl rfl rfl rfl rfl rfl (by omega) ?_
          refine O_move rfl rfl rfl rfl rfl ?_
          refine R_nil ?_
          replace hS : Sat w0 (sl 3 1 (.slice ad2 ((eraR O_ii ky (expand es))).length cap2) ((eraR O_ii ky (expand es))).length (((eraR O_ii ky (expand es))).map eI) * (sackP E_ii O_ii 81 sb (dropE O_ii ky es) room * (whole w0 * R))) w := Sat.drop (A := blks [(b1, .cells #[eI kd, eI ky] 30 (0, 0))]) (hS.to (by ac_rfl))
          replace hS : Sat w0 (sackP E_ii O_ii 81 sb (dropE O_ii ky es) room * (sl 3 1 (.slice ad2 ((eraR O_ii ky (expand es))).length cap2) ((eraR O_ii ky (expand es))).length (((eraR O_ii ky (expand es))).map eI) * (whole w0 * R))) w := hS.to (by ac_rfl)
          refine tn ⟨rfl, rfl, (pre ++ [(kd, ky)], post, _), ⟨rfl, rfl, rfl, rfl, rfl, rfl, congrArg (fun z : Nat => some (Value.int .i64 z)) (show pre.length + 1 = (pre ++ [(kd, ky)]).length by simp), trivial⟩, ⟨by rw [hx]; simp, (dropE O_ii ky es), ?_⟩, Nat.lt_succ_self _⟩
          rw [hx2]
          exact hS
      by_cases hk3 : kd = 3
      · by_cases hbig : room < 2 * ((expand es).length : Int)
        · refine F_seq ?_
          refine F_region (p := ⟨_, [0], []⟩) rfl [0] rfl ?_
          refine O_cmp rfl rfl rfl rfl rfl rfl rfl ?_
          refine R_nil ?_
          refine tn ?_
          refine F_seq ?_
          refine F_true rfl (decide_eq_true (by omega)) ?_
          refine F_skip ?_
          refine tn ?_
          refine F_seq ?_
          refine F_block ?_
          refine F_seq ?_
          refine F_region (p := ⟨_, [0, 1, 2, 2], []⟩) rfl [0, 1, 2, 3] rfl ?_
          refine O_indexSlE (m := pre.length) rfl rfl rfl rfl Try.runUnderlying22 Try.sizeOf30 rfl had rfl rfl (by omega) ?_
          refine O_loadAgg [eI kd, eI ky] rfl rfl rfl rfl rfl Try.isAgg30 Try.sizeOf30 rfl hcell (by trivial) ?_
          replace hS := hS.noblks
          refine O_allocS hS rfl rfl rfl rfl Try.zeroValue30 (fun _ _ hv => trivial) ?_
          intro b1 w hS
          refine O_storeAgg (cs := [eI kd, eI ky]) hS rfl rfl rfl rfl rfl rfl Try.sizeOf30 rfl (Nat.le_refl 2) (by simp [one]) (fun _ _ => trivial) ?_
          intro w hS
          replace hS : Sat w0 (blks [(b1, .cells #[eI kd, eI ky] 30 (0, 0))] * (sackP E_ii O_ii 81 sb es room * (sl 3 1 (.slice ad (expand es).length cap) ((expand es)).length (((expand es)).map eI) * (whole w0 * R)))) w := hS
          refine R_nil ?_
          refine tn ?_
          refine F_seq ?_
          refine F_region (p := ⟨_, [0], []⟩) rfl [0] rfl ?_
          refine O_assign rfl rfl rfl rfl rfl ?_
          refine R_nil ?_
          refine tn ?_
          refine F_seq ?_
          refine F_seq ?_
          refine F_region (p := ⟨_, [0, 1], []⟩) rfl [0, 1] rfl ?_
          refine O_fieldAddr rfl rfl rfl rfl rfl Try.runUnderlying30 rfl Try.sizeOf3 ?_
          replace hS : Sat w0 (blks [(b1, .cells #[eI kd, eI ky] 30 (0, 0))] * (sackP E_ii O_ii 81 sb es room * (sl 3 1 (.slice ad (expand es).length cap) ((expand es)).length (((expand es)).map eI) * (whole w0 * R)))) w := hS.to (by ac_rfl)
          refine O_loadS hS rfl rfl rfl rfl rfl Try.isAgg3 (by first | exact .here rfl | exact .there (.here rfl) | exact .there (.there (.here rfl)) | exact .there (.there (.there (.here rfl))) | exact .there (.there (.there (.there (.here rfl)))) | exact .there (.there (.there (.there (.there (.here rfl))))) | exact .there (.there (.there (.there (.there (.there (.here rfl)))))) | exact .there (.there (.there (.there (.there (.there (.there (.here rfl))))))) | exact .there (.there (.there (.there (.there (.there (.there (.there (.here rfl))))))))) (by trivial) ?_
          refine R_nil ?_
          refine tn ?_
          refine F_block ?_
          refine F_seq ?_
          refine F_region (p := ⟨_, [0, 0], []⟩) rfl [0, 1] rfl ?_
          refine O_cmp rfl rfl rfl rfl rfl rfl rfl ?_
          refine O_assign rfl rfl rfl rfl rfl ?_
          refine R_nil ?_
          refine tn ?_
          refine F_false rfl (decide_eq_false (by omega)) ?_
          refine F_seq ?_
          refine F_region (p := ⟨_, [0, 0], []⟩) rfl [0, 1] rfl ?_
          refine O_cmp rfl rfl rfl rfl rfl rfl rfl ?_
          refine O_assign rfl rfl rfl rfl rfl ?_
          refine R_nil ?_
          refine tn ?_
          refine F_false rfl (decide_eq_false (by omega)) ?_
          refine F_seq ?_
          refine F_region (p := ⟨_, [0, 0], []⟩) rfl [0, 1] rfl ?_
          refine O_cmp rfl rfl rfl rfl rfl rfl rfl ?_
          refine O_assign rfl rfl rfl rfl rfl ?_
          refine R_nil ?_
          refine tn ?_
          refine F_true rfl (decide_eq_true (by omega)) ?_
          refine F_seq ?_
          refine F_seq ?_
          refine F_region (p := ⟨_, [0, 0, 0, 0, 0], []⟩) rfl [0, 1, 2, 3, 4] rfl ?_
          refine O_move rfl rfl rfl rfl rfl ?_
          refine O_lenSl rfl rfl rfl rfl rfl Try.runUnderlying28 ?_
          refine O_mulN rfl rfl rfl rfl rfl rfl (by omega) ?_
          refine O_move rfl rfl rfl rfl rfl ?_
          refine O_cmp rfl rfl rfl rfl rfl rfl rfl ?_
          refine R_nil ?_
          refine tn ?_
          refine F_true rfl (decide_eq_true (by omega)) ?_
          refine F_region (p := ⟨_, [0], []⟩) rfl [0] rfl ?_
          refine O_assign rfl rfl rfl rfl rfl ?_
          refine R_nil ?_
          refine tn ?_
          refine F_seq ?_
          refine F_region (p := ⟨_, [0, 0, 2, 0, 0], []⟩) rfl [0, 1, 2, 3, 4] rfl ?_
          refine O_move rfl rfl rfl rfl rfl ?_
          refine O_move rfl rfl rfl rfl rfl ?_
          replace hS : Sat w0 (sackP E_ii O_ii 81 sb es room * (blks [(b1, .cells #[eI kd, eI ky] 30 (0, 0))] * (sl 3 1 (.slice ad (expand es).length cap) ((expand es)).length (((expand es)).map eI) * (whole w0 * R)))) w := hS.to (by ac_rfl)
          refine O_call rfl rfl rfl rfl Try.call15 rfl (sMergeSelf_ii hS) (fun _ _ hv => trivial) ?_
          rintro _ w (⟨hno, rfl, hS⟩ | ⟨hyes, rfl, hS⟩)
          · refine O_move rfl rfl rfl rfl rfl ?_
            refine O_cmp rfl rfl rfl rfl rfl rfl rfl ?_
            refine R_nil ?_
            refine tn ?_
            refine F_false rfl rfl ?_
            refine F_skip ?_
            refine bn ?_
            refine tn ?_
            refine F_seq ?_
            refine F_drawnS hS (by kernel_rfl) (p := ⟨_, [0, 2, 0, 0, 0, 0, 0, 2, 0, 0, 0, 0, 0, 0, 0, 0, 0, 1, 2, 0, 0, 1, 2, 0, 0], [(18, 21)]⟩) rfl (.ofList [0, 1, 2, 3, 4, 5, 6, 7, 8, 9, 10, 11, 12, 13, 14, 15, 16, 17, 19, 20, 21, 18, 22, 23, 24]) (by kernel_rfl) ?_
            intro w hS
            refine O_move rfl rfl rfl rfl rfl ?_
            replace hS : Sat w0 (sackP E_ii O_ii 81 sb es room * (blks [(b1, .cells #[eI kd, eI ky] 30 (0, 0))] * (sl 3 1 (.slice ad (expand es).length cap) ((expand es)).length (((expand es)).map eI) * (whole w0 * R)))) w := hS.to (by ac_rfl)
            obtain ⟨_, hw2, hs2, ht2, hr2, _⟩ := sackP_open hS
            have hlen2 := len_expand hw2
            have hcnt : cnt O_ii ky es = cntR O_ii ky (expand es) := by rw [← cnt_expand hw2 hs2]
            refine O_call rfl rfl rfl rfl Try.call16 rfl (pLen_ii hS) (fun _ _ hv => trivial) ?_
            rintro _ w ⟨rfl, hS⟩
            refine O_move rfl rfl rfl rfl rfl ?_
            refine O_lenSl rfl rfl rfl rfl rfl Try.runUnderlying28 ?_
            refine O_cmp rfl rfl rfl rfl rfl rfl rfl ?_
            refine O_move rfl rfl rfl rfl rfl ?_
            refine R_caseF (t := 116) rfl (congrArg Bool.not (decide_eq_true (by omega))) ?_
            refine O_move rfl rfl rfl rfl rfl ?_
            replace hS : Sat w0 (sackP E_ii O_ii 81 sb es room * (blks [(b1, .cells #[eI kd, eI ky] 30 (0, 0))] * (sl 3 1 (.slice ad (expand es).length cap) ((expand es)).length (((expand es)).map eI) * (whole w0 * R)))) w := hS.to (by ac_rfl)
            refine O_call rfl rfl rfl rfl Try.call17 rfl (pRoom_ii hS) (fun _ _ hv => trivial) ?_
            rintro _ w ⟨rfl, hS⟩
            refine O_move rfl rfl rfl rfl rfl ?_
            refine O_move rfl rfl rfl rfl rfl ?_
            refine O_lenSl rfl rfl rfl rfl rfl Try.runUnderlying28 ?_
            refine O_subN rfl rfl rfl rfl rfl rfl (by omega) ?_
            refine O_cmp rfl rfl rfl rfl rfl rfl rfl ?_
            refine O_pickF rfl rfl rfl rfl rfl rfl ?_
            refine O_move rfl rfl rfl rfl rfl ?_
            refine R_caseF (t := 125) rfl (congrArg Bool.not (decide_eq_true (by omega))) ?_
            refine O_move rfl rfl rfl rfl rfl ?_
            refine O_fieldAddr rfl rfl rfl rfl rfl Try.runUnderlying30 rfl Try.sizeOf3 ?_
            replace hS : Sat w0 (blks [(b1, .cells #[eI kd, eI ky] 30 (0, 0))] * (sackP E_ii O_ii 81 sb es room * (sl 3 1 (.slice ad (expand es).length cap) ((expand es)).length (((expand es)).map eI) * (whole w0 * R)))) w := hS.to (by ac_rfl)
            refine O_loadS hS rfl rfl rfl rfl rfl Try.isAgg3 (by first | exact .here rfl | exact .there (.here rfl) | exact .there (.there (.here rfl)) | exact .there (.there (.there (.here rfl))) | exact .there (.there (.there (.there (.here rfl)))) | exact .there (.there (.there (.there (.there (.here rfl))))) | exact .there (.there (.there (.there (.there (.there (.here rfl)))))) | exact .there (.there (.there (.there (.there (.there (.there (.here rfl))))))) | exact .there (.there (.there (.there (.there (.there (.there (.there (.here rfl))))))))) (by trivial) ?_
            refine O_move rfl rfl rfl rfl rfl ?_
            refine O_fieldAddr rfl rfl rfl rfl rfl Try.runUnderlying30 rfl Try.sizeOf3 ?_
            replace hS : Sat w0 (blks [(b1, .cells #[eI kd, eI ky] 30 (0, 0))] * (sackP E_ii O_ii 81 sb es room * (sl 3 1 (.slice ad (expand es).length cap) ((expand es)).length (((expand es)).map eI) * (whole w0 * R)))) w := hS.to (by ac_rfl)
            refine O_loadS hS rfl rfl rfl rfl rfl Try.isAgg3 (by first | exact .here rfl | exact .there (.here rfl) | exact .there (.there (.here rfl)) | exact .there (.there (.there (.here rfl))) | exact .there (.there (.there (.there (.here rfl)))) | exact .there (.there (.there (.there (.there (.here rfl))))) | exact .there (.there (.there (.there (.there (.there (.here rfl)))))) | exact .there (.there (.there (.there (.there (.there (.there (.here rfl))))))) | exact .there (.there (.there (.there (.there (.there (.there (.there (.here rfl))))))))) (by trivial) ?_
            replace hS : Sat w0 (sackP E_ii O_ii 81 sb es room * (blks [(b1, .cells #[eI kd, eI ky] 30 (0, 0))] * (sl 3 1 (.slice ad (expand es).length cap) ((expand es)).length (((expand es)).map eI) * (whole w0 * R)))) w := hS.to (by ac_rfl)
            have hS_18 := hS
            refine O_call rfl rfl rfl rfl Try.call18 rfl (pMany_ii ky hS) (fun _ _ hv => ⟨CellAt.cell (by first | exact .here rfl | exact .there (.here rfl) | exact .there (.there (.here rfl)) | exact .there (.there (.there (.here rfl))) | exact .there (.there (.there (.there (.here rfl)))) | exact .there (.there (.there (.there (.there (.here rfl))))) | exact .there (.there (.there (.there (.there (.there (.here rfl)))))) | exact .there (.there (.there (.there (.there (.there (.there (.here rfl))))))) | exact .there (.there (.there (.there (.there (.there (.there (.there (.here rfl))))))))) (hv.2.b2), trivial⟩) ?_
            rintro _ w ⟨rfl, hS⟩
            replace hS : Sat w0 (sl 3 1 (.slice ad (expand es).length cap) ((expand es)).length (((expand es)).map eI) * (sackP E_ii O_ii 81 sb es room * (blks [(b1, .cells #[eI kd, eI ky] 30 (0, 0))] * (whole w0 * R)))) w := hS.to (by ac_rfl)
            refine O_call rfl rfl rfl rfl Try.call12 rfl (rMany_ii sl_rds rfl (by omega) ky hS) (fun _ _ hv => ⟨trivial, trivial⟩) ?_
            rintro _ w ⟨rfl, hS⟩
            refine O_cmp rfl rfl rfl rfl rfl rfl rfl ?_
            refine O_pickF rfl rfl rfl rfl rfl rfl ?_
            refine R_nil ?_
            refine tn ?_
            refine F_false rfl (congrArg Bool.not (decide_eq_true hcnt)) ?_
            refine F_skip ?_
            refine bn ?_
            refine tn ?_
            refine F_region (p := ⟨_, [0, 0], []⟩) rfl [0, 1] rfl ?_
            refine O_addN rfl rfl rfl rfl rfl rfl (by omega) ?_
            refine O_move rfl rfl rfl rfl rfl ?_
            refine R_nil ?_
            replace hS : Sat w0 (sl 3 1 (.slice ad (expand es).length cap) ((expand es)).length (((expand es)).map eI) * (sackP E_ii O_ii 81 sb es room * (whole w0 * R))) w := Sat.drop (A := blks [(b1, .cells #[eI kd, eI ky] 30 (0, 0))]) (hS.to (by ac_rfl))
            replace hS : Sat w0 (sackP E_ii O_ii 81 sb es room * (sl 3 1 (.slice ad (expand es).length cap) ((expand es)).length (((expand es)).map eI) * (whole w0 * R))) w := hS.to (by ac_rfl)
            refine tn ⟨rfl, rfl, (pre ++ [(kd, ky)], post, _), ⟨rfl, rfl, rfl, rfl, rfl, rfl, congrArg (fun z : Nat => some (Value.int .i64 z)) (show pre.length + 1 = (pre ++ [(kd, ky)]).length by simp), trivial⟩, ⟨by rw [hx]; simp, es, ?_⟩, Nat.lt_succ_self _⟩
            exact hS
          · exfalso
            omega
        · refine F_seq ?_
          refine F_region (p := ⟨_, [0], []⟩) rfl [0] rfl ?_
          refine O_cmp rfl rfl rfl rfl rfl rfl rfl ?_
          refine R_nil ?_
          refine tn ?_
          refine F_seq ?_
          refine F_true rfl (decide_eq_true (by omega)) ?_
          refine F_skip ?_
          refine tn ?_
          refine F_seq ?_
          refine F_block ?_
          refine F_seq ?_
          refine F_region (p := ⟨_, [0, 1, 2, 2], []⟩) rfl [0, 1, 2, 3] rfl ?_
          refine O_indexSlE (m := pre.length) rfl rfl rfl rfl Try.runUnderlying22 Try.sizeOf30 rfl had rfl rfl (by omega) ?_
          refine O_loadAgg [eI kd, eI ky] rfl rfl rfl rfl rfl Try.isAgg30 Try.sizeOf30 rfl hcell (by trivial) ?_
          replace hS := hS.noblks
          refine O_allocS hS rfl rfl rfl rfl Try.zeroValue30 (fun _ _ hv => trivial) ?_
          intro b1 w hS
          refine O_storeAgg (cs := [eI kd, eI ky]) hS rfl rfl rfl rfl rfl rfl Try.sizeOf30 rfl (Nat.le_refl 2) (by simp [one]) (fun _ _ => trivial) ?_
          intro w hS
          replace hS : Sat w0 (blks [(b1, .cells #[eI kd, eI ky] 30 (0, 0))] * (sackP E_ii O_ii 81 sb es room * (sl 3 1 (.slice ad (expand es).length cap) ((expand es)).length (((expand es)).map eI) * (whole w0 * R)))) w := hS
          refine R_nil ?_
          refine tn ?_
          refine F_seq ?_
          refine F_region (p := ⟨_, [0], []⟩) rfl [0] rfl ?_
          refine O_assign rfl rfl rfl rfl rfl ?_
          refine R_nil ?_
          refine tn ?_
          refine F_seq ?_
          refine F_seq ?_
          refine F_region (p := ⟨_, [0, 1], []⟩) rfl [0, 1] rfl ?_
          refine O_fieldAddr rfl rfl rfl rfl rfl Try.runUnderlying30 rfl Try.sizeOf3 ?_
          replace hS : Sat w0 (blks [(b1, .cells #[eI kd, eI ky] 30 (0, 0))] * (sackP E_ii O_ii 81 sb es room * (sl 3 1 (.slice ad (expand es).length cap) ((expand es)).length (((expand es)).map eI) * (whole w0 * R)))) w := hS.to (by ac_rfl)
          refine O_loadS hS rfl rfl rfl rfl rfl Try.isAgg3 (by first | exact .here rfl | exact .there (.here rfl) | exact .there (.there (.here rfl)) | exact .there (.there (.there (.here rfl))) | exact .there (.there (.there (.there (.here rfl)))) | exact .there (.there (.there (.there (.there (.here rfl))))) | exact .there (.there (.there (.there (.there (.there (.here rfl)))))) | exact .there (.there (.there (.there (.there (.there (.there (.here rfl))))))) | exact .there (.there (.there (.there (.there (.there (.there (.there (.here rfl))))))))) (by trivial) ?_
          refine R_nil ?_
          refine tn ?_
          refine F_block ?_
          refine F_seq ?_
          refine F_region (p := ⟨_, [0, 0], []⟩) rfl [0, 1] rfl ?_
          refine O_cmp rfl rfl rfl rfl rfl rfl rfl ?_
          refine O_assign rfl rfl rfl rfl rfl ?_
          refine R_nil ?_
          refine tn ?_
          refine F_false rfl (decide_eq_false (by omega)) ?_
          refine F_seq ?_
          refine F_region (p := ⟨_, [0, 0], []⟩) rfl [0, 1] rfl ?_
          refine O_cmp rfl rfl rfl rfl rfl rfl rfl ?_
          refine O_assign rfl rfl rfl rfl rfl ?_
          refine R_nil ?_
          refine tn ?_
          refine F_false rfl (decide_eq_false (by omega)) ?_
          refine F_seq ?_
          refine F_region (p := ⟨_, [0, 0], []⟩) rfl [0, 1] rfl ?_
          refine O_cmp rfl rfl rfl rfl rfl rfl rfl ?_
          refine O_assign rfl rfl rfl rfl rfl ?_
          refine R_nil ?_
          refine tn ?_
          refine F_true rfl (decide_eq_true (by omega)) ?_
          refine F_seq ?_
          refine F_seq ?_
          refine F_region (p := ⟨_, [0, 0, 0, 0, 0], []⟩) rfl [0, 1, 2, 3, 4] rfl ?_
          refine O_move rfl rfl rfl rfl rfl ?_
          refine O_lenSl rfl rfl rfl rfl rfl Try.runUnderlying28 ?_
          refine O_mulN rfl rfl rfl rfl rfl rfl (by omega) ?_
          refine O_move rfl rfl rfl rfl rfl ?_
          refine O_cmp rfl rfl rfl rfl rfl rfl rfl ?_
          refine R_nil ?_
          refine tn ?_
          refine F_false rfl (decide_eq_false (by omega)) ?_
          refine F_seq ?_
          refine F_region (p := ⟨_, [2, 0, 2, 0, 0], []⟩) rfl [0, 1, 2, 3, 4] rfl ?_
          refine O_sliceLit hS rfl rfl rfl rfl Try.runUnderlying28 Try.sizeOf3 Try.zeroValue3 rfl (by decide) rfl rfl rfl (cs := []) rfl rfl (fun _ _ _ => trivial) ?_
          intro bl1 w hS
          refine O_move rfl rfl rfl rfl rfl ?_
          replace hS : Sat w0 (sl 3 1 (.slice ad (expand es).length cap) ((expand es)).length (((expand es)).map eI) * (sl 3 1 (.slice (some ⟨bl1, 0, none⟩) 0 0) 0 [] * (blks [(b1, .cells #[eI kd, eI ky] 30 (0, 0))] * (sackP E_ii O_ii 81 sb es room * (whole w0 * R))))) w := hS.to (by ac_rfl)
          have hrv := sl_rd hS
          have hnv := sl_nilS hS
          replace hS : Sat w0 (sl 3 1 (.slice (some ⟨bl1, 0, none⟩) 0 0) 0 [] * (sl 3 1 (.slice ad (expand es).length cap) ((expand es)).length (((expand es)).map eI) * (blks [(b1, .cells #[eI kd, eI ky] 30 (0, 0))] * (sackP E_ii O_ii 81 sb es room * (whole w0 * R))))) w := hS.to (by ac_rfl)
          refine O_append (m := (expand es).length) (news := (expand es).map eI) hS rfl rfl rfl rfl Try.underlying28 info_i rfl (by decide) rfl rfl (by simp) hnv hrv (by simp [Value.oneCell']) (by simp only [maxLen]; omega) (by omega) (fun _ _ _ => trivial) ?_
          intro vc w _ hS
          obtain ⟨adc, capc, rfl, hlec, hcapc, _⟩ := sl_form hS
          replace hS : Sat w0 (sl 3 1 (.slice adc (0 + (expand es).length) capc) (0 + (expand es).length) ((expand es).map eI) * (sl 3 1 (.slice ad (expand es).length cap) ((expand es)).length (((expand es)).map eI) * (blks [(b1, .cells #[eI kd, eI ky] 30 (0, 0))] * (sackP E_ii O_ii 81 sb es room * (whole w0 * R))))) w := hS
          skip
          refine O_lenSl rfl rfl rfl rfl rfl Try.runUnderlying28 ?_
          refine O_move rfl rfl rfl rfl rfl ?_
          refine R_nil ?_
          refine tn ?_
          refine F_block ?_
          replace hS : Sat w0 (sl 3 1 (.slice ad (expand es).length cap) ((expand es)).length (((expand es)).map eI) * (sl 3 1 (.slice adc (0 + (expand es).length) capc) (0 + (expand es).length) ((expand es).map eI) * (blks [(b1, .cells #[eI kd, eI ky] 30 (0, 0))] * (sackP E_ii O_ii 81 sb es room * (whole w0 * R))))) w := hS.to (by ac_rfl)
          refine F_loop3 (fun (pre2 _ : List Int) (v : Value) => [(0, .int .i64 room), (2, .int .u8 q), (7, .pointer (some ⟨sb, 0, none⟩)), (9, v), (11, .pointer (some ⟨b1, 0, none⟩)), (12, .int .i64 0), (46, .slice a1 n1 c1), (47, .int .i64 n1), (48, .int .i64 (pre.length : Nat)), (96, .slice adc (0 + (expand es).length) capc), (97, .int .i64 ((0 + (expand es).length : Nat) : Int)), (98, .int .i64 (pre2.length : Nat))]) (fun pre2 post2 v w => expand es = pre2 ++ post2 ∧ Sat w0 (sl 3 1 v ((pre2.foldl (fun s y => insR O_ii y s) (expand es))).length (((pre2.foldl (fun s y => insR O_ii y s) (expand es))).map eI) * (sl 3 1 (.slice adc (0 + (expand es).length) capc) (0 + (expand es).length) ((expand es).map eI) * (blks [(b1, .cells #[eI kd, eI ky] 30 (0, 0))] * (sackP E_ii O_ii 81 sb es room * (whole w0 * R))))) w) (fun _ post2 _ => post2.length) [] (expand es) _ ⟨rfl, rfl, rfl, rfl, rfl, rfl, rfl, rfl, rfl, rfl, rfl, rfl, trivial⟩ ⟨rfl, hS⟩ ?_
          clear hS
          rintro pre2 post2 v w ⟨hx2', hS⟩
          have hlp2 : pre2.length + post2.length = (expand es).length := by rw [hx2', List.length_append]
          rcases post2 with _ | ⟨y, post2⟩
          · simp only [List.length_nil, Nat.add_zero] at hlp2
            rw [List.append_nil] at hx2'
            subst hx2'
            obtain ⟨ad2, cap2, rfl, _, _, _⟩ := sl_form hS
            refine F_seq ?_
            refine F_region (p := ⟨_, [0], []⟩) rfl [0] rfl ?_
            refine O_cmp rfl rfl rfl rfl rfl rfl rfl ?_
            refine R_nil ?_
            refine tn ?_
            refine F_seq ?_
            refine F_false rfl (decide_eq_false (by omega)) ?_
            refine F_exit ?_
            refine tx ?_
            refine tx ?_
            refine Go.Sl.bx rfl ?_
            refine tn ?_
            refine F_seq ?_
            refine F_region (p := ⟨_, [0, 0, 2, 0, 0], []⟩) rfl [0, 1, 2, 3, 4] rfl ?_
            refine O_move rfl rfl rfl rfl rfl ?_
            refine O_move rfl rfl rfl rfl rfl ?_
            replace hS : Sat w0 (sackP E_ii O_ii 81 sb es room * (sl 3 1 (.slice ad2 ((expand es).foldl (fun s y => insR O_ii y s) (expand es)).length cap2) (((expand es).foldl (fun s y => insR O_ii y s) (expand es))).length ((((expand es).foldl (fun s y => insR O_ii y s) (expand es))).map eI) * (sl 3 1 (.slice adc (0 + (expand es).length) capc) (0 + (expand es).length) ((expand es).map eI) * (blks [(b1, .cells #[eI kd, eI ky] 30 (0, 0))] * (whole w0 * R))))) w := hS.to (by ac_rfl)
            refine O_call rfl rfl rfl rfl Try.call15 rfl (sMergeSelf_ii hS) (fun _ _ hv => trivial) ?_
            rintro _ w (⟨hno, rfl, hS⟩ | ⟨hyes, rfl, hS⟩)
            · exfalso
              omega
            · have hx2 : expand ((expand es).foldl (fun s y => addE O_ii y s) es) = ((expand es).foldl (fun s y => insR O_ii y s) (expand es)) := (foldAdd hw hs).2.2.2
              refine O_move rfl rfl rfl rfl rfl ?_
              refine O_cmp rfl rfl rfl rfl rfl rfl rfl ?_
              refine R_nil ?_
              refine tn ?_
              refine F_false rfl rfl ?_
              refine F_skip ?_
              refine bn ?_
              refine tn ?_
              refine F_seq ?_
              refine F_drawnS hS (by kernel_rfl) (p := ⟨_, [0, 2, 0, 0, 0, 0, 0, 2, 0, 0, 0, 0, 0, 0, 0, 0, 0, 1, 2, 0, 0, 1, 2, 0, 0], [(18, 21)]⟩) rfl (.ofList [0, 1, 2, 3, 4, 5, 6, 7, 8, 9, 10, 11, 12, 13, 14, 15, 16, 17, 19, 20, 21, 18, 22, 23, 24]) (by kernel_rfl) ?_
              intro w hS
              refine O_move rfl rfl rfl rfl rfl ?_
              replace hS : Sat w0 (sackP E_ii O_ii 81 sb ((expand es).foldl (fun s y => addE O_ii y s) es) room * (sl 3 1 (.slice ad2 ((expand es).foldl (fun s y => insR O_ii y s) (expand es)).length cap2) (((expand es).foldl (fun s y => insR O_ii y s) (expand es))).length ((((expand es).foldl (fun s y => insR O_ii y s) (expand es))).map eI) * (sl 3 1 (.slice adc (0 + (expand es).length) capc) (0 + (expand es).length) ((expand es).map eI) * (blks [(b1, .cells #[eI kd, eI ky] 30 (0, 0))] * (whole w0 * R))))) w := hS.to (by ac_rfl)
              obtain ⟨_, hw2, hs2, ht2, hr2, _⟩ := sackP_open hS
              have hlen2 := len_expand hw2
              rw [hx2] at hlen2
              have hcnt : cnt O_ii ky ((expand es).foldl (fun s y => addE O_ii y s) es) = cntR O_ii ky ((expand es).foldl (fun s y => insR O_ii y s) (expand es)) := by rw [← cnt_expand hw2 hs2, hx2]
              refine O_call rfl rfl rfl rfl Try.call16 rfl (pLen_ii hS) (fun _ _ hv => trivial) ?_
              rintro _ w ⟨rfl, hS⟩
              refine O_move rfl rfl rfl rfl rfl ?_
              refine O_lenSl rfl rfl rfl rfl rfl Try.runUnderlying28 ?_
              refine O_cmp rfl rfl rfl rfl rfl rfl rfl ?_
              refine O_move rfl rfl rfl rfl rfl ?_
              refine R_caseF (t := 116) rfl (congrArg Bool.not (decide_eq_true (by omega))) ?_
              refine O_move rfl rfl rfl rfl rfl ?_
              replace hS : Sat w0 (sackP E_ii O_ii 81 sb ((expand es).foldl (fun s y => addE O_ii y s) es) room * (sl 3 1 (.slice ad2 ((expand es).foldl (fun s y => insR O_ii y s) (expand es)).length cap2) (((expand es).foldl (fun s y => insR O_ii y s) (expand es))).length ((((expand es).foldl (fun s y => insR O_ii y s) (expand es))).map eI) * (sl 3 1 (.slice adc (0 + (expand es).length) capc) (0 + (expand es).length) ((expand es).map eI) * (blks [(b1, .cells #[eI kd, eI ky] 30 (0, 0))] * (whole w0 * R))))) w := hS.to (by ac_rfl)
              refine O_call rfl rfl rfl rfl Try.call17 rfl (pRoom_ii hS) (fun _ _ hv => trivial) ?_
              rintro _ w ⟨rfl, hS⟩
              refine O_move rfl rfl rfl rfl rfl ?_
              refine O_move rfl rfl rfl rfl rfl ?_
              refine O_lenSl rfl rfl rfl rfl rfl Try.runUnderlying28 ?_
              refine O_subN rfl rfl rfl rfl rfl rfl (by omega) ?_
              refine O_cmp rfl rfl rfl rfl rfl rfl rfl ?_
              refine O_pickF rfl rfl rfl rfl rfl rfl ?_
              refine O_move rfl rfl rfl rfl rfl ?_
              refine R_caseF (t := 125) rfl (congrArg Bool.not (decide_eq_true (by omega))) ?_
              refine O_move rfl rfl rfl rfl rfl ?_
              refine O_fieldAddr rfl rfl rfl rfl rfl Try.runUnderlying30 rfl Try.sizeOf3 ?_
              replace hS : Sat w0 (blks [(b1, .cells #[eI kd, eI ky] 30 (0, 0))] * (sackP E_ii O_ii 81 sb ((expand es).foldl (fun s y => addE O_ii y s) es) room * (sl 3 1 (.slice ad2 ((expand es).foldl (fun s y => insR O_ii y s) (expand es)).length cap2) (((expand es).foldl (fun s y => insR O_ii y s) (expand es))).length ((((expand es).foldl (fun s y => insR O_ii y s) (expand es))).map eI) * (sl 3 1 (.slice adc (0 + (expand es).length) capc) (0 + (expand es).length) ((expand es).map eI) * (whole w0 * R))))) w := hS.to (by ac_rfl)
              refine O_loadS hS rfl rfl rfl rfl rfl Try.isAgg3 (by first | exact .here rfl | exact .there (.here rfl) | exact .there (.there (.here rfl)) | exact .there (.there (.there (.here rfl))) | exact .there (.there (.there (.there (.here rfl)))) | exact .there (.there (.there (.there (.there (.here rfl))))) | exact .there (.there (.there (.there (.there (.there (.here rfl)))))) | exact .there (.there (.there (.there (.there (.there (.there (.here rfl))))))) | exact .there (.there (.there (.there (.there (.there (.there (.there (.here rfl))))))))) (by trivial) ?_
              refine O_move rfl rfl rfl rfl rfl ?_
              refine O_fieldAddr rfl rfl rfl rfl rfl Try.runUnderlying30 rfl Try.sizeOf3 ?_
              replace hS : Sat w0 (blks [(b1, .cells #[eI kd, eI ky] 30 (0, 0))] * (sackP E_ii O_ii 81 sb ((expand es).foldl (fun s y => addE O_ii y s) es) room * (sl 3 1 (.slice ad2 ((expand es).foldl (fun s y => insR O_ii y s) (expand es)).length cap2) (((expand es).foldl (fun s y => insR O_ii y s) (expand es))).length ((((expand es).foldl (fun s y => insR O_ii y s) (expand es))).map eI) * (sl 3 1 (.slice adc (0 + (expand es).length) capc) (0 + (expand es).length) ((expand es).map eI) * (whole w0 * R))))) w := hS.to (by ac_rfl)
              refine O_loadS hS rfl rfl rfl rfl rfl Try.isAgg3 (by first | exact .here rfl | exact .there (.here rfl) | exact .there (.there (.here rfl)) | exact .there (.there (.there (.here rfl))) | exact .there (.there (.there (.there (.here rfl)))) | exact .there (.there (.there (.there (.there (.here rfl))))) | exact .there (.there (.there (.there (.there (.there (.here rfl)))))) | exact .there (.there (.there (.there (.there (.there (.there (.here rfl))))))) | exact .there (.there (.there (.there (.there (.there (.there (.there (.here rfl))))))))) (by trivial) ?_
              replace hS : Sat w0 (sackP E_ii O_ii 81 sb ((expand es).foldl (fun s y => addE O_ii y s) es) room * (blks [(b1, .cells #[eI kd, eI ky] 30 (0, 0))] * (sl 3 1 (.slice ad2 ((expand es).foldl (fun s y => insR O_ii y s) (expand es)).length cap2) (((expand es).foldl (fun s y => insR O_ii y s) (expand es))).length ((((expand es).foldl (fun s y => insR O_ii y s) (expand es))).map eI) * (sl 3 1 (.slice adc (0 + (expand es).length) capc) (0 + (expand es).length) ((expand es).map eI) * (whole w0 * R))))) w := hS.to (by ac_rfl)
              have hS_18 := hS
              refine O_call rfl rfl rfl rfl Try.call18 rfl (pMany_ii ky hS) (fun _ _ hv => ⟨CellAt.cell (by first | exact .here rfl | exact .there (.here rfl) | exact .there (.there (.here rfl)) | exact .there (.there (.there (.here rfl))) | exact .there (.there (.there (.there (.here rfl)))) | exact .there (.there (.there (.there (.there (.here rfl))))) | exact .there (.there (.there (.there (.there (.there (.here rfl)))))) | exact .there (.there (.there (.there (.there (.there (.there (.here rfl))))))) | exact .there (.there (.there (.there (.there (.there (.there (.there (.here rfl))))))))) (hv.2.b2), trivial⟩) ?_
              rintro _ w ⟨rfl, hS⟩
              replace hS : Sat w0 (sl 3 1 (.slice ad2 ((expand es).foldl (fun s y => insR O_ii y s) (expand es)).length cap2) (((expand es).foldl (fun s y => insR O_ii y s) (expand es))).length ((((expand es).foldl (fun s y => insR O_ii y s) (expand es))).map eI) * (sackP E_ii O_ii 81 sb ((expand es).foldl (fun s y => addE O_ii y s) es) room * (blks [(b1, .cells #[eI kd, eI ky] 30 (0, 0))] * (sl 3 1 (.slice adc (0 + (expand es).length) capc) (0 + (expand es).length) ((expand es).map eI) * (whole w0 * R))))) w := hS.to (by ac_rfl)
              refine O_call rfl rfl rfl rfl Try.call12 rfl (rMany_ii sl_rds rfl (by omega) ky hS) (fun _ _ hv => ⟨trivial, trivial⟩) ?_
              rintro _ w ⟨rfl, hS⟩
              refine O_cmp rfl rfl rfl rfl rfl rfl rfl ?_
              refine O_pickF rfl rfl rfl rfl rfl rfl ?_
              refine R_nil ?_
              refine tn ?_
              refine F_false rfl (congrArg Bool.not (decide_eq_true hcnt)) ?_
              refine F_skip ?_
              refine bn ?_
              refine tn ?_
              refine F_region (p := ⟨_, [0, 0], []⟩) rfl [0, 1] rfl ?_
              refine O_addN rfl rfl rfl rfl rfl rfl (by omega) ?_
              refine O_move rfl rfl rfl rfl rfl ?_
              refine R_nil ?_
              replace hS : Sat w0 (sl 3 1 (.slice ad2 ((expand es).foldl (fun s y => insR O_ii y s) (expand es)).length cap2) (((expand es).foldl (fun s y => insR O_ii y s) (expand es))).length ((((expand es).foldl (fun s y => insR O_ii y s) (expand es))).map eI) * (sackP E_ii O_ii 81 sb ((expand es).foldl (fun s y => addE O_ii y s) es) room * (whole w0 * R))) w := Sat.drop (A := blks [(b1, .cells #[eI kd, eI ky] 30 (0, 0))] * sl 3 1 (.slice adc (0 + (expand es).length) capc) (0 + (expand es).length) ((expand es).map eI)) (hS.to (by ac_rfl))
              replace hS : Sat w0 (sackP E_ii O_ii 81 sb ((expand es).foldl (fun s y => addE O_ii y s) es) room * (sl 3 1 (.slice ad2 ((expand es).foldl (fun s y => insR O_ii y s) (expand es)).length cap2) (((expand es).foldl (fun s y => insR O_ii y s) (expand es))).length ((((expand es).foldl (fun s y => insR O_ii y s) (expand es))).map eI) * (whole w0 * R))) w := hS.to (by ac_rfl)
              refine tn ⟨rfl, rfl, (pre ++ [(kd, ky)], post, _), ⟨rfl, rfl, rfl, rfl, rfl, rfl, congrArg (fun z : Nat => some (Value.int .i64 z)) (show pre.length + 1 = (pre ++ [(kd, ky)]).length by simp), trivial⟩, ⟨by rw [hx]; simp, ((expand es).foldl (fun s y => addE O_ii y s) es), ?_⟩, Nat.lt_succ_self _⟩
              rw [hx2]
              exact hS
          · simp only [List.length_cons] at hlp2
            obtain ⟨eb2, eo2, had2, hcell2⟩ := el1 (m := pre2.length) (u := eI y) (sl_rd (hS.to (B := sl 3 1 (.slice adc (0 + (expand es).length) capc) (0 + (expand es).length) ((expand es).map eI) * (sl 3 1 v ((pre2.foldl (fun s y => insR O_ii y s) (expand es))).length (((pre2.foldl (fun s y => insR O_ii y s) (expand es))).map eI) * (blks [(b1, .cells #[eI kd, eI ky] 30 (0, 0))] * (sackP E_ii O_ii 81 sb es room * (whole w0 * R))))) (by ac_rfl))) (by rw [hx2']; simp)
            refine F_seq ?_
            refine F_region (p := ⟨_, [0], []⟩) rfl [0] rfl ?_
            refine O_cmp rfl rfl rfl rfl rfl rfl rfl ?_
            refine R_nil ?_
            refine tn ?_
            refine F_seq ?_
            refine F_true rfl (decide_eq_true (by omega)) ?_
            refine F_skip ?_
            refine tn ?_
            refine F_seq ?_
            refine F_block ?_
            refine F_seq ?_
            refine F_region (p := ⟨_, [0, 1, 0], []⟩) rfl [0, 1, 2] rfl ?_
            refine O_indexSlE (m := pre2.length) rfl rfl rfl rfl Try.runUnderlying28 Try.sizeOf3 rfl had2 rfl rfl (by omega) ?_
            refine O_load rfl rfl rfl rfl rfl Try.isAgg3 hcell2 (by trivial) ?_
            refine O_assign rfl rfl rfl rfl rfl ?_
            refine R_nil ?_
            refine tn ?_
            refine F_region (p := ⟨_, [0, 0, 2, 0], []⟩) rfl [0, 1, 2, 3] rfl ?_
            refine O_move rfl rfl rfl rfl rfl ?_
            refine O_move rfl rfl rfl rfl rfl ?_
            replace hS : Sat w0 (sl 3 1 v ((pre2.foldl (fun s y => insR O_ii y s) (expand es))).length (((pre2.foldl (fun s y => insR O_ii y s) (expand es))).map eI) * (sl 3 1 (.slice adc (0 + (expand es).length) capc) (0 + (expand es).length) ((expand es).map eI) * (blks [(b1, .cells #[eI kd, eI ky] 30 (0, 0))] * (sackP E_ii O_ii 81 sb es room * (whole w0 * R))))) w := hS.to (by ac_rfl)
            refine O_call rfl rfl rfl rfl Try.call10 rfl (rAdd_ii (by rw [foldIns_len]; omega) y hS) (fun _ _ hv => trivial) ?_
            rintro v3 w hS
            refine O_assign rfl rfl rfl rfl rfl ?_
            refine R_nil ?_
            refine bn ?_
            refine tn ?_
            refine F_region (p := ⟨_, [0, 0], []⟩) rfl [0, 1] rfl ?_
            refine O_addN rfl rfl rfl rfl rfl rfl (by omega) ?_
            refine O_move rfl rfl rfl rfl rfl ?_
            refine R_nil ?_
            replace hS : Sat w0 (sl 3 1 v3 ((insR O_ii y (pre2.foldl (fun s y => insR O_ii y s) (expand es)))).length (((insR O_ii y (pre2.foldl (fun s y => insR O_ii y s) (expand es)))).map eI) * (sl 3 1 (.slice adc (0 + (expand es).length) capc) (0 + (expand es).length) ((expand es).map eI) * (blks [(b1, .cells #[eI kd, eI ky] 30 (0, 0))] * (sackP E_ii O_ii 81 sb es room * (whole w0 * R))))) w := hS.to (by ac_rfl)
            refine tn ⟨rfl, rfl, (pre2 ++ [y], post2, _), ⟨rfl, rfl, rfl, rfl, rfl, rfl, rfl, rfl, rfl, rfl, rfl, congrArg (fun z : Nat => some (Value.int .i64 z)) (show pre2.length + 1 = (pre2 ++ [y]).length by simp), trivial⟩, ⟨by rw [hx2']; simp, ?_⟩, Nat.lt_succ_self _⟩
            show Sat w0 (sl 3 1 _ ((pre2 ++ [y]).foldl (fun s y => insR O_ii y s) (expand es)).length (((pre2 ++ [y]).foldl (fun s y => insR O_ii y s) (expand es)).map eI) * (sl 3 1 (.slice adc (0 + (expand es).length) capc) (0 + (expand es).length) ((expand es).map eI) * (blks [(b1, .cells #[eI kd, eI ky] 30 (0, 0))] * (sackP E_ii O_ii 81 sb es room * (whole w0 * R))))) w
            rw [List.foldl_append]; exact hS
      · refine F_seq ?_
        refine F_region (p := ⟨_, [0], []⟩) rfl [0] rfl ?_
        refine O_cmp rfl rfl rfl rfl rfl rfl rfl ?_
        refine R_nil ?_
        refine tn ?_
        refine F_seq ?_
        refine F_true rfl (decide_eq_true (by omega)) ?_
        refine F_skip ?_
        refine tn ?_
        refine F_seq ?_
        refine F_block ?_
        refine F_seq ?_
        refine F_region (p := ⟨_, [0, 1, 2, 2], []⟩) rfl [0, 1, 2, 3] rfl ?_
        refine O_indexSlE (m := pre.length) rfl rfl rfl rfl Try.runUnderlying22 Try.sizeOf30 rfl had rfl rfl (by omega) ?_
        refine O_loadAgg [eI kd, eI ky] rfl rfl rfl rfl rfl Try.isAgg30 Try.sizeOf30 rfl hcell (by trivial) ?_
        replace hS := hS.noblks
        refine O_allocS hS rfl rfl rfl rfl Try.zeroValue30 (fun _ _ hv => trivial) ?_
        intro b1 w hS
        refine O_storeAgg (cs := [eI kd, eI ky]) hS rfl rfl rfl rfl rfl rfl Try.sizeOf30 rfl (Nat.le_refl 2) (by simp [one]) (fun _ _ => trivial) ?_
        intro w hS
        replace hS : Sat w0 (blks [(b1, .cells #[eI kd, eI ky] 30 (0, 0))] * (sackP E_ii O_ii 81 sb es room * (sl 3 1 (.slice ad (expand es).length cap) ((expand es)).length (((expand es)).map eI) * (whole w0 * R)))) w := hS
        refine R_nil ?_
        refine tn ?_
        refine F_seq ?_
        refine F_region (p := ⟨_, [0], []⟩) rfl [0] rfl ?_
        refine O_assign rfl rfl rfl rfl rfl ?_
        refine R_nil ?_
        refine tn ?_
        refine F_seq ?_
        refine F_seq ?_
        refine F_region (p := ⟨_, [0, 1], []⟩) rfl [0, 1] rfl ?_
        refine O_fieldAddr rfl rfl rfl rfl rfl Try.runUnderlying30 rfl Try.sizeOf3 ?_
        replace hS : Sat w0 (blks [(b1, .cells #[eI kd, eI ky] 30 (0, 0))] * (sackP E_ii O_ii 81 sb es room * (sl 3 1 (.slice ad (expand es).length cap) ((expand es)).length (((expand es)).map eI) * (whole w0 * R)))) w := hS.to (by ac_rfl)
        refine O_loadS hS rfl rfl rfl rfl rfl Try.isAgg3 (by first | exact .here rfl | exact .there (.here rfl) | exact .there (.there (.here rfl)) | exact .there (.there (.there (.here rfl))) | exact .there (.there (.there (.there (.here rfl)))) | exact .there (.there (.there (.there (.there (.here rfl))))) | exact .there (.there (.there (.there (.there (.there (.here rfl)))))) | exact .there (.there (.there (.there (.there (.there (.there (.here rfl))))))) | exact .there (.there (.there (.there (.there (.there (.there (.there (.here rfl))))))))) (by trivial) ?_
        refine R_nil ?_
        refine tn ?_
        refine F_block ?_
        refine F_seq ?_
        refine F_region (p := ⟨_, [0, 0], []⟩) rfl [0, 1] rfl ?_
        refine O_cmp rfl rfl rfl rfl rfl rfl rfl ?_
        refine O_assign rfl rfl rfl rfl rfl ?_
        refine R_nil ?_
        refine tn ?_
        refine F_false rfl (decide_eq_false (by omega)) ?_
        refine F_seq ?_
        refine F_region (p := ⟨_, [0, 0], []⟩) rfl [0, 1] rfl ?_
        refine O_cmp rfl rfl rfl rfl rfl rfl rfl ?_
        refine O_assign rfl rfl rfl rfl rfl ?_
        refine R_nil ?_
        refine tn ?_
        refine F_false rfl (decide_eq_false (by omega)) ?_
        refine F_seq ?_
        refine F_region (p := ⟨_, [0, 0], []⟩) rfl [0, 1] rfl ?_
        refine O_cmp rfl rfl rfl rfl rfl rfl rfl ?_
        refine O_assign rfl rfl rfl rfl rfl ?_
        refine R_nil ?_
        refine tn ?_
        refine F_false rfl (decide_eq_false (by omega)) ?_
        refine F_skip ?_
        refine bn ?_
        refine tn ?_
        refine F_seq ?_
        refine F_drawnS hS (by kernel_rfl) (p := ⟨_, [0, 2, 0, 0, 0, 0, 0, 2, 0, 0, 0, 0, 0, 0, 0, 0, 0, 1, 2, 0, 0, 1, 2, 0, 0], [(18, 21)]⟩) rfl (.ofList [0, 1, 2, 3, 4, 5, 6, 7, 8, 9, 10, 11, 12, 13, 14, 15, 16, 17, 19, 20, 21, 18, 22, 23, 24]) (by kernel_rfl) ?_
        intro w hS
        refine O_move rfl rfl rfl rfl rfl ?_
        replace hS : Sat w0 (sackP E_ii O_ii 81 sb es room * (blks [(b1, .cells #[eI kd, eI ky] 30 (0, 0))] * (sl 3 1 (.slice ad (expand es).length cap) ((expand es)).length (((expand es)).map eI) * (whole w0 * R)))) w := hS.to (by ac_rfl)
        obtain ⟨_, hw2, hs2, ht2, hr2, _⟩ := sackP_open hS
        have hlen2 := len_expand hw2
        have hcnt : cnt O_ii ky es = cntR O_ii ky (expand es) := by rw [← cnt_expand hw2 hs2]
        refine O_call rfl rfl rfl rfl Try.call16 rfl (pLen_ii hS) (fun _ _ hv => trivial) ?_
        rintro _ w ⟨rfl, hS⟩
        refine O_move rfl rfl rfl rfl rfl ?_
        refine O_lenSl rfl rfl rfl rfl rfl Try.runUnderlying28 ?_
        refine O_cmp rfl rfl rfl rfl rfl rfl rfl ?_
        refine O_move rfl rfl rfl rfl rfl ?_
        refine R_caseF (t := 116) rfl (congrArg Bool.not (decide_eq_true (by omega))) ?_
        refine O_move rfl rfl rfl rfl rfl ?_
        replace hS : Sat w0 (sackP E_ii O_ii 81 sb es room * (blks [(b1, .cells #[eI kd, eI ky] 30 (0, 0))] * (sl 3 1 (.slice ad (expand es).length cap) ((expand es)).length (((expand es)).map eI) * (whole w0 * R)))) w := hS.to (by ac_rfl)
        refine O_call rfl rfl rfl rfl Try.call17 rfl (pRoom_ii hS) (fun _ _ hv => trivial) ?_
        rintro _ w ⟨rfl, hS⟩
        refine O_move rfl rfl rfl rfl rfl ?_
        refine O_move rfl rfl rfl rfl rfl ?_
        refine O_lenSl rfl rfl rfl rfl rfl Try.runUnderlying28 ?_
        refine O_subN rfl rfl rfl rfl rfl rfl (by omega) ?_
        refine O_cmp rfl rfl rfl rfl rfl rfl rfl ?_
        refine O_pickF rfl rfl rfl rfl rfl rfl ?_
        refine O_move rfl rfl rfl rfl rfl ?_
        refine R_caseF (t := 125) rfl (congrArg Bool.not (decide_eq_true (by omega))) ?_
        refine O_move rfl rfl rfl rfl rfl ?_
        refine O_fieldAddr rfl rfl rfl rfl rfl Try.runUnderlying30 rfl Try.sizeOf3 ?_
        replace hS : Sat w0 (blks [(b1, .cells #[eI kd, eI ky] 30 (0, 0))] * (sackP E_ii O_ii 81 sb es room * (sl 3 1 (.slice ad (expand es).length cap) ((expand es)).length (((expand es)).map eI) * (whole w0 * R)))) w := hS.to (by ac_rfl)
        refine O_loadS hS rfl rfl rfl rfl rfl Try.isAgg3 (by first | exact .here rfl | exact .there (.here rfl) | exact .there (.there (.here rfl)) | exact .there (.there (.there (.here rfl))) | exact .there (.there (.there (.there (.here rfl)))) | exact .there (.there (.there (.there (.there (.here rfl))))) | exact .there (.there (.there (.there (.there (.there (.here rfl)))))) | exact .there (.there (.there (.there (.there (.there (.there (.here rfl))))))) | exact .there (.there (.there (.there (.there (.there (.there (.there (.here rfl))))))))) (by trivial) ?_
        refine O_move rfl rfl rfl rfl rfl ?_
        refine O_fieldAddr rfl rfl rfl rfl rfl Try.runUnderlying30 rfl Try.sizeOf3 ?_
        replace hS : Sat w0 (blks [(b1, .cells #[eI kd, eI ky] 30 (0, 0))] * (sackP E_ii O_ii 81 sb es room * (sl 3 1 (.slice ad (expand es).length cap) ((expand es)).length (((expand es)).map eI) * (whole w0 * R)))) w := hS.to (by ac_rfl)
        refine O_loadS hS rfl rfl rfl rfl rfl Try.isAgg3 (by first | exact .here rfl | exact .there (.here rfl) | exact .there (.there (.here rfl)) | exact .there (.there (.there (.here rfl))) | exact .there (.there (.there (.there (.here rfl)))) | exact .there (.there (.there (.there (.there (.here rfl))))) | exact .there (.there (.there (.there (.there (.there (.here rfl)))))) | exact .there (.there (.there (.there (.there (.there (.there (.here rfl))))))) | exact .there (.there (.there (.there (.there (.there (.there (.there (.here rfl))))))))) (by trivial) ?_
        replace hS : Sat w0 (sackP E_ii O_ii 81 sb es room * (blks [(b1, .cells #[eI kd, eI ky] 30 (0, 0))] * (sl 3 1 (.slice ad (expand es).length cap) ((expand es)).length (((expand es)).map eI) * (whole w0 * R)))) w := hS.to (by ac_rfl)
        have hS_18 := hS
        refine O_call rfl rfl rfl rfl Try.call18 rfl (pMany_ii ky hS) (fun _ _ hv => ⟨CellAt.cell (by first | exact .here rfl | exact .there (.here rfl) | exact .there (.there (.here rfl)) | exact .there (.there (.there (.here rfl))) | exact .there (.there (.there (.there (.here rfl)))) | exact .there (.there (.there (.there (.there (.here rfl))))) | exact .there (.there (.there (.there (.there (.there (.here rfl)))))) | exact .there (.there (.there (.there (.there (.there (.there (.here rfl))))))) | exact .there (.there (.there (.there (.there (.there (.there (.there (.here rfl))))))))) (hv.2.b2), trivial⟩) ?_
        rintro _ w ⟨rfl, hS⟩
        replace hS : Sat w0 (sl 3 1 (.slice ad (expand es).length cap) ((expand es)).length (((expand es)).map eI) * (sackP E_ii O_ii 81 sb es room * (blks [(b1, .cells #[eI kd, eI ky] 30 (0, 0))] * (whole w0 * R)))) w := hS.to (by ac_rfl)
        refine O_call rfl rfl rfl rfl Try.call12 rfl (rMany_ii sl_rds rfl (by omega) ky hS) (fun _ _ hv => ⟨trivial, trivial⟩) ?_
        rintro _ w ⟨rfl, hS⟩
        refine O_cmp rfl rfl rfl rfl rfl rfl rfl ?_
        refine O_pickF rfl rfl rfl rfl rfl rfl ?_
        refine R_nil ?_
        refine tn ?_
        refine F_false rfl (congrArg Bool.not (decide_eq_true hcnt)) ?_
        refine F_skip ?_
        refine bn ?_
        refine tn ?_
        refine F_region (p := ⟨_, [0, 0], []⟩) rfl [0, 1] rfl ?_
        refine O_addN rfl rfl rfl rfl rfl rfl (by omega) ?_
        refine O_move rfl rfl rfl rfl rfl ?_
        refine R_nil ?_
        replace hS : Sat w0 (sl 3 1 (.slice ad (expand es).length cap) ((expand es)).length (((expand es)).map eI) * (sackP E_ii O_ii 81 sb es room * (whole w0 * R))) w := Sat.drop (A := blks [(b1, .cells #[eI kd, eI ky] 30 (0, 0))]) (hS.to (by ac_rfl))
        replace hS : Sat w0 (sackP E_ii O_ii 81 sb es room * (sl 3 1 (.slice ad (expand es).length cap) ((expand es)).length (((expand es)).map eI) * (whole w0 * R))) w := hS.to (by ac_rfl)
        refine tn ⟨rfl, rfl, (pre ++ [(kd, ky)], post, _), ⟨rfl, rfl, rfl, rfl, rfl, rfl, congrArg (fun z : Nat => some (Value.int .i64 z)) (show pre.length + 1 = (pre ++ [(kd, ky)]).length by simp), trivial⟩, ⟨by rw [hx]; simp, es, ?_⟩, Nat.lt_succ_self _⟩
        exact hS
end Go.Proofs.Ytpnigaoibhogfaa
